/- What the functions of FnExactBytesOf answer. No condition. -/
import Derived.Test.YtlggbfmpfhohjaaVFnExactBytesOfP3
namespace Go.Proofs.Ytlggbfmpfhohjaa.V
open Go
set_option maxRecDepth 100000
set_option linter.unusedVariables false
set_option linter.unusedSectionVars false
set_option linter.unusedSimpArgs false
set_option maxHeartbeats 2000000
section
variable [i_laws_szType : laws_szType_O]
variable [g_laws_szType : laws_szType_G]
section
variable [i_laws_toType : laws_toType_O]
variable [g_laws_toType : laws_toType_G]
section
variable [i_spec_l02Size : spec_l02Size_O]
variable [g_spec_l02Size : spec_l02Size_G]
section
variable [i_spec_l02Depth : spec_l02Depth_O]
variable [g_spec_l02Depth : spec_l02Depth_G]
section
variable [i_spec_l02Ok : spec_l02Ok_O]
variable [g_spec_l02Ok : spec_l02Ok_G]
section
variable [i_impl_Type_size : impl_Type_size_O]
variable [g_impl_Type_size : impl_Type_size_G]
section
variable [i_impl_SameType : impl_SameType_O]
variable [g_impl_SameType : impl_SameType_G]
section
variable [i_impl_Type_valid : impl_Type_valid_O]
variable [g_impl_Type_valid : impl_Type_valid_G]
theorem impl_Type_enumOk_is5 : LoopIs tab FT D50 live 115 impl_Type_enumOk_lo 0 5 := by
  refine loop_told (sl := impl_Type_enumOk_5_sl) (step := impl_Type_enumOk_5_st) (out := impl_Type_enumOk_5_out) (lor := impl_Type_enumOk_lo5) (fin := fun x => (impl_Type_enumOk_5_fin (x.1) (x.2.1) (x.2.2.1) (x.2.2.2.1) (x.2.2.2.2.1) (x.2.2.2.2.2.1) (x.2.2.2.2.2.2.1) (x.2.2.2.2.2.2.2.1) (x.2.2.2.2.2.2.2.2.1) (x.2.2.2.2.2.2.2.2.2.1) (x.2.2.2.2.2.2.2.2.2.2.1) (x.2.2.2.2.2.2.2.2.2.2.2.1) (x.2.2.2.2.2.2.2.2.2.2.2.2.1) (x.2.2.2.2.2.2.2.2.2.2.2.2.2))) (fun _ => rfl) ?_ (fun x n => impl_Type_enumOk_5_r x.1 x.2.1 x.2.2.1 x.2.2.2.1 x.2.2.2.2.1 x.2.2.2.2.2.1 x.2.2.2.2.2.2.1 x.2.2.2.2.2.2.2.1 x.2.2.2.2.2.2.2.2.1 x.2.2.2.2.2.2.2.2.2.1 x.2.2.2.2.2.2.2.2.2.2.1 x.2.2.2.2.2.2.2.2.2.2.2.1 x.2.2.2.2.2.2.2.2.2.2.2.2.1 x.2.2.2.2.2.2.2.2.2.2.2.2.2 n) (fun x ow => impl_Type_enumOk_5_h x.1 x.2.1 x.2.2.1 x.2.2.2.1 x.2.2.2.2.1 x.2.2.2.2.2.1 x.2.2.2.2.2.2.1 x.2.2.2.2.2.2.2.1 x.2.2.2.2.2.2.2.2.1 x.2.2.2.2.2.2.2.2.2.1 x.2.2.2.2.2.2.2.2.2.2.1 x.2.2.2.2.2.2.2.2.2.2.2.1 x.2.2.2.2.2.2.2.2.2.2.2.2.1 x.2.2.2.2.2.2.2.2.2.2.2.2.2 ow)
  intro s t h
  unfold impl_Type_enumOk_lo5 at h
  split at h
  · cases h; exact ⟨(_, _, _, _, _, _, _, _, _, _, _, _, _, _), rfl, rfl⟩
  · cases h
noncomputable def impl_Type_enumOk_t (k s : Int) (sg bg : Bool) (NA NU ME BA : List (List TC)) (ct : Int) : Tr (Bool) := (.ite ((!((BA.length : Int) == (1 : Int))) = true) (.ok false)
  (.ite ((0 : Int) ≤ (0 : Int) ∧ (0 : Int) < (BA.length : Int)) (.ite ((!((nth (row BA (0 : Int)) 0).int == (1 : Int))) = true) (.ok false)
    (.ite ((0 : Int) ≤ (0 : Int) ∧ (0 : Int) < (BA.length : Int)) (.ite ((impl_Type_valid_rc ((nth (row BA (0 : Int)) 0).int) ((nth (row BA (0 : Int)) 1).int) ((nth (row BA (0 : Int)) 2).bool) ((nth (row BA (0 : Int)) 3).bool) ((nth (row BA (0 : Int)) 4).list) ((nth (row BA (0 : Int)) 5).list) ((nth (row BA (0 : Int)) 6).list) ((nth (row BA (0 : Int)) 7).list) ((nth (row BA (0 : Int)) 8).int) (1 : Int)) = true) (.ite ((!(impl_Type_valid_rv ((nth (row BA (0 : Int)) 0).int) ((nth (row BA (0 : Int)) 1).int) ((nth (row BA (0 : Int)) 2).bool) ((nth (row BA (0 : Int)) 3).bool) ((nth (row BA (0 : Int)) 4).list) ((nth (row BA (0 : Int)) 5).list) ((nth (row BA (0 : Int)) 6).list) ((nth (row BA (0 : Int)) 7).list) ((nth (row BA (0 : Int)) 8).int) (1 : Int))) = true) (.ok false)
       (.ite ((0 : Int) ≤ (0 : Int) ∧ (0 : Int) < (BA.length : Int)) (.ite ((impl_Type_intRange_c ((nth (row BA (0 : Int)) 0).int) ((nth (row BA (0 : Int)) 1).int) ((nth (row BA (0 : Int)) 2).bool) ((nth (row BA (0 : Int)) 3).bool) ((nth (row BA (0 : Int)) 4).list) ((nth (row BA (0 : Int)) 5).list) ((nth (row BA (0 : Int)) 6).list) ((nth (row BA (0 : Int)) 7).list) ((nth (row BA (0 : Int)) 8).int)) = true) (.ite ((impl_Type_enumOk_k5_1 k s sg bg NA NU ME BA ct ((impl_Type_intRange_v ((nth (row BA (0 : Int)) 0).int) ((nth (row BA (0 : Int)) 1).int) ((nth (row BA (0 : Int)) 2).bool) ((nth (row BA (0 : Int)) 3).bool) ((nth (row BA (0 : Int)) 4).list) ((nth (row BA (0 : Int)) 5).list) ((nth (row BA (0 : Int)) 6).list) ((nth (row BA (0 : Int)) 7).list) ((nth (row BA (0 : Int)) 8).int)).1) ((impl_Type_intRange_v ((nth (row BA (0 : Int)) 0).int) ((nth (row BA (0 : Int)) 1).int) ((nth (row BA (0 : Int)) 2).bool) ((nth (row BA (0 : Int)) 3).bool) ((nth (row BA (0 : Int)) 4).list) ((nth (row BA (0 : Int)) 5).list) ((nth (row BA (0 : Int)) 6).list) ((nth (row BA (0 : Int)) 7).list) ((nth (row BA (0 : Int)) 8).int)).2) NU (NU.length : Int) (0 : Int)) = true) (.ite ((impl_Type_enumOk_o5_2 k s sg bg NA NU ME BA ct ((impl_Type_intRange_v ((nth (row BA (0 : Int)) 0).int) ((nth (row BA (0 : Int)) 1).int) ((nth (row BA (0 : Int)) 2).bool) ((nth (row BA (0 : Int)) 3).bool) ((nth (row BA (0 : Int)) 4).list) ((nth (row BA (0 : Int)) 5).list) ((nth (row BA (0 : Int)) 6).list) ((nth (row BA (0 : Int)) 7).list) ((nth (row BA (0 : Int)) 8).int)).1) ((impl_Type_intRange_v ((nth (row BA (0 : Int)) 0).int) ((nth (row BA (0 : Int)) 1).int) ((nth (row BA (0 : Int)) 2).bool) ((nth (row BA (0 : Int)) 3).bool) ((nth (row BA (0 : Int)) 4).list) ((nth (row BA (0 : Int)) 5).list) ((nth (row BA (0 : Int)) 6).list) ((nth (row BA (0 : Int)) 7).list) ((nth (row BA (0 : Int)) 8).int)).2) NU (NU.length : Int) (0 : Int)) = true) (.ok false)
           .no)
          (.ite ((impl_Type_enumOk_o5_3 k s sg bg NA NU ME BA ct ((impl_Type_intRange_v ((nth (row BA (0 : Int)) 0).int) ((nth (row BA (0 : Int)) 1).int) ((nth (row BA (0 : Int)) 2).bool) ((nth (row BA (0 : Int)) 3).bool) ((nth (row BA (0 : Int)) 4).list) ((nth (row BA (0 : Int)) 5).list) ((nth (row BA (0 : Int)) 6).list) ((nth (row BA (0 : Int)) 7).list) ((nth (row BA (0 : Int)) 8).int)).1) ((impl_Type_intRange_v ((nth (row BA (0 : Int)) 0).int) ((nth (row BA (0 : Int)) 1).int) ((nth (row BA (0 : Int)) 2).bool) ((nth (row BA (0 : Int)) 3).bool) ((nth (row BA (0 : Int)) 4).list) ((nth (row BA (0 : Int)) 5).list) ((nth (row BA (0 : Int)) 6).list) ((nth (row BA (0 : Int)) 7).list) ((nth (row BA (0 : Int)) 8).int)).2) NU (NU.length : Int) (0 : Int)) = true) (.ite ((impl_within_v (NU.length : Int) (1 : Int) (6 : Int)) = true) (.ite (((NA.length : Int) == (NU.length : Int)) = true) (.ite ((impl_differentNames_c NA) = true) (.ok (impl_differentNames_v NA))
              .no)
             (.ok false))
            (.ok false))
           .no))
         .no)
        .no))
      .no)
     .no))
   .no))
def impl_Type_enumOk_mk (p : Bool) : Res := [(false, [⟨.bool, .sh, TC.b p⟩])]
noncomputable def impl_Type_enumOk_c (k s : Int) (sg bg : Bool) (NA NU ME BA : List (List TC)) (ct : Int) : Bool := (bif (!((BA.length : Int) == (1 : Int))) then true else (is ((0 : Int) ≤ (0 : Int) ∧ (0 : Int) < (BA.length : Int)) && (bif (!((nth (row BA (0 : Int)) 0).int == (1 : Int))) then true else (is ((0 : Int) ≤ (0 : Int) ∧ (0 : Int) < (BA.length : Int)) && ((impl_Type_valid_rc ((nth (row BA (0 : Int)) 0).int) ((nth (row BA (0 : Int)) 1).int) ((nth (row BA (0 : Int)) 2).bool) ((nth (row BA (0 : Int)) 3).bool) ((nth (row BA (0 : Int)) 4).list) ((nth (row BA (0 : Int)) 5).list) ((nth (row BA (0 : Int)) 6).list) ((nth (row BA (0 : Int)) 7).list) ((nth (row BA (0 : Int)) 8).int) (1 : Int)) && (bif (!(impl_Type_valid_rv ((nth (row BA (0 : Int)) 0).int) ((nth (row BA (0 : Int)) 1).int) ((nth (row BA (0 : Int)) 2).bool) ((nth (row BA (0 : Int)) 3).bool) ((nth (row BA (0 : Int)) 4).list) ((nth (row BA (0 : Int)) 5).list) ((nth (row BA (0 : Int)) 6).list) ((nth (row BA (0 : Int)) 7).list) ((nth (row BA (0 : Int)) 8).int) (1 : Int))) then true else (is ((0 : Int) ≤ (0 : Int) ∧ (0 : Int) < (BA.length : Int)) && ((impl_Type_intRange_c ((nth (row BA (0 : Int)) 0).int) ((nth (row BA (0 : Int)) 1).int) ((nth (row BA (0 : Int)) 2).bool) ((nth (row BA (0 : Int)) 3).bool) ((nth (row BA (0 : Int)) 4).list) ((nth (row BA (0 : Int)) 5).list) ((nth (row BA (0 : Int)) 6).list) ((nth (row BA (0 : Int)) 7).list) ((nth (row BA (0 : Int)) 8).int)) && (bif (impl_Type_enumOk_k5_1 k s sg bg NA NU ME BA ct ((impl_Type_intRange_v ((nth (row BA (0 : Int)) 0).int) ((nth (row BA (0 : Int)) 1).int) ((nth (row BA (0 : Int)) 2).bool) ((nth (row BA (0 : Int)) 3).bool) ((nth (row BA (0 : Int)) 4).list) ((nth (row BA (0 : Int)) 5).list) ((nth (row BA (0 : Int)) 6).list) ((nth (row BA (0 : Int)) 7).list) ((nth (row BA (0 : Int)) 8).int)).1) ((impl_Type_intRange_v ((nth (row BA (0 : Int)) 0).int) ((nth (row BA (0 : Int)) 1).int) ((nth (row BA (0 : Int)) 2).bool) ((nth (row BA (0 : Int)) 3).bool) ((nth (row BA (0 : Int)) 4).list) ((nth (row BA (0 : Int)) 5).list) ((nth (row BA (0 : Int)) 6).list) ((nth (row BA (0 : Int)) 7).list) ((nth (row BA (0 : Int)) 8).int)).2) NU (NU.length : Int) (0 : Int)) then ((impl_Type_enumOk_o5_2 k s sg bg NA NU ME BA ct ((impl_Type_intRange_v ((nth (row BA (0 : Int)) 0).int) ((nth (row BA (0 : Int)) 1).int) ((nth (row BA (0 : Int)) 2).bool) ((nth (row BA (0 : Int)) 3).bool) ((nth (row BA (0 : Int)) 4).list) ((nth (row BA (0 : Int)) 5).list) ((nth (row BA (0 : Int)) 6).list) ((nth (row BA (0 : Int)) 7).list) ((nth (row BA (0 : Int)) 8).int)).1) ((impl_Type_intRange_v ((nth (row BA (0 : Int)) 0).int) ((nth (row BA (0 : Int)) 1).int) ((nth (row BA (0 : Int)) 2).bool) ((nth (row BA (0 : Int)) 3).bool) ((nth (row BA (0 : Int)) 4).list) ((nth (row BA (0 : Int)) 5).list) ((nth (row BA (0 : Int)) 6).list) ((nth (row BA (0 : Int)) 7).list) ((nth (row BA (0 : Int)) 8).int)).2) NU (NU.length : Int) (0 : Int)) && true) else ((impl_Type_enumOk_o5_3 k s sg bg NA NU ME BA ct ((impl_Type_intRange_v ((nth (row BA (0 : Int)) 0).int) ((nth (row BA (0 : Int)) 1).int) ((nth (row BA (0 : Int)) 2).bool) ((nth (row BA (0 : Int)) 3).bool) ((nth (row BA (0 : Int)) 4).list) ((nth (row BA (0 : Int)) 5).list) ((nth (row BA (0 : Int)) 6).list) ((nth (row BA (0 : Int)) 7).list) ((nth (row BA (0 : Int)) 8).int)).1) ((impl_Type_intRange_v ((nth (row BA (0 : Int)) 0).int) ((nth (row BA (0 : Int)) 1).int) ((nth (row BA (0 : Int)) 2).bool) ((nth (row BA (0 : Int)) 3).bool) ((nth (row BA (0 : Int)) 4).list) ((nth (row BA (0 : Int)) 5).list) ((nth (row BA (0 : Int)) 6).list) ((nth (row BA (0 : Int)) 7).list) ((nth (row BA (0 : Int)) 8).int)).2) NU (NU.length : Int) (0 : Int)) && (bif (impl_within_v (NU.length : Int) (1 : Int) (6 : Int)) then (bif ((NA.length : Int) == (NU.length : Int)) then ((impl_differentNames_c NA) && true) else true) else true)))))))))))
noncomputable def impl_Type_enumOk_v (k s : Int) (sg bg : Bool) (NA NU ME BA : List (List TC)) (ct : Int) : Bool := (bif (!((BA.length : Int) == (1 : Int))) then false else (bif (!((nth (row BA (0 : Int)) 0).int == (1 : Int))) then false else (bif (!(impl_Type_valid_rv ((nth (row BA (0 : Int)) 0).int) ((nth (row BA (0 : Int)) 1).int) ((nth (row BA (0 : Int)) 2).bool) ((nth (row BA (0 : Int)) 3).bool) ((nth (row BA (0 : Int)) 4).list) ((nth (row BA (0 : Int)) 5).list) ((nth (row BA (0 : Int)) 6).list) ((nth (row BA (0 : Int)) 7).list) ((nth (row BA (0 : Int)) 8).int) (1 : Int))) then false else (bif (impl_Type_enumOk_k5_1 k s sg bg NA NU ME BA ct ((impl_Type_intRange_v ((nth (row BA (0 : Int)) 0).int) ((nth (row BA (0 : Int)) 1).int) ((nth (row BA (0 : Int)) 2).bool) ((nth (row BA (0 : Int)) 3).bool) ((nth (row BA (0 : Int)) 4).list) ((nth (row BA (0 : Int)) 5).list) ((nth (row BA (0 : Int)) 6).list) ((nth (row BA (0 : Int)) 7).list) ((nth (row BA (0 : Int)) 8).int)).1) ((impl_Type_intRange_v ((nth (row BA (0 : Int)) 0).int) ((nth (row BA (0 : Int)) 1).int) ((nth (row BA (0 : Int)) 2).bool) ((nth (row BA (0 : Int)) 3).bool) ((nth (row BA (0 : Int)) 4).list) ((nth (row BA (0 : Int)) 5).list) ((nth (row BA (0 : Int)) 6).list) ((nth (row BA (0 : Int)) 7).list) ((nth (row BA (0 : Int)) 8).int)).2) NU (NU.length : Int) (0 : Int)) then false else (bif (impl_within_v (NU.length : Int) (1 : Int) (6 : Int)) then (bif ((NA.length : Int) == (NU.length : Int)) then (impl_differentNames_v NA) else false) else false)))))
theorem impl_Type_enumOk_l (k s : Int) (sg bg : Bool) (NA NU ME BA : List (List TC)) (ct : Int) : (impl_Type_enumOk_c k s sg bg NA NU ME BA ct) = true → (impl_Type_enumOk_t k s sg bg NA NU ME BA ct).val = some (impl_Type_enumOk_v k s sg bg NA NU ME BA ct) := by
  unfold impl_Type_enumOk_t impl_Type_enumOk_v impl_Type_enumOk_c
  exact fun h => (Tr.ss h (fun h => rfl) (fun h => (Tr.gs h fun h => (Tr.ss h (fun h => rfl) (fun h => (Tr.gs h fun h => (Tr.gb h fun h => (Tr.ss h (fun h => rfl) (fun h => (Tr.gs h fun h => (Tr.gb h fun h => (Tr.ss h (fun h => (Tr.gb h fun h => rfl)) (fun h => (Tr.gb h fun h => (Tr.ss h (fun h => (Tr.ss h (fun h => (Tr.gb h fun h => rfl)) (fun h => rfl))) (fun h => rfl))))))))))))))))
noncomputable def impl_Type_enumOk_S : List Arg → Option (Bool × Res) := fun xs => match xs with
  | [(true, [(.int .i64, TC.i k), (.int .i64, TC.i s), (.bool, TC.b sg), (.bool, TC.b bg), (.slice 9, TC.l NA), (.slice 2, TC.l NU), (.slice 77, TC.l ME), (.slice 32, TC.l BA), (.int .i64, TC.i ct)])] => some ((impl_Type_enumOk_c k s sg bg NA NU ME BA ct), impl_Type_enumOk_mk (impl_Type_enumOk_v k s sg bg NA NU ME BA ct))
  | _ => .none
theorem impl_Type_enumOk_e (k s : Int) (sg bg : Bool) (NA NU ME BA : List (List TC)) (ct : Int) : runF tab FT D50 live 115 impl_Type_enumOk_lo [(true, [(.int .i64, TC.i k), (.int .i64, TC.i s), (.bool, TC.b sg), (.bool, TC.b bg), (.slice 9, TC.l NA), (.slice 2, TC.l NU), (.slice 77, TC.l ME), (.slice 32, TC.l BA), (.int .i64, TC.i ct)])] = (impl_Type_enumOk_t k s sg bg NA NU ME BA ct).run fun p => some (impl_Type_enumOk_mk p) := by kernel_rfl
theorem impl_Type_enumOk_s : ∀ xs r, impl_Type_enumOk_S xs = some (true, r) → runF tab FT D50 live 115 impl_Type_enumOk_lo xs = some r := by
  intro xs r h
  unfold impl_Type_enumOk_S at h
  split at h
  · simp only [Option.some.injEq, Prod.mk.injEq] at h
    obtain ⟨h1, rfl⟩ := h
    exact fun_told (impl_Type_enumOk_e _ _ _ _ _ _ _ _ _) (impl_Type_enumOk_l _ _ _ _ _ _ _ _ _) h1
  · cases h
noncomputable def D51 : Dt := also D50 115 impl_Type_enumOk_S
theorem d51 : DOk Go.Proofs.Try.prog tab D51 := d50.also mixed_ok tab_ok names_ok (fnLoops_one (by kernel_rfl) impl_Type_enumOk_is5) impl_Type_enumOk_s
theorem int_of_valid {k s : Int} {sg bg : Bool} {NA NU ME BA : List (List TC)} {ct : Int} (hk : k = 1) (h : impl_Type_valid_rv k s sg bg NA NU ME BA ct 1 = true) : intV s sg bg NA NU ME BA ct = true := by
  subst hk
  have h : (okV 1 s sg bg NA NU ME BA ct && decide (depthV 1 ME BA ≤ 1)) = true := h
  rw [okV_1] at h
  simp only [Bool.and_eq_true] at h
  exact h.1.1
theorem impl_Type_enumOk_cc {k : Int} {s : Int} {sg : Bool} {bg : Bool} {NA : List (List TC)} {NU : List (List TC)} {ME : List (List TC)} {BA : List (List TC)} {ct : Int} (hb : 0 < BA.length → impl_Type_valid_rc (nth (row BA (0 : Int)) 0).int (nth (row BA (0 : Int)) 1).int (nth (row BA (0 : Int)) 2).bool (nth (row BA (0 : Int)) 3).bool (nth (row BA (0 : Int)) 4).list (nth (row BA (0 : Int)) 5).list (nth (row BA (0 : Int)) 6).list (nth (row BA (0 : Int)) 7).list (nth (row BA (0 : Int)) 8).int 1 = true) (t4 : Typed tab (.slice 9) (.l NA)) (hl : NU.length ≤ 140737488351232) : (impl_Type_enumOk_c k s sg bg NA NU ME BA ct) = true := by
  unfold impl_Type_enumOk_c
  refine bifT (fun b1 => ?_) (fun b1 => ?_)
  · skip
    rfl
  · skip
    refine andT (is_true (by have e1 := bneF b1; omega)) ?_
    refine bifT (fun b2 => ?_) (fun b2 => ?_)
    · skip
      rfl
    · skip
      refine andT (is_true (by have e1 := bneF b1; omega)) ?_
      refine andT (by have e1 := bneF b1; exact hb (by omega)) ?_
      refine bifT (fun b3 => ?_) (fun b3 => ?_)
      · skip
        rfl
      · skip
        refine andT (is_true (by have e1 := bneF b1; omega)) ?_
        refine andT (by have e2 := bneF b2; exact (irange (int_of_valid e2 (by simpa using b3))).1) ?_
        refine bifT (fun b4 => ?_) (fun b4 => ?_)
        · skip
          refine andT (by exact is_true ⟨rfl, rfl, rfl, hl⟩) ?_
          rfl
        · skip
          refine andT (by exact is_true ⟨rfl, rfl, rfl, hl⟩) ?_
          refine bifT (fun b5 => ?_) (fun b5 => ?_)
          · skip
            refine bifT (fun b6 => ?_) (fun b6 => ?_)
            · skip
              refine andT (by exact impl_differentNames_cc t4) ?_
              rfl
            · skip
              rfl
          · skip
            rfl
theorem impl_Type_enumOk_vv (k s : Int) (sg bg : Bool) (NA NU ME BA : List (List TC)) (ct : Int) : impl_Type_enumOk_v k s sg bg NA NU ME BA ct = (((BA.length : Int) == 1) && (((nth (row BA (0 : Int)) 0).int == 1) && (validV (nth (row BA (0 : Int)) 0).int (nth (row BA (0 : Int)) 1).int (nth (row BA (0 : Int)) 2).bool (nth (row BA (0 : Int)) 3).bool (nth (row BA (0 : Int)) 4).list (nth (row BA (0 : Int)) 5).list (nth (row BA (0 : Int)) 6).list (nth (row BA (0 : Int)) 7).list (nth (row BA (0 : Int)) 8).int 1 && (allI (fun i : Nat => numP NU (loV (nth (row BA (0 : Int)) 1).int (nth (row BA (0 : Int)) 2).bool) (hiV (nth (row BA (0 : Int)) 1).int (nth (row BA (0 : Int)) 2).bool) (i : Int)) NU.length && (inB (NU.length : Int) 1 6 && (((NA.length : Int) == (NU.length : Int)) && allI (fun i : Nat => dnP NA (i : Int)) NA.length)))))) := by
  unfold impl_Type_enumOk_v
  rw [show ∀ lw hg m, impl_Type_enumOk_k5_1 k s sg bg NA NU ME BA ct lw hg NU m 0 = !(allI (fun i : Nat => numP NU lw hg (i : Int)) NU.length) from fun lw hg m => by unfold impl_Type_enumOk_k5_1; rw [impl_Type_enumOk_R5_eq]; cases allI (fun i : Nat => numP NU lw hg (i : Int)) NU.length <;> rfl]
  rw [impl_differentNames_vv, show impl_within_v (NU.length : Int) 1 6 = inB (NU.length : Int) 1 6 from rfl, show impl_Type_valid_rv (nth (row BA (0 : Int)) 0).int (nth (row BA (0 : Int)) 1).int (nth (row BA (0 : Int)) 2).bool (nth (row BA (0 : Int)) 3).bool (nth (row BA (0 : Int)) 4).list (nth (row BA (0 : Int)) 5).list (nth (row BA (0 : Int)) 6).list (nth (row BA (0 : Int)) 7).list (nth (row BA (0 : Int)) 8).int 1 = validV (nth (row BA (0 : Int)) 0).int (nth (row BA (0 : Int)) 1).int (nth (row BA (0 : Int)) 2).bool (nth (row BA (0 : Int)) 3).bool (nth (row BA (0 : Int)) 4).list (nth (row BA (0 : Int)) 5).list (nth (row BA (0 : Int)) 6).list (nth (row BA (0 : Int)) 7).list (nth (row BA (0 : Int)) 8).int 1 from rfl]
  simp only [bif_nf, bif_tf, bif_ft, Bool.not_not]
  cases h1 : ((nth (row BA (0 : Int)) 0).int == 1) with
  | false => simp only [Bool.false_and, Bool.and_false]
  | true =>
    cases h2 : validV (nth (row BA (0 : Int)) 0).int (nth (row BA (0 : Int)) 1).int (nth (row BA (0 : Int)) 2).bool (nth (row BA (0 : Int)) 3).bool (nth (row BA (0 : Int)) 4).list (nth (row BA (0 : Int)) 5).list (nth (row BA (0 : Int)) 6).list (nth (row BA (0 : Int)) 7).list (nth (row BA (0 : Int)) 8).int 1 with
    | false => simp only [Bool.false_and, Bool.and_false]
    | true =>
      obtain ⟨-, h3, h4⟩ := irange (k := (nth (row BA (0 : Int)) 0).int) (int_of_valid (beq_iff_eq.1 h1) h2)
      rw [h3, h4]
/-! impl_Type_compoundOk -/
noncomputable def impl_Type_compoundOk_f6 (d k s : Int) (sg bg : Bool) (NA NU ME BA : List (List TC)) (ct : Int) (X : List (List TC)) (m i en : Int) (NM : List (List TC)) : (Int × List (List TC)) ⊕ ((Int × Int × Bool × Bool × List (List TC) × List (List TC) × List (List TC) × List (List TC) × Int × Int × List (List TC)) ⊕ (Int × Int × Bool × Bool × List (List TC) × List (List TC) × List (List TC) × List (List TC) × Int × Int × List (List TC))) := (bif (!(impl_Type_valid_rv ((nth (row X i) 2).int) ((nth (row X i) 3).int) ((nth (row X i) 4).bool) ((nth (row X i) 5).bool) ((nth (row X i) 6).list) ((nth (row X i) 7).list) ((nth (row X i) 8).list) ((nth (row X i) 9).list) ((nth (row X i) 10).int) d)) then (.inr (.inl (k, s, sg, bg, NA, NU, ME, BA, ct, en, NM))) else (bif (decide ((nth (row X i) 1).int < en)) then (.inr (.inl (k, s, sg, bg, NA, NU, ME, BA, ct, en, NM))) else (bif (decide ((nth (row X i) 1).int > (24 : Int))) then (.inr (.inl (k, s, sg, bg, NA, NU, ME, BA, ct, en, NM))) else (.inl ((IntKind.wrap .i64 ((nth (row X i) 1).int + (impl_Type_size_rv ((nth (row X i) 2).int) ((nth (row X i) 3).int) ((nth (row X i) 4).bool) ((nth (row X i) 5).bool) ((nth (row X i) 6).list) ((nth (row X i) 7).list) ((nth (row X i) 8).list) ((nth (row X i) 9).list) ((nth (row X i) 10).int)))), (NM ++ [[TC.s ((nth (row X i) 0).str)]]))))))
noncomputable def impl_Type_compoundOk_e6 (d k s : Int) (sg bg : Bool) (NA NU ME BA : List (List TC)) (ct : Int) (X : List (List TC)) (m en : Int) (NM : List (List TC)) : (Int × Int × Bool × Bool × List (List TC) × List (List TC) × List (List TC) × List (List TC) × Int × Int × List (List TC)) ⊕ (Int × Int × Bool × Bool × List (List TC) × List (List TC) × List (List TC) × List (List TC) × Int × Int × List (List TC)) := .inr (k, s, sg, bg, NA, NU, ME, BA, ct, en, NM)
noncomputable def impl_Type_compoundOk_R6 (d k s : Int) (sg bg : Bool) (NA NU ME BA : List (List TC)) (ct en : Int) (NM X : List (List TC)) (m i : Int) : (Int × Int × Bool × Bool × List (List TC) × List (List TC) × List (List TC) × List (List TC) × Int × Int × List (List TC)) ⊕ (Int × Int × Bool × Bool × List (List TC) × List (List TC) × List (List TC) × List (List TC) × Int × Int × List (List TC)) := iter (fun i a => (impl_Type_compoundOk_f6 d k s sg bg NA NU ME BA ct X m (i : Int) (a.1) (a.2))) (fun a => (impl_Type_compoundOk_e6 d k s sg bg NA NU ME BA ct X m (a.1) (a.2))) (ME.length) 0 (en, NM)
abbrev impl_Type_compoundOk_6_σ := Int × Int × Int × Bool × Bool × List (List TC) × List (List TC) × List (List TC) × List (List TC) × Int × Int × List (List TC) × List (List TC) × Int × Int
abbrev impl_Type_compoundOk_6_ω := (Int × Int × Bool × Bool × List (List TC) × List (List TC) × List (List TC) × List (List TC) × Int × Int × List (List TC)) ⊕ (Int × Int × Bool × Bool × List (List TC) × List (List TC) × List (List TC) × List (List TC) × Int × Int × List (List TC))
noncomputable def impl_Type_compoundOk_6_step (d k s : Int) (sg bg : Bool) (NA NU ME BA : List (List TC)) (ct en : Int) (NM X : List (List TC)) (m i : Int) : Tr (impl_Type_compoundOk_6_σ ⊕ impl_Type_compoundOk_6_ω) := (.ite ((decide (i < m)) = true) (.ite ((0 : Int) ≤ i ∧ i < (X.length : Int)) (.ite ((impl_Type_valid_rc ((nth (row X i) 2).int) ((nth (row X i) 3).int) ((nth (row X i) 4).bool) ((nth (row X i) 5).bool) ((nth (row X i) 6).list) ((nth (row X i) 7).list) ((nth (row X i) 8).list) ((nth (row X i) 9).list) ((nth (row X i) 10).int) d) = true) (.ite ((!(impl_Type_valid_rv ((nth (row X i) 2).int) ((nth (row X i) 3).int) ((nth (row X i) 4).bool) ((nth (row X i) 5).bool) ((nth (row X i) 6).list) ((nth (row X i) 7).list) ((nth (row X i) 8).list) ((nth (row X i) 9).list) ((nth (row X i) 10).int) d)) = true) (.ok (.inr (.inl (k, s, sg, bg, NA, NU, ME, BA, ct, en, NM))))
     (.ite ((decide ((nth (row X i) 1).int < en)) = true) (.ok (.inr (.inl (k, s, sg, bg, NA, NU, ME, BA, ct, en, NM))))
      (.ite ((decide ((nth (row X i) 1).int > (24 : Int))) = true) (.ok (.inr (.inl (k, s, sg, bg, NA, NU, ME, BA, ct, en, NM))))
       (.ite ((impl_Type_size_rc ((nth (row X i) 2).int) ((nth (row X i) 3).int) ((nth (row X i) 4).bool) ((nth (row X i) 5).bool) ((nth (row X i) 6).list) ((nth (row X i) 7).list) ((nth (row X i) 8).list) ((nth (row X i) 9).list) ((nth (row X i) 10).int)) = true) (.ite (roomFor (tab 9) (NM ++ [[TC.s ((nth (row X i) 0).str)]]).length) (.ok (.inl (d, k, s, sg, bg, NA, NU, ME, BA, ct, (IntKind.wrap .i64 ((nth (row X i) 1).int + (impl_Type_size_rv ((nth (row X i) 2).int) ((nth (row X i) 3).int) ((nth (row X i) 4).bool) ((nth (row X i) 5).bool) ((nth (row X i) 6).list) ((nth (row X i) 7).list) ((nth (row X i) 8).list) ((nth (row X i) 9).list) ((nth (row X i) 10).int)))), (NM ++ [[TC.s ((nth (row X i) 0).str)]]), X, m, (IntKind.wrap .i64 (i + (1 : Int))))))
         .no)
        .no))))
    .no)
   .no)
  (.ok (.inr (.inr (k, s, sg, bg, NA, NU, ME, BA, ct, en, NM)))))
noncomputable def impl_Type_compoundOk_6_st : impl_Type_compoundOk_6_σ → Tr (impl_Type_compoundOk_6_σ ⊕ impl_Type_compoundOk_6_ω) := fun x => (impl_Type_compoundOk_6_step (x.1) (x.2.1) (x.2.2.1) (x.2.2.2.1) (x.2.2.2.2.1) (x.2.2.2.2.2.1) (x.2.2.2.2.2.2.1) (x.2.2.2.2.2.2.2.1) (x.2.2.2.2.2.2.2.2.1) (x.2.2.2.2.2.2.2.2.2.1) (x.2.2.2.2.2.2.2.2.2.2.1) (x.2.2.2.2.2.2.2.2.2.2.2.1) (x.2.2.2.2.2.2.2.2.2.2.2.2.1) (x.2.2.2.2.2.2.2.2.2.2.2.2.2.1) (x.2.2.2.2.2.2.2.2.2.2.2.2.2.2))
noncomputable def impl_Type_compoundOk_k6_1 (d k s : Int) (sg bg : Bool) (NA NU ME BA : List (List TC)) (ct en : Int) (NM X : List (List TC)) (m i : Int) : Bool := sumIs (impl_Type_compoundOk_R6 d k s sg bg NA NU ME BA ct en NM X m i)
noncomputable def impl_Type_compoundOk_o6_2 (d k s : Int) (sg bg : Bool) (NA NU ME BA : List (List TC)) (ct en : Int) (NM X : List (List TC)) (m i : Int) : Bool := is (i = 0 ∧ ME = X ∧ m = (ME.length : Int) ∧ en = 0 ∧ NM = [] ∧ Typed tab (.slice 77) (.l ME) ∧ (∀ x : List TC, x ∈ ME → impl_Type_valid_rc (nth x 2).int (nth x 3).int (nth x 4).bool (nth x 5).bool (nth x 6).list (nth x 7).list (nth x 8).list (nth x 9).list (nth x 10).int d = true) ∧ (∀ x : List TC, x ∈ ME → (!(impl_Type_valid_rv (nth x 2).int (nth x 3).int (nth x 4).bool (nth x 5).bool (nth x 6).list (nth x 7).list (nth x 8).list (nth x 9).list (nth x 10).int d)) = false → impl_Type_size_rc (nth x 2).int (nth x 3).int (nth x 4).bool (nth x 5).bool (nth x 6).list (nth x 7).list (nth x 8).list (nth x 9).list (nth x 10).int = true))
noncomputable def impl_Type_compoundOk_u6_2_0 (d k s : Int) (sg bg : Bool) (NA NU ME BA : List (List TC)) (ct en : Int) (NM X : List (List TC)) (m i : Int) : Int := (sumL (impl_Type_compoundOk_R6 d k s sg bg NA NU ME BA ct en NM X m i)).1
noncomputable def impl_Type_compoundOk_u6_2_1 (d k s : Int) (sg bg : Bool) (NA NU ME BA : List (List TC)) (ct en : Int) (NM X : List (List TC)) (m i : Int) : Int := (sumL (impl_Type_compoundOk_R6 d k s sg bg NA NU ME BA ct en NM X m i)).2.1
noncomputable def impl_Type_compoundOk_u6_2_2 (d k s : Int) (sg bg : Bool) (NA NU ME BA : List (List TC)) (ct en : Int) (NM X : List (List TC)) (m i : Int) : Bool := (sumL (impl_Type_compoundOk_R6 d k s sg bg NA NU ME BA ct en NM X m i)).2.2.1
noncomputable def impl_Type_compoundOk_u6_2_3 (d k s : Int) (sg bg : Bool) (NA NU ME BA : List (List TC)) (ct en : Int) (NM X : List (List TC)) (m i : Int) : Bool := (sumL (impl_Type_compoundOk_R6 d k s sg bg NA NU ME BA ct en NM X m i)).2.2.2.1
noncomputable def impl_Type_compoundOk_u6_2_4 (d k s : Int) (sg bg : Bool) (NA NU ME BA : List (List TC)) (ct en : Int) (NM X : List (List TC)) (m i : Int) : List (List TC) := (sumL (impl_Type_compoundOk_R6 d k s sg bg NA NU ME BA ct en NM X m i)).2.2.2.2.1
noncomputable def impl_Type_compoundOk_u6_2_5 (d k s : Int) (sg bg : Bool) (NA NU ME BA : List (List TC)) (ct en : Int) (NM X : List (List TC)) (m i : Int) : List (List TC) := (sumL (impl_Type_compoundOk_R6 d k s sg bg NA NU ME BA ct en NM X m i)).2.2.2.2.2.1
noncomputable def impl_Type_compoundOk_u6_2_6 (d k s : Int) (sg bg : Bool) (NA NU ME BA : List (List TC)) (ct en : Int) (NM X : List (List TC)) (m i : Int) : List (List TC) := (sumL (impl_Type_compoundOk_R6 d k s sg bg NA NU ME BA ct en NM X m i)).2.2.2.2.2.2.1
noncomputable def impl_Type_compoundOk_u6_2_7 (d k s : Int) (sg bg : Bool) (NA NU ME BA : List (List TC)) (ct en : Int) (NM X : List (List TC)) (m i : Int) : List (List TC) := (sumL (impl_Type_compoundOk_R6 d k s sg bg NA NU ME BA ct en NM X m i)).2.2.2.2.2.2.2.1
noncomputable def impl_Type_compoundOk_u6_2_8 (d k s : Int) (sg bg : Bool) (NA NU ME BA : List (List TC)) (ct en : Int) (NM X : List (List TC)) (m i : Int) : Int := (sumL (impl_Type_compoundOk_R6 d k s sg bg NA NU ME BA ct en NM X m i)).2.2.2.2.2.2.2.2.1
noncomputable def impl_Type_compoundOk_u6_2_9 (d k s : Int) (sg bg : Bool) (NA NU ME BA : List (List TC)) (ct en : Int) (NM X : List (List TC)) (m i : Int) : Int := (sumL (impl_Type_compoundOk_R6 d k s sg bg NA NU ME BA ct en NM X m i)).2.2.2.2.2.2.2.2.2.1
noncomputable def impl_Type_compoundOk_u6_2_10 (d k s : Int) (sg bg : Bool) (NA NU ME BA : List (List TC)) (ct en : Int) (NM X : List (List TC)) (m i : Int) : List (List TC) := (sumL (impl_Type_compoundOk_R6 d k s sg bg NA NU ME BA ct en NM X m i)).2.2.2.2.2.2.2.2.2.2
noncomputable def impl_Type_compoundOk_o6_3 (d k s : Int) (sg bg : Bool) (NA NU ME BA : List (List TC)) (ct en : Int) (NM X : List (List TC)) (m i : Int) : Bool := is (i = 0 ∧ ME = X ∧ m = (ME.length : Int) ∧ en = 0 ∧ NM = [] ∧ Typed tab (.slice 77) (.l ME) ∧ (∀ x : List TC, x ∈ ME → impl_Type_valid_rc (nth x 2).int (nth x 3).int (nth x 4).bool (nth x 5).bool (nth x 6).list (nth x 7).list (nth x 8).list (nth x 9).list (nth x 10).int d = true) ∧ (∀ x : List TC, x ∈ ME → (!(impl_Type_valid_rv (nth x 2).int (nth x 3).int (nth x 4).bool (nth x 5).bool (nth x 6).list (nth x 7).list (nth x 8).list (nth x 9).list (nth x 10).int d)) = false → impl_Type_size_rc (nth x 2).int (nth x 3).int (nth x 4).bool (nth x 5).bool (nth x 6).list (nth x 7).list (nth x 8).list (nth x 9).list (nth x 10).int = true))
noncomputable def impl_Type_compoundOk_u6_3_0 (d k s : Int) (sg bg : Bool) (NA NU ME BA : List (List TC)) (ct en : Int) (NM X : List (List TC)) (m i : Int) : Int := (sumR (impl_Type_compoundOk_R6 d k s sg bg NA NU ME BA ct en NM X m i)).1
noncomputable def impl_Type_compoundOk_u6_3_1 (d k s : Int) (sg bg : Bool) (NA NU ME BA : List (List TC)) (ct en : Int) (NM X : List (List TC)) (m i : Int) : Int := (sumR (impl_Type_compoundOk_R6 d k s sg bg NA NU ME BA ct en NM X m i)).2.1
noncomputable def impl_Type_compoundOk_u6_3_2 (d k s : Int) (sg bg : Bool) (NA NU ME BA : List (List TC)) (ct en : Int) (NM X : List (List TC)) (m i : Int) : Bool := (sumR (impl_Type_compoundOk_R6 d k s sg bg NA NU ME BA ct en NM X m i)).2.2.1
noncomputable def impl_Type_compoundOk_u6_3_3 (d k s : Int) (sg bg : Bool) (NA NU ME BA : List (List TC)) (ct en : Int) (NM X : List (List TC)) (m i : Int) : Bool := (sumR (impl_Type_compoundOk_R6 d k s sg bg NA NU ME BA ct en NM X m i)).2.2.2.1
noncomputable def impl_Type_compoundOk_u6_3_4 (d k s : Int) (sg bg : Bool) (NA NU ME BA : List (List TC)) (ct en : Int) (NM X : List (List TC)) (m i : Int) : List (List TC) := (sumR (impl_Type_compoundOk_R6 d k s sg bg NA NU ME BA ct en NM X m i)).2.2.2.2.1
noncomputable def impl_Type_compoundOk_u6_3_5 (d k s : Int) (sg bg : Bool) (NA NU ME BA : List (List TC)) (ct en : Int) (NM X : List (List TC)) (m i : Int) : List (List TC) := (sumR (impl_Type_compoundOk_R6 d k s sg bg NA NU ME BA ct en NM X m i)).2.2.2.2.2.1
noncomputable def impl_Type_compoundOk_u6_3_6 (d k s : Int) (sg bg : Bool) (NA NU ME BA : List (List TC)) (ct en : Int) (NM X : List (List TC)) (m i : Int) : List (List TC) := (sumR (impl_Type_compoundOk_R6 d k s sg bg NA NU ME BA ct en NM X m i)).2.2.2.2.2.2.1
noncomputable def impl_Type_compoundOk_u6_3_7 (d k s : Int) (sg bg : Bool) (NA NU ME BA : List (List TC)) (ct en : Int) (NM X : List (List TC)) (m i : Int) : List (List TC) := (sumR (impl_Type_compoundOk_R6 d k s sg bg NA NU ME BA ct en NM X m i)).2.2.2.2.2.2.2.1
noncomputable def impl_Type_compoundOk_u6_3_8 (d k s : Int) (sg bg : Bool) (NA NU ME BA : List (List TC)) (ct en : Int) (NM X : List (List TC)) (m i : Int) : Int := (sumR (impl_Type_compoundOk_R6 d k s sg bg NA NU ME BA ct en NM X m i)).2.2.2.2.2.2.2.2.1
noncomputable def impl_Type_compoundOk_u6_3_9 (d k s : Int) (sg bg : Bool) (NA NU ME BA : List (List TC)) (ct en : Int) (NM X : List (List TC)) (m i : Int) : Int := (sumR (impl_Type_compoundOk_R6 d k s sg bg NA NU ME BA ct en NM X m i)).2.2.2.2.2.2.2.2.2.1
noncomputable def impl_Type_compoundOk_u6_3_10 (d k s : Int) (sg bg : Bool) (NA NU ME BA : List (List TC)) (ct en : Int) (NM X : List (List TC)) (m i : Int) : List (List TC) := (sumR (impl_Type_compoundOk_R6 d k s sg bg NA NU ME BA ct en NM X m i)).2.2.2.2.2.2.2.2.2.2
noncomputable def impl_Type_compoundOk_6_fin (d k s : Int) (sg bg : Bool) (NA NU ME BA : List (List TC)) (ct en : Int) (NM X : List (List TC)) (m i : Int) : Told impl_Type_compoundOk_6_ω := (.br (impl_Type_compoundOk_k6_1 d k s sg bg NA NU ME BA ct en NM X m i) (.leaf (impl_Type_compoundOk_o6_2 d k s sg bg NA NU ME BA ct en NM X m i) (.inl ((impl_Type_compoundOk_u6_2_0 d k s sg bg NA NU ME BA ct en NM X m i), (impl_Type_compoundOk_u6_2_1 d k s sg bg NA NU ME BA ct en NM X m i), (impl_Type_compoundOk_u6_2_2 d k s sg bg NA NU ME BA ct en NM X m i), (impl_Type_compoundOk_u6_2_3 d k s sg bg NA NU ME BA ct en NM X m i), (impl_Type_compoundOk_u6_2_4 d k s sg bg NA NU ME BA ct en NM X m i), (impl_Type_compoundOk_u6_2_5 d k s sg bg NA NU ME BA ct en NM X m i), (impl_Type_compoundOk_u6_2_6 d k s sg bg NA NU ME BA ct en NM X m i), (impl_Type_compoundOk_u6_2_7 d k s sg bg NA NU ME BA ct en NM X m i), (impl_Type_compoundOk_u6_2_8 d k s sg bg NA NU ME BA ct en NM X m i), (impl_Type_compoundOk_u6_2_9 d k s sg bg NA NU ME BA ct en NM X m i), (impl_Type_compoundOk_u6_2_10 d k s sg bg NA NU ME BA ct en NM X m i)))) (.leaf (impl_Type_compoundOk_o6_3 d k s sg bg NA NU ME BA ct en NM X m i) (.inr ((impl_Type_compoundOk_u6_3_0 d k s sg bg NA NU ME BA ct en NM X m i), (impl_Type_compoundOk_u6_3_1 d k s sg bg NA NU ME BA ct en NM X m i), (impl_Type_compoundOk_u6_3_2 d k s sg bg NA NU ME BA ct en NM X m i), (impl_Type_compoundOk_u6_3_3 d k s sg bg NA NU ME BA ct en NM X m i), (impl_Type_compoundOk_u6_3_4 d k s sg bg NA NU ME BA ct en NM X m i), (impl_Type_compoundOk_u6_3_5 d k s sg bg NA NU ME BA ct en NM X m i), (impl_Type_compoundOk_u6_3_6 d k s sg bg NA NU ME BA ct en NM X m i), (impl_Type_compoundOk_u6_3_7 d k s sg bg NA NU ME BA ct en NM X m i), (impl_Type_compoundOk_u6_3_8 d k s sg bg NA NU ME BA ct en NM X m i), (impl_Type_compoundOk_u6_3_9 d k s sg bg NA NU ME BA ct en NM X m i), (impl_Type_compoundOk_u6_3_10 d k s sg bg NA NU ME BA ct en NM X m i)))))
def impl_Type_compoundOk_6_sl (x : impl_Type_compoundOk_6_σ) : List Slot := [⟨.val false [⟨.int .i64, .sh, TC.i (x.1)⟩], ⟨0, 0⟩⟩, ⟨.bx 32 [⟨.int .i64, .sh, TC.i (x.2.1)⟩, ⟨.int .i64, .sh, TC.i (x.2.2.1)⟩, ⟨.bool, .sh, TC.b (x.2.2.2.1)⟩, ⟨.bool, .sh, TC.b (x.2.2.2.2.1)⟩, ⟨.slice 9, .sh, TC.l (x.2.2.2.2.2.1)⟩, ⟨.slice 2, .sh, TC.l (x.2.2.2.2.2.2.1)⟩, ⟨.slice 77, .sh, TC.l (x.2.2.2.2.2.2.2.1)⟩, ⟨.slice 32, .sh, TC.l (x.2.2.2.2.2.2.2.2.1)⟩, ⟨.int .i64, .sh, TC.i (x.2.2.2.2.2.2.2.2.2.1)⟩], ⟨0, 0⟩⟩, ⟨.val false [⟨.int .i64, .sh, TC.i (x.2.2.2.2.2.2.2.2.2.2.1)⟩], ⟨0, 0⟩⟩, ⟨.val false [⟨.slice 9, .own true, TC.l (x.2.2.2.2.2.2.2.2.2.2.2.1)⟩], ⟨0, 0⟩⟩, ⟨.val false [⟨.slice 77, .sh, TC.l (x.2.2.2.2.2.2.2.2.2.2.2.2.1)⟩], ⟨0, 0⟩⟩, ⟨.val false [⟨.int .i64, .sh, TC.i (x.2.2.2.2.2.2.2.2.2.2.2.2.2.1)⟩], ⟨0, 0⟩⟩, ⟨.val false [⟨.int .i64, .sh, TC.i (x.2.2.2.2.2.2.2.2.2.2.2.2.2.2)⟩], ⟨0, 0⟩⟩]
def impl_Type_compoundOk_6_out : impl_Type_compoundOk_6_ω → Ex × List Slot := (Sum.elim (fun x => (.ret, [⟨.bx 32 [⟨.int .i64, .sh, TC.i (x.1)⟩, ⟨.int .i64, .sh, TC.i (x.2.1)⟩, ⟨.bool, .sh, TC.b (x.2.2.1)⟩, ⟨.bool, .sh, TC.b (x.2.2.2.1)⟩, ⟨.slice 9, .sh, TC.l (x.2.2.2.2.1)⟩, ⟨.slice 2, .sh, TC.l (x.2.2.2.2.2.1)⟩, ⟨.slice 77, .sh, TC.l (x.2.2.2.2.2.2.1)⟩, ⟨.slice 32, .sh, TC.l (x.2.2.2.2.2.2.2.1)⟩, ⟨.int .i64, .sh, TC.i (x.2.2.2.2.2.2.2.2.1)⟩], ⟨0, 0⟩⟩, ⟨.val false [⟨.bool, .sh, TC.b false⟩], ⟨0, 0⟩⟩, ⟨.val false [⟨.int .i64, .sh, TC.i (x.2.2.2.2.2.2.2.2.2.1)⟩], ⟨0, 0⟩⟩, ⟨.val false [⟨.slice 9, .own true, TC.l (x.2.2.2.2.2.2.2.2.2.2)⟩], ⟨0, 0⟩⟩])) (fun x => (.exit 0, [⟨.bx 32 [⟨.int .i64, .sh, TC.i (x.1)⟩, ⟨.int .i64, .sh, TC.i (x.2.1)⟩, ⟨.bool, .sh, TC.b (x.2.2.1)⟩, ⟨.bool, .sh, TC.b (x.2.2.2.1)⟩, ⟨.slice 9, .sh, TC.l (x.2.2.2.2.1)⟩, ⟨.slice 2, .sh, TC.l (x.2.2.2.2.2.1)⟩, ⟨.slice 77, .sh, TC.l (x.2.2.2.2.2.2.1)⟩, ⟨.slice 32, .sh, TC.l (x.2.2.2.2.2.2.2.1)⟩, ⟨.int .i64, .sh, TC.i (x.2.2.2.2.2.2.2.2.1)⟩], ⟨0, 0⟩⟩, Slot.none, ⟨.val false [⟨.int .i64, .sh, TC.i (x.2.2.2.2.2.2.2.2.2.1)⟩], ⟨0, 0⟩⟩, ⟨.val false [⟨.slice 9, .own true, TC.l (x.2.2.2.2.2.2.2.2.2.2)⟩], ⟨0, 0⟩⟩])))
noncomputable def impl_Type_compoundOk_lo6 : List Slot → Option (Told (Ex × List Slot)) := fun s => match s with
  | [⟨.val false [⟨.int .i64, .sh, TC.i d⟩], ⟨0, 0⟩⟩, ⟨.bx 32 [⟨.int .i64, .sh, TC.i k⟩, ⟨.int .i64, .sh, TC.i s⟩, ⟨.bool, .sh, TC.b sg⟩, ⟨.bool, .sh, TC.b bg⟩, ⟨.slice 9, .sh, TC.l NA⟩, ⟨.slice 2, .sh, TC.l NU⟩, ⟨.slice 77, .sh, TC.l ME⟩, ⟨.slice 32, .sh, TC.l BA⟩, ⟨.int .i64, .sh, TC.i ct⟩], ⟨0, 0⟩⟩, ⟨.val false [⟨.int .i64, .sh, TC.i en⟩], ⟨0, 0⟩⟩, ⟨.val false [⟨.slice 9, .own true, TC.l NM⟩], ⟨0, 0⟩⟩, ⟨.val false [⟨.slice 77, .sh, TC.l X⟩], ⟨0, 0⟩⟩, ⟨.val false [⟨.int .i64, .sh, TC.i m⟩], ⟨0, 0⟩⟩, ⟨.val false [⟨.int .i64, .sh, TC.i i⟩], ⟨0, 0⟩⟩] => some (((impl_Type_compoundOk_6_fin d k s sg bg NA NU ME BA ct en NM X m i)).map impl_Type_compoundOk_6_out)
  | _ => .none
noncomputable def impl_Type_compoundOk_lo : LoopTeller := fun r s => bif Nat.beq r 6 then impl_Type_compoundOk_lo6 s else .none
theorem impl_Type_compoundOk_6_r (d k s : Int) (sg bg : Bool) (NA NU ME BA : List (List TC)) (ct en : Int) (NM X : List (List TC)) (m i : Int) (fuel : Nat) : rounds (rnd tab FT D51 live 116 impl_Type_compoundOk_lo 0 6) leave (fuel + 1) (impl_Type_compoundOk_6_sl (d, k, s, sg, bg, NA, NU, ME, BA, ct, en, NM, X, m, i)) = ((impl_Type_compoundOk_6_step d k s sg bg NA NU ME BA ct en NM X m i)).run (goOn (fun s => rounds (rnd tab FT D51 live 116 impl_Type_compoundOk_lo 0 6) leave fuel (impl_Type_compoundOk_6_sl s)) fun w => some (impl_Type_compoundOk_6_out w)) := by kernel_rfl
theorem impl_Type_compoundOk_f6_eq (d : Int) (k s : Int) (sg bg : Bool) (NA NU ME BA : List (List TC)) (ct : Int) (m i : Int) (e : Int) (NM : List (List TC)) : impl_Type_compoundOk_f6 d k s sg bg NA NU ME BA ct ME m i e NM = bif (validV (nth (row ME i) 2).int (nth (row ME i) 3).int (nth (row ME i) 4).bool (nth (row ME i) 5).bool (nth (row ME i) 6).list (nth (row ME i) 7).list (nth (row ME i) 8).list (nth (row ME i) 9).list (nth (row ME i) 10).int d && (!decide ((nth (row ME i) 1).int < e) && !decide ((nth (row ME i) 1).int > 24))) then Sum.inl (IntKind.wrap .i64 ((nth (row ME i) 1).int + isizeV (nth (row ME i) 2).int (nth (row ME i) 3).int (nth (row ME i) 9).list (nth (row ME i) 10).int), NM ++ [[TC.s (nth (row ME i) 0).str]]) else Sum.inr (Sum.inl (k, s, sg, bg, NA, NU, ME, BA, ct, e, NM)) := by
  unfold impl_Type_compoundOk_f6
  rw [show impl_Type_valid_rv (nth (row ME i) 2).int (nth (row ME i) 3).int (nth (row ME i) 4).bool (nth (row ME i) 5).bool (nth (row ME i) 6).list (nth (row ME i) 7).list (nth (row ME i) 8).list (nth (row ME i) 9).list (nth (row ME i) 10).int d = validV (nth (row ME i) 2).int (nth (row ME i) 3).int (nth (row ME i) 4).bool (nth (row ME i) 5).bool (nth (row ME i) 6).list (nth (row ME i) 7).list (nth (row ME i) 8).list (nth (row ME i) 9).list (nth (row ME i) 10).int d from rfl]
  generalize validV (nth (row ME i) 2).int (nth (row ME i) 3).int (nth (row ME i) 4).bool (nth (row ME i) 5).bool (nth (row ME i) 6).list (nth (row ME i) 7).list (nth (row ME i) 8).list (nth (row ME i) 9).list (nth (row ME i) 10).int d = p0, decide ((nth (row ME i) 1).int < e) = p1, decide ((nth (row ME i) 1).int > 24) = p2
  cases p0 <;> cases p1 <;> cases p2 <;> rfl
theorem impl_Type_compoundOk_R6_eq (d : Int) (k s : Int) (sg bg : Bool) (NA NU ME BA : List (List TC)) (ct m : Int) : ∃ a : Int × List (List TC), impl_Type_compoundOk_R6 d k s sg bg NA NU ME BA ct 0 [] ME m 0 = bif (allI (memI ME) ME.length && ME.all fun x => validV (nth x 2).int (nth x 3).int (nth x 4).bool (nth x 5).bool (nth x 6).list (nth x 7).list (nth x 8).list (nth x 9).list (nth x 10).int d) then Sum.inr (k, s, sg, bg, NA, NU, ME, BA, ct, endI ME ME.length, nmAt ME ME.length) else Sum.inl (k, s, sg, bg, NA, NU, ME, BA, ct, a.1, a.2) := by
  unfold impl_Type_compoundOk_R6
  obtain ⟨a, ha⟩ := iter_along (f := fun i a => impl_Type_compoundOk_f6 d k s sg bg NA NU ME BA ct ME m (i : Int) a.1 a.2) (fin := fun a => impl_Type_compoundOk_e6 d k s sg bg NA NU ME BA ct ME m a.1 a.2) (P := fun i : Nat => validV (nth (row ME (i : Int)) 2).int (nth (row ME (i : Int)) 3).int (nth (row ME (i : Int)) 4).bool (nth (row ME (i : Int)) 5).bool (nth (row ME (i : Int)) 6).list (nth (row ME (i : Int)) 7).list (nth (row ME (i : Int)) 8).list (nth (row ME (i : Int)) 9).list (nth (row ME (i : Int)) 10).int d && (!decide ((nth (row ME (i : Int)) 1).int < endI ME i) && !decide ((nth (row ME (i : Int)) 1).int > 24))) (A := fun j => (endI ME j, nmAt ME j)) (w := fun a => Sum.inl (k, s, sg, bg, NA, NU, ME, BA, ct, a.1, a.2)) (N := ME.length) (fun j _ => impl_Type_compoundOk_f6_eq d k s sg bg NA NU ME BA ct m (j : Int) (endI ME j) (nmAt ME j))
  refine ⟨a, ha.trans ?_⟩
  rw [show allI (fun i : Nat => validV (nth (row ME (i : Int)) 2).int (nth (row ME (i : Int)) 3).int (nth (row ME (i : Int)) 4).bool (nth (row ME (i : Int)) 5).bool (nth (row ME (i : Int)) 6).list (nth (row ME (i : Int)) 7).list (nth (row ME (i : Int)) 8).list (nth (row ME (i : Int)) 9).list (nth (row ME (i : Int)) 10).int d && (!decide ((nth (row ME (i : Int)) 1).int < endI ME i) && !decide ((nth (row ME (i : Int)) 1).int > 24))) ME.length = (allI (memI ME) ME.length && ME.all fun x => validV (nth x 2).int (nth x 3).int (nth x 4).bool (nth x 5).bool (nth x 6).list (nth x 7).list (nth x 8).list (nth x 9).list (nth x 10).int d) from by
    rw [← allI_rows, Bool.and_comm, ← allI_and]
    rfl]
  rfl
theorem impl_Type_compoundOk_6_h (d k s : Int) (sg bg : Bool) (NA NU ME BA : List (List TC)) (ct en : Int) (NM X : List (List TC)) (m i : Int) (ow : impl_Type_compoundOk_6_ω) : ((impl_Type_compoundOk_6_fin d k s sg bg NA NU ME BA ct en NM X m i)).val = some ow → ∃ fuel, loopN impl_Type_compoundOk_6_st fuel (d, k, s, sg, bg, NA, NU, ME, BA, ct, en, NM, X, m, i) = some ow := by
  refine auto_sum (R := (impl_Type_compoundOk_R6 d k s sg bg NA NU ME BA ct en NM X m i)) rfl rfl rfl ?_
  intro ho
  have ho : is (i = 0 ∧ ME = X ∧ m = (ME.length : Int) ∧ en = 0 ∧ NM = [] ∧ Typed tab (.slice 77) (.l ME) ∧ (∀ x : List TC, x ∈ ME → impl_Type_valid_rc (nth x 2).int (nth x 3).int (nth x 4).bool (nth x 5).bool (nth x 6).list (nth x 7).list (nth x 8).list (nth x 9).list (nth x 10).int d = true) ∧ (∀ x : List TC, x ∈ ME → (!(impl_Type_valid_rv (nth x 2).int (nth x 3).int (nth x 4).bool (nth x 5).bool (nth x 6).list (nth x 7).list (nth x 8).list (nth x 9).list (nth x 10).int d)) = false → impl_Type_size_rc (nth x 2).int (nth x 3).int (nth x 4).bool (nth x 5).bool (nth x 6).list (nth x 7).list (nth x 8).list (nth x 9).list (nth x 10).int = true)) = true := ho.elim id id
  obtain ⟨rfl, rfl, rfl, rfl, rfl, ht, hr, hz⟩ := is_iff.1 ho
  have hlen : ME.length ≤ 140737488351232 := by have := typed_room ht; simp only [show (tab 77).bytes = 152 from rfl] at this; omega
  have hroom := typed_room ht
  simp only [show (tab 77).bytes = 152 from rfl] at hroom
  refine ⟨(ME.length) + 1, ?_⟩
  refine iter_loop (step := impl_Type_compoundOk_6_st) (a := ((0 : Int), ([] : List (List TC)))) (ME.length) (fun i a => (impl_Type_compoundOk_f6 d k s sg bg NA NU ME BA ct ME (ME.length : Int) (i : Int) (a.1) (a.2))) (fun a => (impl_Type_compoundOk_e6 d k s sg bg NA NU ME BA ct ME (ME.length : Int) (a.1) (a.2))) (fun i a => (d, k, s, sg, bg, NA, NU, ME, BA, ct, a.1, a.2, ME, (ME.length : Int), (i : Int))) (fun i (a : Int × List (List TC)) => a.2.length = i) rfl (fun i a hi hI => ⟨?_, fun a' h => by
    unfold impl_Type_compoundOk_f6 at h
    generalize (!(impl_Type_valid_rv (nth (row ME (i : Int)) 2).int (nth (row ME (i : Int)) 3).int (nth (row ME (i : Int)) 4).bool (nth (row ME (i : Int)) 5).bool (nth (row ME (i : Int)) 6).list (nth (row ME (i : Int)) 7).list (nth (row ME (i : Int)) 8).list (nth (row ME (i : Int)) 9).list (nth (row ME (i : Int)) 10).int d)) = q0, decide ((nth (row ME (i : Int)) 1).int < a.1) = q1, decide ((nth (row ME (i : Int)) 1).int > 24) = q2 at h
    cases q0 <;> cases q1 <;> cases q2 <;> first | (cases h; done) | (cases h; show (a.2 ++ _).length = i + 1; rw [List.length_append, hI]; rfl)⟩) (fun a hI => ?_)
  · show (impl_Type_compoundOk_6_step d k s sg bg NA NU ME BA ct (a.1) (a.2) ME (ME.length : Int) (i : Int)).val = _
    unfold impl_Type_compoundOk_6_step impl_Type_compoundOk_f6
    have c0 : Typed tab (.str) (.s (nth (ME.getD i []) 0).str) := typed_s (typed_cell ht (ME.getD i []) (mem_getD hi) 0 (by decide))
    have c6 : Typed tab (.slice 9) (.l (nth (ME.getD i []) 6).list) := typed_list (typed_cell ht (ME.getD i []) (mem_getD hi) 6 (by decide))
    have c7 : Typed tab (.slice 2) (.l (nth (ME.getD i []) 7).list) := typed_list (typed_cell ht (ME.getD i []) (mem_getD hi) 7 (by decide))
    have c8 : Typed tab (.slice 77) (.l (nth (ME.getD i []) 8).list) := typed_list (typed_cell ht (ME.getD i []) (mem_getD hi) 8 (by decide))
    have c9 : Typed tab (.slice 32) (.l (nth (ME.getD i []) 9).list) := typed_list (typed_cell ht (ME.getD i []) (mem_getD hi) 9 (by decide))
    refine Tr.t (by simp; omega) ?_
    exact (Tr.t (by first | omega | (constructor <;> omega) | (exact hr _ (mem_getD (by omega))) | (exact hz _ (mem_getD (by omega)) (by assumption)) | ((unfold roomFor; simp only [show (tab 9).bytes = 16 from rfl, List.length_append, List.length_singleton]; omega))) (Tr.t (by first | omega | (constructor <;> omega) | (exact hr _ (mem_getD (by omega))) | (exact hz _ (mem_getD (by omega)) (by assumption)) | ((unfold roomFor; simp only [show (tab 9).bytes = 16 from rfl, List.length_append, List.length_singleton]; omega))) (Tr.bh (fun _ => rfl) (fun _ => (Tr.bh (fun _ => rfl) (fun _ => (Tr.bh (fun _ => rfl) (fun _ => (Tr.t (by first | omega | (constructor <;> omega) | (exact hr _ (mem_getD (by omega))) | (exact hz _ (mem_getD (by omega)) (by assumption)) | ((unfold roomFor; simp only [show (tab 9).bytes = 16 from rfl, List.length_append, List.length_singleton]; omega))) (Tr.t (by first | omega | (constructor <;> omega) | (exact hr _ (mem_getD (by omega))) | (exact hz _ (mem_getD (by omega)) (by assumption)) | ((unfold roomFor; simp only [show (tab 9).bytes = 16 from rfl, List.length_append, List.length_singleton]; omega))) (by rw [Tr.val_ok, wrap64 (i := (i : Int) + 1) (by omega) (by omega)]; rfl)))))))))))
  · show (impl_Type_compoundOk_6_step d k s sg bg NA NU ME BA ct (a.1) (a.2) ME (ME.length : Int) (ME.length : Int)).val = _
    refine Tr.n (by first | (simp; done) | (simp; omega) | omega) ?_
    rfl
theorem impl_Type_compoundOk_is6 : LoopIs tab FT D51 live 116 impl_Type_compoundOk_lo 0 6 := by
  refine loop_told (sl := impl_Type_compoundOk_6_sl) (step := impl_Type_compoundOk_6_st) (out := impl_Type_compoundOk_6_out) (lor := impl_Type_compoundOk_lo6) (fin := fun x => (impl_Type_compoundOk_6_fin (x.1) (x.2.1) (x.2.2.1) (x.2.2.2.1) (x.2.2.2.2.1) (x.2.2.2.2.2.1) (x.2.2.2.2.2.2.1) (x.2.2.2.2.2.2.2.1) (x.2.2.2.2.2.2.2.2.1) (x.2.2.2.2.2.2.2.2.2.1) (x.2.2.2.2.2.2.2.2.2.2.1) (x.2.2.2.2.2.2.2.2.2.2.2.1) (x.2.2.2.2.2.2.2.2.2.2.2.2.1) (x.2.2.2.2.2.2.2.2.2.2.2.2.2.1) (x.2.2.2.2.2.2.2.2.2.2.2.2.2.2))) (fun _ => rfl) ?_ (fun x n => impl_Type_compoundOk_6_r x.1 x.2.1 x.2.2.1 x.2.2.2.1 x.2.2.2.2.1 x.2.2.2.2.2.1 x.2.2.2.2.2.2.1 x.2.2.2.2.2.2.2.1 x.2.2.2.2.2.2.2.2.1 x.2.2.2.2.2.2.2.2.2.1 x.2.2.2.2.2.2.2.2.2.2.1 x.2.2.2.2.2.2.2.2.2.2.2.1 x.2.2.2.2.2.2.2.2.2.2.2.2.1 x.2.2.2.2.2.2.2.2.2.2.2.2.2.1 x.2.2.2.2.2.2.2.2.2.2.2.2.2.2 n) (fun x ow => impl_Type_compoundOk_6_h x.1 x.2.1 x.2.2.1 x.2.2.2.1 x.2.2.2.2.1 x.2.2.2.2.2.1 x.2.2.2.2.2.2.1 x.2.2.2.2.2.2.2.1 x.2.2.2.2.2.2.2.2.1 x.2.2.2.2.2.2.2.2.2.1 x.2.2.2.2.2.2.2.2.2.2.1 x.2.2.2.2.2.2.2.2.2.2.2.1 x.2.2.2.2.2.2.2.2.2.2.2.2.1 x.2.2.2.2.2.2.2.2.2.2.2.2.2.1 x.2.2.2.2.2.2.2.2.2.2.2.2.2.2 ow)
  intro s t h
  unfold impl_Type_compoundOk_lo6 at h
  split at h
  · cases h; exact ⟨(_, _, _, _, _, _, _, _, _, _, _, _, _, _, _), rfl, rfl⟩
  · cases h
noncomputable def impl_Type_compoundOk_t (k s : Int) (sg bg : Bool) (NA NU ME BA : List (List TC)) (ct d : Int) : Tr (Bool) := (.ite ((!(impl_within_v s (1 : Int) (24 : Int))) = true) (.ok false)
  (.ite ((!(impl_within_v (ME.length : Int) (1 : Int) (4 : Int))) = true) (.ok false)
   (.ite ((impl_Type_compoundOk_k6_1 d k s sg bg NA NU ME BA ct (0 : Int) [] ME (ME.length : Int) (0 : Int)) = true) (.ite ((impl_Type_compoundOk_o6_2 d k s sg bg NA NU ME BA ct (0 : Int) [] ME (ME.length : Int) (0 : Int)) = true) (.ok false)
     .no)
    (.ite ((impl_Type_compoundOk_o6_3 d k s sg bg NA NU ME BA ct (0 : Int) [] ME (ME.length : Int) (0 : Int)) = true) (.ite ((decide ((impl_Type_compoundOk_u6_3_9 d k s sg bg NA NU ME BA ct (0 : Int) [] ME (ME.length : Int) (0 : Int)) ≤ (impl_Type_compoundOk_u6_3_1 d k s sg bg NA NU ME BA ct (0 : Int) [] ME (ME.length : Int) (0 : Int)))) = true) (.ite ((impl_differentNames_c (impl_Type_compoundOk_u6_3_10 d k s sg bg NA NU ME BA ct (0 : Int) [] ME (ME.length : Int) (0 : Int))) = true) (.ok (impl_differentNames_v (impl_Type_compoundOk_u6_3_10 d k s sg bg NA NU ME BA ct (0 : Int) [] ME (ME.length : Int) (0 : Int))))
       .no)
      (.ok false))
     .no))))
def impl_Type_compoundOk_mk (p : Bool) : Res := [(false, [⟨.bool, .sh, TC.b p⟩])]
noncomputable def impl_Type_compoundOk_c (k s : Int) (sg bg : Bool) (NA NU ME BA : List (List TC)) (ct d : Int) : Bool := (bif (!(impl_within_v s (1 : Int) (24 : Int))) then true else (bif (!(impl_within_v (ME.length : Int) (1 : Int) (4 : Int))) then true else (bif (impl_Type_compoundOk_k6_1 d k s sg bg NA NU ME BA ct (0 : Int) [] ME (ME.length : Int) (0 : Int)) then ((impl_Type_compoundOk_o6_2 d k s sg bg NA NU ME BA ct (0 : Int) [] ME (ME.length : Int) (0 : Int)) && true) else ((impl_Type_compoundOk_o6_3 d k s sg bg NA NU ME BA ct (0 : Int) [] ME (ME.length : Int) (0 : Int)) && (bif (decide ((impl_Type_compoundOk_u6_3_9 d k s sg bg NA NU ME BA ct (0 : Int) [] ME (ME.length : Int) (0 : Int)) ≤ (impl_Type_compoundOk_u6_3_1 d k s sg bg NA NU ME BA ct (0 : Int) [] ME (ME.length : Int) (0 : Int)))) then ((impl_differentNames_c (impl_Type_compoundOk_u6_3_10 d k s sg bg NA NU ME BA ct (0 : Int) [] ME (ME.length : Int) (0 : Int))) && true) else true)))))
noncomputable def impl_Type_compoundOk_v (k s : Int) (sg bg : Bool) (NA NU ME BA : List (List TC)) (ct d : Int) : Bool := (bif (!(impl_within_v s (1 : Int) (24 : Int))) then false else (bif (!(impl_within_v (ME.length : Int) (1 : Int) (4 : Int))) then false else (bif (impl_Type_compoundOk_k6_1 d k s sg bg NA NU ME BA ct (0 : Int) [] ME (ME.length : Int) (0 : Int)) then false else (bif (decide ((impl_Type_compoundOk_u6_3_9 d k s sg bg NA NU ME BA ct (0 : Int) [] ME (ME.length : Int) (0 : Int)) ≤ (impl_Type_compoundOk_u6_3_1 d k s sg bg NA NU ME BA ct (0 : Int) [] ME (ME.length : Int) (0 : Int)))) then (impl_differentNames_v (impl_Type_compoundOk_u6_3_10 d k s sg bg NA NU ME BA ct (0 : Int) [] ME (ME.length : Int) (0 : Int))) else false))))
theorem impl_Type_compoundOk_l (k s : Int) (sg bg : Bool) (NA NU ME BA : List (List TC)) (ct d : Int) : (impl_Type_compoundOk_c k s sg bg NA NU ME BA ct d) = true → (impl_Type_compoundOk_t k s sg bg NA NU ME BA ct d).val = some (impl_Type_compoundOk_v k s sg bg NA NU ME BA ct d) := by
  unfold impl_Type_compoundOk_t impl_Type_compoundOk_v impl_Type_compoundOk_c
  exact fun h => (Tr.ss h (fun h => rfl) (fun h => (Tr.ss h (fun h => rfl) (fun h => (Tr.ss h (fun h => (Tr.gb h fun h => rfl)) (fun h => (Tr.gb h fun h => (Tr.ss h (fun h => (Tr.gb h fun h => rfl)) (fun h => rfl)))))))))
noncomputable def impl_Type_compoundOk_S : List Arg → Option (Bool × Res) := fun xs => match xs with
  | [(true, [(.int .i64, TC.i k), (.int .i64, TC.i s), (.bool, TC.b sg), (.bool, TC.b bg), (.slice 9, TC.l NA), (.slice 2, TC.l NU), (.slice 77, TC.l ME), (.slice 32, TC.l BA), (.int .i64, TC.i ct)]), (false, [(.int .i64, TC.i d)])] => some ((impl_Type_compoundOk_c k s sg bg NA NU ME BA ct d), impl_Type_compoundOk_mk (impl_Type_compoundOk_v k s sg bg NA NU ME BA ct d))
  | _ => .none
theorem impl_Type_compoundOk_e (k s : Int) (sg bg : Bool) (NA NU ME BA : List (List TC)) (ct d : Int) : runF tab FT D51 live 116 impl_Type_compoundOk_lo [(true, [(.int .i64, TC.i k), (.int .i64, TC.i s), (.bool, TC.b sg), (.bool, TC.b bg), (.slice 9, TC.l NA), (.slice 2, TC.l NU), (.slice 77, TC.l ME), (.slice 32, TC.l BA), (.int .i64, TC.i ct)]), (false, [(.int .i64, TC.i d)])] = (impl_Type_compoundOk_t k s sg bg NA NU ME BA ct d).run fun p => some (impl_Type_compoundOk_mk p) := by kernel_rfl
theorem impl_Type_compoundOk_s : ∀ xs r, impl_Type_compoundOk_S xs = some (true, r) → runF tab FT D51 live 116 impl_Type_compoundOk_lo xs = some r := by
  intro xs r h
  unfold impl_Type_compoundOk_S at h
  split at h
  · simp only [Option.some.injEq, Prod.mk.injEq] at h
    obtain ⟨h1, rfl⟩ := h
    exact fun_told (impl_Type_compoundOk_e _ _ _ _ _ _ _ _ _ _) (impl_Type_compoundOk_l _ _ _ _ _ _ _ _ _ _) h1
  · cases h
noncomputable def D52 : Dt := also D51 116 impl_Type_compoundOk_S
theorem d52 : DOk Go.Proofs.Try.prog tab D52 := d51.also mixed_ok tab_ok names_ok (fnLoops_one (by kernel_rfl) impl_Type_compoundOk_is6) impl_Type_compoundOk_s
theorem nm_typed {ME : List (List TC)} (ht : Typed tab (.slice 77) (.l ME)) : Typed tab (.slice 9) (.l (nmAt ME ME.length)) := by
  have hroom := typed_room ht
  simp only [show (tab 77).bytes = 152 from rfl] at hroom
  have hm : (140737488351232 : Nat) ≤ maxLen := by unfold maxLen; omega
  rw [nmAt_all]
  refine .slice _ _ (by rw [List.length_map, show (tab 9).bytes = 16 from rfl]; show _ ≤ 140737488351232; omega) (by rw [List.length_map]; omega) (fun x hx => ?_) (fun x hx k hk => ?_)
  · obtain ⟨y, _, rfl⟩ := List.mem_map.1 hx; rfl
  · obtain ⟨y, hy, rfl⟩ := List.mem_map.1 hx
    have hk : k = 0 := by have : k < 1 := hk; omega
    subst hk
    exact typed_s ((typed_elem ht hy).2 0 (by decide))
theorem comp_u {d : Int} {k s : Int} {sg bg : Bool} {NA NU ME BA : List (List TC)} {ct : Int} {m : Int} (h : impl_Type_compoundOk_k6_1 d k s sg bg NA NU ME BA ct 0 [] ME m 0 = false) : impl_Type_compoundOk_u6_3_10 d k s sg bg NA NU ME BA ct 0 [] ME m 0 = nmAt ME ME.length := by
  unfold impl_Type_compoundOk_u6_3_10
  unfold impl_Type_compoundOk_k6_1 at h
  obtain ⟨a, ha⟩ := impl_Type_compoundOk_R6_eq d k s sg bg NA NU ME BA ct m
  rw [ha] at h ⊢
  generalize (allI (memI ME) ME.length && ME.all fun x => validV (nth x 2).int (nth x 3).int (nth x 4).bool (nth x 5).bool (nth x 6).list (nth x 7).list (nth x 8).list (nth x 9).list (nth x 10).int d) = q at h ⊢
  cases q
  · cases h
  · rfl
theorem impl_Type_compoundOk_cc {k : Int} {s : Int} {sg : Bool} {bg : Bool} {NA : List (List TC)} {NU : List (List TC)} {ME : List (List TC)} {BA : List (List TC)} {ct : Int} {d : Int} (ht : Typed tab (.slice 77) (.l ME)) (hr : (∀ x : List TC, x ∈ ME → impl_Type_valid_rc (nth x 2).int (nth x 3).int (nth x 4).bool (nth x 5).bool (nth x 6).list (nth x 7).list (nth x 8).list (nth x 9).list (nth x 10).int d = true)) (hz : (∀ x : List TC, x ∈ ME → (!(impl_Type_valid_rv (nth x 2).int (nth x 3).int (nth x 4).bool (nth x 5).bool (nth x 6).list (nth x 7).list (nth x 8).list (nth x 9).list (nth x 10).int d)) = false → impl_Type_size_rc (nth x 2).int (nth x 3).int (nth x 4).bool (nth x 5).bool (nth x 6).list (nth x 7).list (nth x 8).list (nth x 9).list (nth x 10).int = true)) : (impl_Type_compoundOk_c k s sg bg NA NU ME BA ct d) = true := by
  unfold impl_Type_compoundOk_c
  refine bifT (fun b1 => ?_) (fun b1 => ?_)
  · skip
    rfl
  · skip
    refine bifT (fun b2 => ?_) (fun b2 => ?_)
    · skip
      rfl
    · skip
      refine bifT (fun b3 => ?_) (fun b3 => ?_)
      · skip
        refine andT (by exact is_true ⟨rfl, rfl, rfl, rfl, rfl, ht, hr, hz⟩) ?_
        rfl
      · skip
        refine andT (by exact is_true ⟨rfl, rfl, rfl, rfl, rfl, ht, hr, hz⟩) ?_
        refine bifT (fun b4 => ?_) (fun b4 => ?_)
        · skip
          refine andT (by rw [comp_u b3]; exact impl_differentNames_cc (nm_typed ht)) ?_
          rfl
        · skip
          rfl
theorem impl_Type_compoundOk_vv (k s : Int) (sg bg : Bool) (NA NU ME BA : List (List TC)) (ct d : Int) : impl_Type_compoundOk_v k s sg bg NA NU ME BA ct d = (inB s 1 24 && (inB (ME.length : Int) 1 4 && ((allI (memI ME) ME.length && ME.all fun x => validV (nth x 2).int (nth x 3).int (nth x 4).bool (nth x 5).bool (nth x 6).list (nth x 7).list (nth x 8).list (nth x 9).list (nth x 10).int d) && (decide (endI ME ME.length ≤ s) && allI (fun i : Nat => dnP ME (i : Int)) ME.length)))) := by
  unfold impl_Type_compoundOk_v
  obtain ⟨a, ha⟩ := impl_Type_compoundOk_R6_eq d k s sg bg NA NU ME BA ct (ME.length : Int)
  unfold impl_Type_compoundOk_k6_1 impl_Type_compoundOk_u6_3_9 impl_Type_compoundOk_u6_3_1 impl_Type_compoundOk_u6_3_10
  rw [ha, show impl_within_v s 1 24 = inB s 1 24 from rfl, show impl_within_v (ME.length : Int) 1 4 = inB (ME.length : Int) 1 4 from rfl]
  have hn : allI (fun i : Nat => dnP (nmAt ME ME.length) (i : Int)) (nmAt ME ME.length).length = allI (fun i : Nat => dnP ME (i : Int)) ME.length := by
    rw [nmAt_len]
    exact allI_congr fun i hi => by unfold dnP; rw [nm_str hi, nm_dup hi]
  generalize (allI (memI ME) ME.length && ME.all fun x => validV (nth x 2).int (nth x 3).int (nth x 4).bool (nth x 5).bool (nth x 6).list (nth x 7).list (nth x 8).list (nth x 9).list (nth x 10).int d) = q
  cases q
  · simp only [bif_nf, bif_tf, bif_ft, Bool.not_not, Bool.false_and, Bool.and_false]
    show (inB s 1 24 && (inB (ME.length : Int) 1 4 && false)) = false
    simp only [Bool.and_false]
  · show (bif !(inB s 1 24) then false else bif !(inB (ME.length : Int) 1 4) then false else bif false then false else bif decide (endI ME ME.length ≤ s) then impl_differentNames_v (nmAt ME ME.length) else false) = _
    rw [impl_differentNames_vv, hn]
    simp only [bif_nf, bif_tf, bif_ft, Bool.not_not, Bool.true_and, Bool.not_false]
/-! impl_Type_valid -/
noncomputable def impl_Type_valid_t (k s : Int) (sg bg : Bool) (NA NU ME BA : List (List TC)) (ct d : Int) : Tr (Bool) := (.ite ((decide (d < (1 : Int))) = true) (.ok false)
  (.ite ((impl_SameType_rc k s sg bg NA NU ME BA ct ((impl_Type_only_v k s sg bg NA NU ME BA ct).1) ((impl_Type_only_v k s sg bg NA NU ME BA ct).2.1) ((impl_Type_only_v k s sg bg NA NU ME BA ct).2.2.1) ((impl_Type_only_v k s sg bg NA NU ME BA ct).2.2.2.1) ((impl_Type_only_v k s sg bg NA NU ME BA ct).2.2.2.2.1) ((impl_Type_only_v k s sg bg NA NU ME BA ct).2.2.2.2.2.1) ((impl_Type_only_v k s sg bg NA NU ME BA ct).2.2.2.2.2.2.1) ((impl_Type_only_v k s sg bg NA NU ME BA ct).2.2.2.2.2.2.2.1) ((impl_Type_only_v k s sg bg NA NU ME BA ct).2.2.2.2.2.2.2.2)) = true) (.ite ((!(impl_SameType_rv k s sg bg NA NU ME BA ct ((impl_Type_only_v k s sg bg NA NU ME BA ct).1) ((impl_Type_only_v k s sg bg NA NU ME BA ct).2.1) ((impl_Type_only_v k s sg bg NA NU ME BA ct).2.2.1) ((impl_Type_only_v k s sg bg NA NU ME BA ct).2.2.2.1) ((impl_Type_only_v k s sg bg NA NU ME BA ct).2.2.2.2.1) ((impl_Type_only_v k s sg bg NA NU ME BA ct).2.2.2.2.2.1) ((impl_Type_only_v k s sg bg NA NU ME BA ct).2.2.2.2.2.2.1) ((impl_Type_only_v k s sg bg NA NU ME BA ct).2.2.2.2.2.2.2.1) ((impl_Type_only_v k s sg bg NA NU ME BA ct).2.2.2.2.2.2.2.2))) = true) (.ok false)
    (.ite ((k == (1 : Int)) = true) (.ite ((impl_Type_intOk_c k s sg bg NA NU ME BA ct) = true) (.ok (impl_Type_intOk_v k s sg bg NA NU ME BA ct))
      .no)
     (.ite ((k == (2 : Int)) = true) (.ok (impl_within_v s (1 : Int) (16 : Int)))
      (.ite ((k == (3 : Int)) = true) (.ite ((impl_Type_enumOk_c k s sg bg NA NU ME BA ct) = true) (.ok (impl_Type_enumOk_v k s sg bg NA NU ME BA ct))
        .no)
       (.ite ((k == (4 : Int)) = true) (.ite ((impl_Type_compoundOk_c k s sg bg NA NU ME BA ct (IntKind.wrap .i64 (d - (1 : Int)))) = true) (.ok (impl_Type_compoundOk_v k s sg bg NA NU ME BA ct (IntKind.wrap .i64 (d - (1 : Int)))))
         .no)
        (.ite ((k == (5 : Int)) = true) (.ite ((impl_within_v ct (1 : Int) (4 : Int)) = true) (.ite (((BA.length : Int) == (1 : Int)) = true) (.ite ((0 : Int) ≤ (0 : Int) ∧ (0 : Int) < (BA.length : Int)) (.ite ((impl_Type_valid_rc ((nth (row BA (0 : Int)) 0).int) ((nth (row BA (0 : Int)) 1).int) ((nth (row BA (0 : Int)) 2).bool) ((nth (row BA (0 : Int)) 3).bool) ((nth (row BA (0 : Int)) 4).list) ((nth (row BA (0 : Int)) 5).list) ((nth (row BA (0 : Int)) 6).list) ((nth (row BA (0 : Int)) 7).list) ((nth (row BA (0 : Int)) 8).int) (IntKind.wrap .i64 (d - (1 : Int)))) = true) (.ite ((impl_Type_valid_rv ((nth (row BA (0 : Int)) 0).int) ((nth (row BA (0 : Int)) 1).int) ((nth (row BA (0 : Int)) 2).bool) ((nth (row BA (0 : Int)) 3).bool) ((nth (row BA (0 : Int)) 4).list) ((nth (row BA (0 : Int)) 5).list) ((nth (row BA (0 : Int)) 6).list) ((nth (row BA (0 : Int)) 7).list) ((nth (row BA (0 : Int)) 8).int) (IntKind.wrap .i64 (d - (1 : Int)))) = true) (.ite ((impl_Type_size_rc k s sg bg NA NU ME BA ct) = true) (.ok (decide ((impl_Type_size_rv k s sg bg NA NU ME BA ct) ≤ (24 : Int))))
               .no)
              (.ok false))
             .no)
            .no)
           (.ok false))
          (.ok false))
         (.ite ((k == (6 : Int)) = true) (.ok (s == (2 : Int)))
          (.ok false))))))))
   .no))
def impl_Type_valid_mk (p : Bool) : Res := [(false, [⟨.bool, .sh, TC.b p⟩])]
noncomputable def impl_Type_valid_c (k s : Int) (sg bg : Bool) (NA NU ME BA : List (List TC)) (ct d : Int) : Bool := (bif (decide (d < (1 : Int))) then true else ((impl_SameType_rc k s sg bg NA NU ME BA ct ((impl_Type_only_v k s sg bg NA NU ME BA ct).1) ((impl_Type_only_v k s sg bg NA NU ME BA ct).2.1) ((impl_Type_only_v k s sg bg NA NU ME BA ct).2.2.1) ((impl_Type_only_v k s sg bg NA NU ME BA ct).2.2.2.1) ((impl_Type_only_v k s sg bg NA NU ME BA ct).2.2.2.2.1) ((impl_Type_only_v k s sg bg NA NU ME BA ct).2.2.2.2.2.1) ((impl_Type_only_v k s sg bg NA NU ME BA ct).2.2.2.2.2.2.1) ((impl_Type_only_v k s sg bg NA NU ME BA ct).2.2.2.2.2.2.2.1) ((impl_Type_only_v k s sg bg NA NU ME BA ct).2.2.2.2.2.2.2.2)) && (bif (!(impl_SameType_rv k s sg bg NA NU ME BA ct ((impl_Type_only_v k s sg bg NA NU ME BA ct).1) ((impl_Type_only_v k s sg bg NA NU ME BA ct).2.1) ((impl_Type_only_v k s sg bg NA NU ME BA ct).2.2.1) ((impl_Type_only_v k s sg bg NA NU ME BA ct).2.2.2.1) ((impl_Type_only_v k s sg bg NA NU ME BA ct).2.2.2.2.1) ((impl_Type_only_v k s sg bg NA NU ME BA ct).2.2.2.2.2.1) ((impl_Type_only_v k s sg bg NA NU ME BA ct).2.2.2.2.2.2.1) ((impl_Type_only_v k s sg bg NA NU ME BA ct).2.2.2.2.2.2.2.1) ((impl_Type_only_v k s sg bg NA NU ME BA ct).2.2.2.2.2.2.2.2))) then true else (bif (k == (1 : Int)) then ((impl_Type_intOk_c k s sg bg NA NU ME BA ct) && true) else (bif (k == (2 : Int)) then true else (bif (k == (3 : Int)) then ((impl_Type_enumOk_c k s sg bg NA NU ME BA ct) && true) else (bif (k == (4 : Int)) then ((impl_Type_compoundOk_c k s sg bg NA NU ME BA ct (IntKind.wrap .i64 (d - (1 : Int)))) && true) else (bif (k == (5 : Int)) then (bif (impl_within_v ct (1 : Int) (4 : Int)) then (bif ((BA.length : Int) == (1 : Int)) then (is ((0 : Int) ≤ (0 : Int) ∧ (0 : Int) < (BA.length : Int)) && ((impl_Type_valid_rc ((nth (row BA (0 : Int)) 0).int) ((nth (row BA (0 : Int)) 1).int) ((nth (row BA (0 : Int)) 2).bool) ((nth (row BA (0 : Int)) 3).bool) ((nth (row BA (0 : Int)) 4).list) ((nth (row BA (0 : Int)) 5).list) ((nth (row BA (0 : Int)) 6).list) ((nth (row BA (0 : Int)) 7).list) ((nth (row BA (0 : Int)) 8).int) (IntKind.wrap .i64 (d - (1 : Int)))) && (bif (impl_Type_valid_rv ((nth (row BA (0 : Int)) 0).int) ((nth (row BA (0 : Int)) 1).int) ((nth (row BA (0 : Int)) 2).bool) ((nth (row BA (0 : Int)) 3).bool) ((nth (row BA (0 : Int)) 4).list) ((nth (row BA (0 : Int)) 5).list) ((nth (row BA (0 : Int)) 6).list) ((nth (row BA (0 : Int)) 7).list) ((nth (row BA (0 : Int)) 8).int) (IntKind.wrap .i64 (d - (1 : Int)))) then ((impl_Type_size_rc k s sg bg NA NU ME BA ct) && true) else true))) else true) else true) else (bif (k == (6 : Int)) then true else true)))))))))
noncomputable def impl_Type_valid_v (k s : Int) (sg bg : Bool) (NA NU ME BA : List (List TC)) (ct d : Int) : Bool := (bif (decide (d < (1 : Int))) then false else (bif (!(impl_SameType_rv k s sg bg NA NU ME BA ct ((impl_Type_only_v k s sg bg NA NU ME BA ct).1) ((impl_Type_only_v k s sg bg NA NU ME BA ct).2.1) ((impl_Type_only_v k s sg bg NA NU ME BA ct).2.2.1) ((impl_Type_only_v k s sg bg NA NU ME BA ct).2.2.2.1) ((impl_Type_only_v k s sg bg NA NU ME BA ct).2.2.2.2.1) ((impl_Type_only_v k s sg bg NA NU ME BA ct).2.2.2.2.2.1) ((impl_Type_only_v k s sg bg NA NU ME BA ct).2.2.2.2.2.2.1) ((impl_Type_only_v k s sg bg NA NU ME BA ct).2.2.2.2.2.2.2.1) ((impl_Type_only_v k s sg bg NA NU ME BA ct).2.2.2.2.2.2.2.2))) then false else (bif (k == (1 : Int)) then (impl_Type_intOk_v k s sg bg NA NU ME BA ct) else (bif (k == (2 : Int)) then (impl_within_v s (1 : Int) (16 : Int)) else (bif (k == (3 : Int)) then (impl_Type_enumOk_v k s sg bg NA NU ME BA ct) else (bif (k == (4 : Int)) then (impl_Type_compoundOk_v k s sg bg NA NU ME BA ct (IntKind.wrap .i64 (d - (1 : Int)))) else (bif (k == (5 : Int)) then (bif (impl_within_v ct (1 : Int) (4 : Int)) then (bif ((BA.length : Int) == (1 : Int)) then (bif (impl_Type_valid_rv ((nth (row BA (0 : Int)) 0).int) ((nth (row BA (0 : Int)) 1).int) ((nth (row BA (0 : Int)) 2).bool) ((nth (row BA (0 : Int)) 3).bool) ((nth (row BA (0 : Int)) 4).list) ((nth (row BA (0 : Int)) 5).list) ((nth (row BA (0 : Int)) 6).list) ((nth (row BA (0 : Int)) 7).list) ((nth (row BA (0 : Int)) 8).int) (IntKind.wrap .i64 (d - (1 : Int)))) then (decide ((impl_Type_size_rv k s sg bg NA NU ME BA ct) ≤ (24 : Int))) else false) else false) else false) else (bif (k == (6 : Int)) then (s == (2 : Int)) else false))))))))
theorem impl_Type_valid_l (k s : Int) (sg bg : Bool) (NA NU ME BA : List (List TC)) (ct d : Int) : (impl_Type_valid_c k s sg bg NA NU ME BA ct d) = true → (impl_Type_valid_t k s sg bg NA NU ME BA ct d).val = some (impl_Type_valid_v k s sg bg NA NU ME BA ct d) := by
  unfold impl_Type_valid_t impl_Type_valid_v impl_Type_valid_c
  exact fun h => (Tr.ss h (fun h => rfl) (fun h => (Tr.gb h fun h => (Tr.ss h (fun h => rfl) (fun h => (Tr.ss h (fun h => (Tr.gb h fun h => rfl)) (fun h => (Tr.ss h (fun h => rfl) (fun h => (Tr.ss h (fun h => (Tr.gb h fun h => rfl)) (fun h => (Tr.ss h (fun h => (Tr.gb h fun h => rfl)) (fun h => (Tr.ss h (fun h => (Tr.ss h (fun h => (Tr.ss h (fun h => (Tr.gs h fun h => (Tr.gb h fun h => (Tr.ss h (fun h => (Tr.gb h fun h => rfl)) (fun h => rfl))))) (fun h => rfl))) (fun h => rfl))) (fun h => (Tr.ss h (fun h => rfl) (fun h => rfl)))))))))))))))))
noncomputable def impl_Type_valid_S : List Arg → Option (Bool × Res) := fun xs => match xs with
  | [(true, [(.int .i64, TC.i k), (.int .i64, TC.i s), (.bool, TC.b sg), (.bool, TC.b bg), (.slice 9, TC.l NA), (.slice 2, TC.l NU), (.slice 77, TC.l ME), (.slice 32, TC.l BA), (.int .i64, TC.i ct)]), (false, [(.int .i64, TC.i d)])] => some ((impl_Type_valid_c k s sg bg NA NU ME BA ct d), impl_Type_valid_mk (impl_Type_valid_v k s sg bg NA NU ME BA ct d))
  | _ => .none
theorem impl_Type_valid_e (k s : Int) (sg bg : Bool) (NA NU ME BA : List (List TC)) (ct d : Int) : runF tab FT D52 live 80 noLoops [(true, [(.int .i64, TC.i k), (.int .i64, TC.i s), (.bool, TC.b sg), (.bool, TC.b bg), (.slice 9, TC.l NA), (.slice 2, TC.l NU), (.slice 77, TC.l ME), (.slice 32, TC.l BA), (.int .i64, TC.i ct)]), (false, [(.int .i64, TC.i d)])] = (impl_Type_valid_t k s sg bg NA NU ME BA ct d).run fun p => some (impl_Type_valid_mk p) := by kernel_rfl
theorem impl_Type_valid_s : ∀ xs r, impl_Type_valid_S xs = some (true, r) → runF tab FT D52 live 80 noLoops xs = some r := by
  intro xs r h
  unfold impl_Type_valid_S at h
  split at h
  · simp only [Option.some.injEq, Prod.mk.injEq] at h
    obtain ⟨h1, rfl⟩ := h
    exact fun_told (impl_Type_valid_e _ _ _ _ _ _ _ _ _ _) (impl_Type_valid_l _ _ _ _ _ _ _ _ _ _) h1
  · cases h
theorem impl_Type_valid_nx (k s : Int) (sg bg : Bool) (NA NU ME BA : List (List TC)) (ct d : Int) : is (max (rowsDep ME) (rowsDep BA) < impl_Type_valid_O.n + 1 ∧ d ≤ 3 ∧ max (rowsDep ME) (rowsDep BA) < impl_SameType_O.n ∧ max (rowsDep ME) (rowsDep BA) < impl_Type_size_O.n ∧ Typed tab (.slice 9) (.l NA) ∧ Typed tab (.slice 2) (.l NU) ∧ Typed tab (.slice 77) (.l ME) ∧ Typed tab (.slice 32) (.l BA)) = true → (impl_Type_valid_c k s sg bg NA NU ME BA ct d) = true ∧ (impl_Type_valid_v k s sg bg NA NU ME BA ct d) = validV k s sg bg NA NU ME BA ct d := by
  intro h
  obtain ⟨hM, hd, hS, hZ, t4, t5, t6, t7⟩ := is_iff.1 h
  by_cases hd1 : d < 1
  · refine ⟨by unfold impl_Type_valid_c; rw [decide_eq_true hd1]; rfl, ?_⟩
    unfold impl_Type_valid_v validV
    rw [decide_eq_true hd1]
    show false = _
    cases hk : okV k s sg bg NA NU ME BA ct with
    | false => rfl
    | true => have := okV_pos hk; rw [decide_eq_false (by omega)]; rfl
  have hsame : ∀ (k' s' : Int) (sg' bg' : Bool) (A B C D : List (List TC)) (ct' : Int), Typed tab (.slice 9) (.l A) → Typed tab (.slice 2) (.l B) → Typed tab (.slice 77) (.l C) → Typed tab (.slice 32) (.l D) → impl_SameType_rc k s sg bg NA NU ME BA ct k' s' sg' bg' A B C D ct' = true :=
    fun _ _ _ _ _ _ _ _ _ a b c e => is_true ⟨by omega, t4, t5, t6, t7, a, b, c, e⟩
  have hv : ∀ (k' s' : Int) (sg' bg' : Bool) (A B C D : List (List TC)) (ct' : Int), impl_SameType_rv k s sg bg NA NU ME BA ct k' s' sg' bg' A B C D ct' = sameV k s sg bg NA NU ME BA ct k' s' sg' bg' A B C D ct' := fun _ _ _ _ _ _ _ _ _ => rfl
  have z4 : Typed tab (.slice 9) (.l []) := typed_none
  have z5 : Typed tab (.slice 2) (.l []) := typed_none
  have z6 : Typed tab (.slice 77) (.l []) := typed_none
  have z7 : Typed tab (.slice 32) (.l []) := typed_none
  have w1 : IntKind.wrap .i64 (d - 1) = d - 1 := wrap64 (by omega) (by omega)
  have e0 : decide (d < 1) = false := decide_eq_false hd1
  have hbase : ∀ d', d' ≤ 3 → 0 < BA.length → impl_Type_valid_rc (nth (row BA (0 : Int)) 0).int (nth (row BA (0 : Int)) 1).int (nth (row BA (0 : Int)) 2).bool (nth (row BA (0 : Int)) 3).bool (nth (row BA (0 : Int)) 4).list (nth (row BA (0 : Int)) 5).list (nth (row BA (0 : Int)) 6).list (nth (row BA (0 : Int)) 7).list (nth (row BA (0 : Int)) 8).int d' = true := fun d' hd' hb => by
    have := dep_base (ME := ME) hb 6 7
    exact is_true ⟨by omega, hd', by omega, by omega, typed_list ((typed_elem t7 (mem_getD (i := 0) hb)).2 4 (by decide)), typed_list ((typed_elem t7 (mem_getD (i := 0) hb)).2 5 (by decide)), typed_list ((typed_elem t7 (mem_getD (i := 0) hb)).2 6 (by decide)), typed_list ((typed_elem t7 (mem_getD (i := 0) hb)).2 7 (by decide))⟩
  unfold impl_Type_valid_c impl_Type_valid_v
  rw [e0, w1]
  by_cases k1 : k = 1
  · subst k1
    rw [show impl_Type_only_v 1 s sg bg NA NU ME BA ct = (1, s, sg, bg, [], [], [], [], 0) from rfl]
    refine ⟨?_, ?_⟩
    · simp only [hsame _ _ _ _ _ _ _ _ _ z4 z5 z6 z7, impl_Type_intOk_cc1, Int.reduceBEq, cond_true, cond_false, Bool.true_and, Bool.and_true, bif_same]
    · rw [← pure1 (by omega)]
      simp only [hv, impl_Type_intOk_vv, Int.reduceBEq, cond_true, cond_false]
  by_cases k2 : k = 2
  · subst k2
    rw [show impl_Type_only_v 2 s sg bg NA NU ME BA ct = (2, s, false, false, [], [], [], [], 0) from rfl]
    refine ⟨?_, ?_⟩
    · simp only [hsame _ _ _ _ _ _ _ _ _ z4 z5 z6 z7, Int.reduceBEq, cond_true, cond_false, Bool.true_and, Bool.and_true, bif_same]
    · rw [valid_2 (by omega), ← pureB (k := 2) (s := s)]
      simp only [hv, Int.reduceBEq, cond_true, cond_false]
      rfl
  by_cases k6 : k = 6
  · subst k6
    rw [show impl_Type_only_v 6 s sg bg NA NU ME BA ct = (6, s, false, false, [], [], [], [], 0) from rfl]
    refine ⟨?_, ?_⟩
    · simp only [hsame _ _ _ _ _ _ _ _ _ z4 z5 z6 z7, Int.reduceBEq, cond_true, cond_false, Bool.true_and, Bool.and_true, bif_same]
    · rw [valid_6 (by omega), ← pureB (k := 6) (s := s)]
      simp only [hv, Int.reduceBEq, cond_true, cond_false]
  by_cases k3 : k = 3
  · subst k3
    rw [show impl_Type_only_v 3 s sg bg NA NU ME BA ct = (3, 0, false, false, NA, NU, [], BA, 0) from rfl]
    refine ⟨?_, ?_⟩
    · have hl : NU.length ≤ 140737488351232 := by have := typed_room t5; simp only [show (tab 2).bytes = 8 from rfl] at this; omega
      simp only [hsame _ _ _ _ _ _ _ _ _ t4 t5 z6 t7, impl_Type_enumOk_cc (hbase 1 (by omega)) t4 hl, Int.reduceBEq, cond_true, cond_false, Bool.true_and, Bool.and_true, bif_same]
    · rw [← pure3 (by omega)]
      simp only [hv, impl_Type_enumOk_vv, Int.reduceBEq, cond_true, cond_false]
  by_cases k4 : k = 4
  · subst k4
    rw [show impl_Type_only_v 4 s sg bg NA NU ME BA ct = (4, s, false, false, [], [], ME, [], 0) from rfl]
    refine ⟨?_, ?_⟩
    · have hr : ∀ x, x ∈ ME → impl_Type_valid_rc (nth x 2).int (nth x 3).int (nth x 4).bool (nth x 5).bool (nth x 6).list (nth x 7).list (nth x 8).list (nth x 9).list (nth x 10).int (d - 1) = true := fun x hx => by
        have := dep_max (BA := BA) hx 8 9
        exact is_true ⟨by omega, by omega, by omega, by omega, typed_list ((typed_elem t6 hx).2 6 (by decide)), typed_list ((typed_elem t6 hx).2 7 (by decide)), typed_list ((typed_elem t6 hx).2 8 (by decide)), typed_list ((typed_elem t6 hx).2 9 (by decide))⟩
      have hz : ∀ x, x ∈ ME → (!(impl_Type_valid_rv (nth x 2).int (nth x 3).int (nth x 4).bool (nth x 5).bool (nth x 6).list (nth x 7).list (nth x 8).list (nth x 9).list (nth x 10).int (d - 1))) = false → impl_Type_size_rc (nth x 2).int (nth x 3).int (nth x 4).bool (nth x 5).bool (nth x 6).list (nth x 7).list (nth x 8).list (nth x 9).list (nth x 10).int = true := fun x hx hk => by
        have := dep_max (BA := BA) hx 8 9
        have hk : impl_Type_valid_rv (nth x 2).int (nth x 3).int (nth x 4).bool (nth x 5).bool (nth x 6).list (nth x 7).list (nth x 8).list (nth x 9).list (nth x 10).int (d - 1) = true := by simpa using hk
        have hk : (okV (nth x 2).int (nth x 3).int (nth x 4).bool (nth x 5).bool (nth x 6).list (nth x 7).list (nth x 8).list (nth x 9).list (nth x 10).int && decide (depthV (nth x 2).int (nth x 8).list (nth x 9).list ≤ d - 1)) = true := hk
        rw [Bool.and_eq_true] at hk
        exact is_true ⟨by omega, (okV_isize hk.1).2⟩
      simp only [hsame _ _ _ _ _ _ _ _ _ z4 z5 t6 z7, impl_Type_compoundOk_cc t6 hr hz, Int.reduceBEq, cond_true, cond_false, Bool.true_and, Bool.and_true, bif_same]
    · rw [← pure4 (by omega) hd]
      simp only [hv, impl_Type_compoundOk_vv, Int.reduceBEq, cond_true, cond_false]
  by_cases k5 : k = 5
  · subst k5
    rw [show impl_Type_only_v 5 s sg bg NA NU ME BA ct = (5, 0, false, false, [], [], [], BA, ct) from rfl]
    refine ⟨?_, ?_⟩
    · simp only [hsame _ _ _ _ _ _ _ _ _ z4 z5 z6 t7, Int.reduceBEq, cond_true, cond_false, Bool.true_and, Bool.and_true]
      cases hb : ((BA.length : Int) == 1) with
      | false => simp only [cond_false, bif_same]
      | true =>
        have hb0 : 0 < BA.length := by have := beq_iff_eq.1 hb; omega
        rw [hbase (d - 1) (by omega) hb0, show is ((0 : Int) ≤ (0 : Int) ∧ (0 : Int) < (BA.length : Int)) = true from is_true (by constructor <;> omega)]
        cases hk : impl_Type_valid_rv (nth (row BA (0 : Int)) 0).int (nth (row BA (0 : Int)) 1).int (nth (row BA (0 : Int)) 2).bool (nth (row BA (0 : Int)) 3).bool (nth (row BA (0 : Int)) 4).list (nth (row BA (0 : Int)) 5).list (nth (row BA (0 : Int)) 6).list (nth (row BA (0 : Int)) 7).list (nth (row BA (0 : Int)) 8).int (d - 1) with
        | false => simp only [cond_true, cond_false, Bool.true_and, bif_same]
        | true =>
          have hk' : (okV (nth (row BA (0 : Int)) 0).int (nth (row BA (0 : Int)) 1).int (nth (row BA (0 : Int)) 2).bool (nth (row BA (0 : Int)) 3).bool (nth (row BA (0 : Int)) 4).list (nth (row BA (0 : Int)) 5).list (nth (row BA (0 : Int)) 6).list (nth (row BA (0 : Int)) 7).list (nth (row BA (0 : Int)) 8).int && decide (depthV (nth (row BA (0 : Int)) 0).int (nth (row BA (0 : Int)) 6).list (nth (row BA (0 : Int)) 7).list ≤ d - 1)) = true := hk
          rw [Bool.and_eq_true] at hk'
          have hsz : impl_Type_size_rc 5 s sg bg NA NU ME BA ct = true := is_true ⟨by omega, by
            rw [isizeC]
            show (if h : 0 < BA.length then isizeC (nth (row BA (0 : Int)) 0).int (nth (row BA (0 : Int)) 7).list else false) = true
            rw [dif_pos hb0]; exact (okV_isize hk'.1).2⟩
          simp only [hsz, cond_true, Bool.true_and, bif_same]
    · rw [← pure5 (by omega) hd]
      simp only [hv, Int.reduceBEq, cond_true, cond_false, show impl_within_v ct 1 4 = inB ct 1 4 from rfl, show impl_Type_valid_rv (nth (row BA (0 : Int)) 0).int (nth (row BA (0 : Int)) 1).int (nth (row BA (0 : Int)) 2).bool (nth (row BA (0 : Int)) 3).bool (nth (row BA (0 : Int)) 4).list (nth (row BA (0 : Int)) 5).list (nth (row BA (0 : Int)) 6).list (nth (row BA (0 : Int)) 7).list (nth (row BA (0 : Int)) 8).int (d - 1) = validV (nth (row BA (0 : Int)) 0).int (nth (row BA (0 : Int)) 1).int (nth (row BA (0 : Int)) 2).bool (nth (row BA (0 : Int)) 3).bool (nth (row BA (0 : Int)) 4).list (nth (row BA (0 : Int)) 5).list (nth (row BA (0 : Int)) 6).list (nth (row BA (0 : Int)) 7).list (nth (row BA (0 : Int)) 8).int (d - 1) from rfl, show impl_Type_size_rv 5 s sg bg NA NU ME BA ct = isizeV 5 s BA ct from rfl, bif_ft]
  have e1 : (k == 1) = false := by simpa using k1
  have e2 : (k == 2) = false := by simpa using k2
  have e3 : (k == 3) = false := by simpa using k3
  have e4 : (k == 4) = false := by simpa using k4
  have e5 : (k == 5) = false := by simpa using k5
  have e6 : (k == 6) = false := by simpa using k6
  have ho : impl_Type_only_v k s sg bg NA NU ME BA ct = (k, 0, false, false, [], [], [], [], 0) := by
    unfold impl_Type_only_v
    simp only [e1, e2, e3, e4, e5, e6, cond_false]
  have hn : validV k s sg bg NA NU ME BA ct d = false := by
    unfold validV
    cases hk : okV k s sg bg NA NU ME BA ct with
    | false => rfl
    | true => have := okV_kind hk; omega
  rw [ho, hn]
  simp only [e1, e2, e3, e4, e5, e6, hsame _ _ _ _ _ _ _ _ _ z4 z5 z6 z7, cond_false, Bool.true_and, bif_same, and_self]
theorem impl_Type_valid_nxr (k s : Int) (sg bg : Bool) (NA NU ME BA : List (List TC)) (ct d : Int) : impl_Type_valid_rc (i_impl_Type_valid := ⟨impl_Type_valid_O.n + 1⟩) k s sg bg NA NU ME BA ct d = true → (impl_Type_valid_c k s sg bg NA NU ME BA ct d) = true ∧ (impl_Type_valid_v k s sg bg NA NU ME BA ct d) = (impl_Type_valid_rv k s sg bg NA NU ME BA ct d) := fun h => impl_Type_valid_nx k s sg bg NA NU ME BA ct d h
theorem impl_Type_valid_rs : ∀ xs r, impl_Type_valid_rS (i_impl_Type_valid := ⟨impl_Type_valid_O.n + 1⟩) xs = some (true, r) → runF tab FT D52 live 80 noLoops xs = some r := by
  intro xs r h
  unfold impl_Type_valid_rS at h
  split at h
  · simp only [Option.some.injEq, Prod.mk.injEq] at h
    obtain ⟨h1, rfl⟩ := h
    have hx := impl_Type_valid_nxr _ _ _ _ _ _ _ _ _ _ h1
    have ht := fun_told (impl_Type_valid_e _ _ _ _ _ _ _ _ _ _) (impl_Type_valid_l _ _ _ _ _ _ _ _ _ _) hx.1
    rw [hx.2] at ht
    exact ht
  · cases h
theorem impl_Type_valid_step : impl_Type_valid_G (i_impl_Type_valid := ⟨impl_Type_valid_O.n + 1⟩) := by
  have h := DOk.also2 (S := impl_Type_valid_rS (i_impl_Type_valid := ⟨impl_Type_valid_O.n + 1⟩)) mixed_ok tab_ok names_ok d44 d52 noLoops_ok impl_Type_valid_rs
  refine impl_Type_valid_G.mk (i_impl_Type_valid := ⟨impl_Type_valid_O.n + 1⟩) ?_
  exact h
/-! impl_ValidType -/
noncomputable def impl_ValidType_t (k s : Int) (sg bg : Bool) (NA NU ME BA : List (List TC)) (ct : Int) : Tr (Bool) := (.ite ((impl_Type_valid_rc k s sg bg NA NU ME BA ct (3 : Int)) = true) (.ok (impl_Type_valid_rv k s sg bg NA NU ME BA ct (3 : Int)))
  .no)
def impl_ValidType_mk (p : Bool) : Res := [(false, [⟨.bool, .sh, TC.b p⟩])]
noncomputable def impl_ValidType_c (k s : Int) (sg bg : Bool) (NA NU ME BA : List (List TC)) (ct : Int) : Bool := ((impl_Type_valid_rc k s sg bg NA NU ME BA ct (3 : Int)) && true)
noncomputable def impl_ValidType_v (k s : Int) (sg bg : Bool) (NA NU ME BA : List (List TC)) (ct : Int) : Bool := (impl_Type_valid_rv k s sg bg NA NU ME BA ct (3 : Int))
theorem impl_ValidType_l (k s : Int) (sg bg : Bool) (NA NU ME BA : List (List TC)) (ct : Int) : (impl_ValidType_c k s sg bg NA NU ME BA ct) = true → (impl_ValidType_t k s sg bg NA NU ME BA ct).val = some (impl_ValidType_v k s sg bg NA NU ME BA ct) := by
  unfold impl_ValidType_t impl_ValidType_v impl_ValidType_c
  exact fun h => (Tr.gb h fun h => rfl)
noncomputable def impl_ValidType_S : List Arg → Option (Bool × Res) := fun xs => match xs with
  | [(true, [(.int .i64, TC.i k), (.int .i64, TC.i s), (.bool, TC.b sg), (.bool, TC.b bg), (.slice 9, TC.l NA), (.slice 2, TC.l NU), (.slice 77, TC.l ME), (.slice 32, TC.l BA), (.int .i64, TC.i ct)])] => some ((impl_ValidType_c k s sg bg NA NU ME BA ct), impl_ValidType_mk (impl_ValidType_v k s sg bg NA NU ME BA ct))
  | _ => .none
theorem impl_ValidType_e (k s : Int) (sg bg : Bool) (NA NU ME BA : List (List TC)) (ct : Int) : runF tab FT D52 live 39 noLoops [(true, [(.int .i64, TC.i k), (.int .i64, TC.i s), (.bool, TC.b sg), (.bool, TC.b bg), (.slice 9, TC.l NA), (.slice 2, TC.l NU), (.slice 77, TC.l ME), (.slice 32, TC.l BA), (.int .i64, TC.i ct)])] = (impl_ValidType_t k s sg bg NA NU ME BA ct).run fun p => some (impl_ValidType_mk p) := by kernel_rfl
theorem impl_ValidType_s : ∀ xs r, impl_ValidType_S xs = some (true, r) → runF tab FT D52 live 39 noLoops xs = some r := by
  intro xs r h
  unfold impl_ValidType_S at h
  split at h
  · simp only [Option.some.injEq, Prod.mk.injEq] at h
    obtain ⟨h1, rfl⟩ := h
    exact fun_told (impl_ValidType_e _ _ _ _ _ _ _ _ _) (impl_ValidType_l _ _ _ _ _ _ _ _ _) h1
  · cases h
noncomputable def D53 : Dt := also D52 39 impl_ValidType_S
theorem d53 : DOk Go.Proofs.Try.prog tab D53 := d52.also mixed_ok tab_ok names_ok noLoops_ok impl_ValidType_s
theorem impl_ValidType_cc {k : Int} {s : Int} {sg : Bool} {bg : Bool} {NA : List (List TC)} {NU : List (List TC)} {ME : List (List TC)} {BA : List (List TC)} {ct : Int} (h : impl_Type_valid_rc k s sg bg NA NU ME BA ct 3 = true) : (impl_ValidType_c k s sg bg NA NU ME BA ct) = true := by
  unfold impl_ValidType_c
  refine andT (by exact h) ?_
  rfl
theorem impl_ValidType_vv (k s : Int) (sg bg : Bool) (NA NU ME BA : List (List TC)) (ct : Int) : impl_ValidType_v k s sg bg NA NU ME BA ct = okV k s sg bg NA NU ME BA ct := by
  show (okV k s sg bg NA NU ME BA ct && decide (depthV k ME BA ≤ 3)) = _
  cases h : okV k s sg bg NA NU ME BA ct with
  | false => rfl
  | true => rw [decide_eq_true (okV_top h).2]; rfl
/-! impl_Type_hasElement -/
noncomputable def impl_Type_hasElement_t (k s : Int) (sg bg : Bool) (NA NU ME BA : List (List TC)) (ct n : Int) : Tr (Bool) := (.ite ((k == (1 : Int)) = true) (.ite ((impl_Type_intRange_c k s sg bg NA NU ME BA ct) = true) (.ok (impl_within_v n ((impl_Type_intRange_v k s sg bg NA NU ME BA ct).1) ((impl_Type_intRange_v k s sg bg NA NU ME BA ct).2)))
   .no)
  (.ite ((k == (3 : Int)) = true) (.ite ((slices_Contains_int64_int64_c NU n) = true) (.ok (slices_Contains_int64_int64_v NU n))
    .no)
   (.ite ((k == (6 : Int)) = true) (.ok (impl_within_v n (0 : Int) (65535 : Int)))
    (.ok false))))
def impl_Type_hasElement_mk (p : Bool) : Res := [(false, [⟨.bool, .sh, TC.b p⟩])]
noncomputable def impl_Type_hasElement_c (k s : Int) (sg bg : Bool) (NA NU ME BA : List (List TC)) (ct n : Int) : Bool := (bif (k == (1 : Int)) then ((impl_Type_intRange_c k s sg bg NA NU ME BA ct) && true) else (bif (k == (3 : Int)) then ((slices_Contains_int64_int64_c NU n) && true) else (bif (k == (6 : Int)) then true else true)))
noncomputable def impl_Type_hasElement_v (k s : Int) (sg bg : Bool) (NA NU ME BA : List (List TC)) (ct n : Int) : Bool := (bif (k == (1 : Int)) then (impl_within_v n ((impl_Type_intRange_v k s sg bg NA NU ME BA ct).1) ((impl_Type_intRange_v k s sg bg NA NU ME BA ct).2)) else (bif (k == (3 : Int)) then (slices_Contains_int64_int64_v NU n) else (bif (k == (6 : Int)) then (impl_within_v n (0 : Int) (65535 : Int)) else false)))
theorem impl_Type_hasElement_l (k s : Int) (sg bg : Bool) (NA NU ME BA : List (List TC)) (ct n : Int) : (impl_Type_hasElement_c k s sg bg NA NU ME BA ct n) = true → (impl_Type_hasElement_t k s sg bg NA NU ME BA ct n).val = some (impl_Type_hasElement_v k s sg bg NA NU ME BA ct n) := by
  unfold impl_Type_hasElement_t impl_Type_hasElement_v impl_Type_hasElement_c
  exact fun h => (Tr.ss h (fun h => (Tr.gb h fun h => rfl)) (fun h => (Tr.ss h (fun h => (Tr.gb h fun h => rfl)) (fun h => (Tr.ss h (fun h => rfl) (fun h => rfl))))))
noncomputable def impl_Type_hasElement_S : List Arg → Option (Bool × Res) := fun xs => match xs with
  | [(true, [(.int .i64, TC.i k), (.int .i64, TC.i s), (.bool, TC.b sg), (.bool, TC.b bg), (.slice 9, TC.l NA), (.slice 2, TC.l NU), (.slice 77, TC.l ME), (.slice 32, TC.l BA), (.int .i64, TC.i ct)]), (false, [(.int .i64, TC.i n)])] => some ((impl_Type_hasElement_c k s sg bg NA NU ME BA ct n), impl_Type_hasElement_mk (impl_Type_hasElement_v k s sg bg NA NU ME BA ct n))
  | _ => .none
theorem impl_Type_hasElement_e (k s : Int) (sg bg : Bool) (NA NU ME BA : List (List TC)) (ct n : Int) : runF tab FT D53 live 58 noLoops [(true, [(.int .i64, TC.i k), (.int .i64, TC.i s), (.bool, TC.b sg), (.bool, TC.b bg), (.slice 9, TC.l NA), (.slice 2, TC.l NU), (.slice 77, TC.l ME), (.slice 32, TC.l BA), (.int .i64, TC.i ct)]), (false, [(.int .i64, TC.i n)])] = (impl_Type_hasElement_t k s sg bg NA NU ME BA ct n).run fun p => some (impl_Type_hasElement_mk p) := by kernel_rfl
theorem impl_Type_hasElement_s : ∀ xs r, impl_Type_hasElement_S xs = some (true, r) → runF tab FT D53 live 58 noLoops xs = some r := by
  intro xs r h
  unfold impl_Type_hasElement_S at h
  split at h
  · simp only [Option.some.injEq, Prod.mk.injEq] at h
    obtain ⟨h1, rfl⟩ := h
    exact fun_told (impl_Type_hasElement_e _ _ _ _ _ _ _ _ _ _) (impl_Type_hasElement_l _ _ _ _ _ _ _ _ _ _) h1
  · cases h
noncomputable def D54 : Dt := also D53 58 impl_Type_hasElement_S
theorem d54 : DOk Go.Proofs.Try.prog tab D54 := d53.also mixed_ok tab_ok names_ok noLoops_ok impl_Type_hasElement_s
theorem el_ok {k s : Int} {sg bg : Bool} {NA NU ME BA : List (List TC)} {ct : Int} (h : okV k s sg bg NA NU ME BA ct = true) (n : Int) : impl_Type_hasElement_c k s sg bg NA NU ME BA ct n = true ∧ impl_Type_hasElement_v k s sg bg NA NU ME BA ct n = elemV k s sg NU n := by
  rcases okV_kind h with rfl | rfl | rfl | rfl | rfl | rfl
  · obtain ⟨q1, q2, q3⟩ := irange (k := 1) (okV_int h)
    refine ⟨?_, ?_⟩
    · show (impl_Type_intRange_c 1 s sg bg NA NU ME BA ct && true) = true
      rw [q1]; rfl
    · show impl_within_v n (impl_Type_intRange_v 1 s sg bg NA NU ME BA ct).1 (impl_Type_intRange_v 1 s sg bg NA NU ME BA ct).2 = inI n (loV s sg) (hiV s sg)
      rw [q2, q3]; rfl
  · exact ⟨rfl, rfl⟩
  · obtain ⟨e1, e2, -⟩ := okV_enum h
    refine ⟨?_, ?_⟩
    · show (slices_Index_int64_int64_c NU n && true) = true
      rw [slices_Index_int64_int64_cc (by omega)]; rfl
    · have e : (fun x : List TC => !(n == (nth x 0).int)) = (fun x => !((nth x 0).int == n)) := funext fun x => by rw [Bool.beq_comm]
      show decide ((bif NU.all (fun x => !(n == (nth x 0).int)) then (-1 : Int) else Int.ofNat (NU.findIdx _)) ≥ 0) = !(NU.all (fun x => !((nth x 0).int == n)))
      rw [e]
      cases NU.all (fun x => !((nth x 0).int == n)) with
      | true => rfl
      | false => exact decide_eq_true (Int.natCast_nonneg _)
  · exact ⟨rfl, rfl⟩
  · exact ⟨rfl, rfl⟩
  · exact ⟨rfl, rfl⟩
/-! impl_Type_bytes calls itself -/
section
class impl_Type_bytes_O where n : Nat
variable [i_impl_Type_bytes : impl_Type_bytes_O]
noncomputable def impl_Type_bytes_rc (k s : Int) (sg bg : Bool) (NA NU ME BA : List (List TC)) (ct n : Int) : Bool := is (rowsDep BA < impl_Type_bytes_O.n ∧ numC k s BA = true)
noncomputable def impl_Type_bytes_rv (k s : Int) (sg bg : Bool) (NA NU ME BA : List (List TC)) (ct n : Int) : List UInt8 := hid (numB k s bg BA n)
def impl_Type_bytes_rmk (p : List UInt8) : Res := [(false, [⟨.str, .sh, TC.s p⟩])]
noncomputable def impl_Type_bytes_rS : List Arg → Option (Bool × Res) := fun xs => match xs with
  | [(true, [(.int .i64, TC.i k), (.int .i64, TC.i s), (.bool, TC.b sg), (.bool, TC.b bg), (.slice 9, TC.l NA), (.slice 2, TC.l NU), (.slice 77, TC.l ME), (.slice 32, TC.l BA), (.int .i64, TC.i ct)]), (false, [(.int .i64, TC.i n)])] => some ((impl_Type_bytes_rc k s sg bg NA NU ME BA ct n), impl_Type_bytes_rmk (impl_Type_bytes_rv k s sg bg NA NU ME BA ct n))
  | _ => .none
noncomputable def D55 : Dt := also D54 59 impl_Type_bytes_rS
class impl_Type_bytes_G : Prop where ok : DOk Go.Proofs.Try.prog tab D55
variable [g_impl_Type_bytes : impl_Type_bytes_G]
theorem d55 : DOk Go.Proofs.Try.prog tab D55 := impl_Type_bytes_G.ok
/-! impl_putBytes -/
abbrev impl_putBytes_3_σ := Int × List (List TC) × Int × Int
abbrev impl_putBytes_3_ω := (List (List TC))
noncomputable def impl_putBytes_3_step (n : Int) (X : List (List TC)) (m k : Int) : Tr (impl_putBytes_3_σ ⊕ impl_putBytes_3_ω) := (.ite ((decide (k < m)) = true) (.ite (0 ≤ (IntKind.wrap .i64 ((8 : Int) * k))) (.ite ((0 : Int) ≤ k ∧ k < (X.length : Int)) (.ok (.inl (n, (X.set (k).toNat (splice (row X k) 0 [TC.i (IntKind.wrap .u8 (Int.fdiv n (2 ^ (min ((IntKind.wrap .i64 ((8 : Int) * k))).toNat 64))))])), m, (IntKind.wrap .i64 (k + (1 : Int))))))
    .no)
   .no)
  (.ok (.inr X)))
noncomputable def impl_putBytes_3_st : impl_putBytes_3_σ → Tr (impl_putBytes_3_σ ⊕ impl_putBytes_3_ω) := fun x => (impl_putBytes_3_step (x.1) (x.2.1) (x.2.2.1) (x.2.2.2))
noncomputable def impl_putBytes_o3_1 (n : Int) (X : List (List TC)) (m k : Int) : Bool := is (∃ sz : Nat, m = (sz : Int) ∧ sz ≤ 8 ∧ X = List.replicate sz [TC.i 0] ∧ k = 0)
noncomputable def impl_putBytes_u3_1 (n : Int) (X : List (List TC)) (m k : Int) : List (List TC) := bRows n m.toNat
noncomputable def impl_putBytes_3_fin (n : Int) (X : List (List TC)) (m k : Int) : Told impl_putBytes_3_ω := (.leaf (impl_putBytes_o3_1 n X m k) (impl_putBytes_u3_1 n X m k))
def impl_putBytes_3_sl (x : impl_putBytes_3_σ) : List Slot := [⟨.val false [⟨.int .i64, .sh, TC.i (x.1)⟩], ⟨0, 0⟩⟩, ⟨.val false [⟨.slice 5, .own true, TC.l (x.2.1)⟩], ⟨0, 0⟩⟩, ⟨.val false [⟨.int .i64, .sh, TC.i (x.2.2.1)⟩], ⟨0, 0⟩⟩, ⟨.val false [⟨.int .i64, .sh, TC.i (x.2.2.2)⟩], ⟨0, 0⟩⟩]
def impl_putBytes_3_out : impl_putBytes_3_ω → Ex × List Slot := (fun x => (.exit 0, [Slot.none, ⟨.val false [⟨.slice 5, .own true, TC.l x⟩], ⟨0, 0⟩⟩]))
noncomputable def impl_putBytes_lo3 : List Slot → Option (Told (Ex × List Slot)) := fun s => match s with
  | [⟨.val false [⟨.int .i64, .sh, TC.i n⟩], ⟨0, 0⟩⟩, ⟨.val false [⟨.slice 5, .own true, TC.l X⟩], ⟨0, 0⟩⟩, ⟨.val false [⟨.int .i64, .sh, TC.i m⟩], ⟨0, 0⟩⟩, ⟨.val false [⟨.int .i64, .sh, TC.i k⟩], ⟨0, 0⟩⟩] => some (((impl_putBytes_3_fin n X m k)).map impl_putBytes_3_out)
  | _ => .none
noncomputable def impl_putBytes_lo : LoopTeller := fun r s => bif Nat.beq r 3 then impl_putBytes_lo3 s else .none
theorem impl_putBytes_3_r (n : Int) (X : List (List TC)) (m k : Int) (fuel : Nat) : rounds (rnd tab FT D55 live 95 impl_putBytes_lo 0 3) leave (fuel + 1) (impl_putBytes_3_sl (n, X, m, k)) = ((impl_putBytes_3_step n X m k)).run (goOn (fun s => rounds (rnd tab FT D55 live 95 impl_putBytes_lo 0 3) leave fuel (impl_putBytes_3_sl s)) fun w => some (impl_putBytes_3_out w)) := by kernel_rfl
theorem impl_putBytes_3_h (n : Int) (X : List (List TC)) (m k : Int) (ow : impl_putBytes_3_ω) : ((impl_putBytes_3_fin n X m k)).val = some ow → ∃ fuel, loopN impl_putBytes_3_st fuel (n, X, m, k) = some ow := by
  intro h
  refine auto_leaf (R := bRows n m.toNat) (fun ho => ?_) h
  obtain ⟨sz, rfl, h8, rfl, rfl⟩ := is_iff.1 ho
  rw [wr_zero (n := n)]
  refine ⟨sz + 1, loopN_run (step := impl_putBytes_3_st) (N := sz) (fun j => (n, (wr sz (bAt n) (fun _ => [TC.i 0]) (fun p => decide (p < j))), (sz : Int), (j : Int))) (fun j hj => ?_) ?_ sz 0 (by omega)⟩
  · have e := wr_step (L := sz) (p0 := j) (F := bAt n) (O := fun _ => [TC.i 0]) (vis := fun p => decide (p < j)) (vis' := fun p => decide (p < j + 1)) hj (fun _ => rfl) (fun _ => rfl) (fun p _ => by
      rw [Bool.eq_iff_iff]; simp only [Bool.or_eq_true, decide_eq_true_eq, beq_iff_eq]; omega)
    show (impl_putBytes_3_step n (wr sz (bAt n) (fun _ => [TC.i 0]) (fun p => decide (p < j))) (sz : Int) (j : Int)).val = _
    unfold impl_putBytes_3_step
    rw [bAt_i64 (by omega)]
    refine Tr.t (by simp; omega) ?_
    refine Tr.t (by rw [wrap64 (by omega) (by omega)]; omega) ?_
    refine Tr.t ⟨by omega, by rw [wr_len]; omega⟩ ?_
    rw [Tr.val_ok, wrap64 (i := (j : Int) + 1) (by omega) (by omega)]
    show some (Sum.inl (n, (wr sz (bAt n) (fun _ => [TC.i 0]) (fun p => decide (p < j))).set j (splice ((wr sz (bAt n) (fun _ => [TC.i 0]) (fun p => decide (p < j))).getD j []) 0 (bAt n j)), (sz : Int), ((j + 1 : Nat) : Int))) = _
    rw [e]
  · show (impl_putBytes_3_step n (wr sz (bAt n) (fun _ => [TC.i 0]) (fun p => decide (p < sz))) (sz : Int) (sz : Int)).val = _
    refine Tr.n (by simp) ?_
    rw [wr_bRows]
    rfl
theorem impl_putBytes_is3 : LoopIs tab FT D55 live 95 impl_putBytes_lo 0 3 := by
  refine loop_told (sl := impl_putBytes_3_sl) (step := impl_putBytes_3_st) (out := impl_putBytes_3_out) (lor := impl_putBytes_lo3) (fin := fun x => (impl_putBytes_3_fin (x.1) (x.2.1) (x.2.2.1) (x.2.2.2))) (fun _ => rfl) ?_ (fun x n => impl_putBytes_3_r x.1 x.2.1 x.2.2.1 x.2.2.2 n) (fun x ow => impl_putBytes_3_h x.1 x.2.1 x.2.2.1 x.2.2.2 ow)
  intro s t h
  unfold impl_putBytes_lo3 at h
  split at h
  · cases h; exact ⟨(_, _, _, _), rfl, rfl⟩
  · cases h
noncomputable def impl_putBytes_t (n size : Int) : Tr (List UInt8) := (.ite (0 ≤ size ∧ size ≤ size ∧ size * 1 ≤ 140737488355328 ∧ size ≤ 140737488355328) (.ite ((impl_putBytes_o3_1 n (List.replicate (size).toNat [TC.i (0 : Int)]) ((List.replicate (size).toNat [TC.i (0 : Int)]).length : Int) (0 : Int)) = true) (.ok ((impl_putBytes_u3_1 n (List.replicate (size).toNat [TC.i (0 : Int)]) ((List.replicate (size).toNat [TC.i (0 : Int)]).length : Int) (0 : Int)).map byteOf))
   .no)
  .no)
def impl_putBytes_mk (p : List UInt8) : Res := [(false, [⟨.str, .sh, TC.s p⟩])]
noncomputable def impl_putBytes_c (n size : Int) : Bool := is (∃ sz : Nat, size = (sz : Int) ∧ sz ≤ 8)
noncomputable def impl_putBytes_v (n size : Int) : List UInt8 := hid (bytesL n size.toNat)
theorem impl_putBytes_l (n size : Int) : (impl_putBytes_c n size) = true → (impl_putBytes_t n size).val = some (impl_putBytes_v n size) := by
  intro h
  obtain ⟨sz, rfl, h8⟩ := is_iff.1 h
  unfold impl_putBytes_t
  refine Tr.t (by omega) ?_
  refine Tr.t (is_true ⟨sz, by simp, h8, rfl, rfl⟩) ?_
  unfold impl_putBytes_v
  rw [hid_eq]; simp; rfl
noncomputable def impl_putBytes_S : List Arg → Option (Bool × Res) := fun xs => match xs with
  | [(false, [(.int .i64, TC.i n)]), (false, [(.int .i64, TC.i size)])] => some ((impl_putBytes_c n size), impl_putBytes_mk (impl_putBytes_v n size))
  | _ => .none
theorem impl_putBytes_e (n size : Int) : runF tab FT D55 live 95 impl_putBytes_lo [(false, [(.int .i64, TC.i n)]), (false, [(.int .i64, TC.i size)])] = (impl_putBytes_t n size).run fun p => some (impl_putBytes_mk p) := by kernel_rfl
theorem impl_putBytes_s : ∀ xs r, impl_putBytes_S xs = some (true, r) → runF tab FT D55 live 95 impl_putBytes_lo xs = some r := by
  intro xs r h
  unfold impl_putBytes_S at h
  split at h
  · simp only [Option.some.injEq, Prod.mk.injEq] at h
    obtain ⟨h1, rfl⟩ := h
    exact fun_told (impl_putBytes_e _ _) (impl_putBytes_l _ _) h1
  · cases h
noncomputable def D56 : Dt := also D55 95 impl_putBytes_S
theorem d56 : DOk Go.Proofs.Try.prog tab D56 := d55.also mixed_ok tab_ok names_ok (fnLoops_one (by kernel_rfl) impl_putBytes_is3) impl_putBytes_s
theorem impl_putBytes_h {n size : Int} : impl_putBytes_v n size = bytesL n size.toNat := hid_eq _
theorem impl_putBytes_len {n : Int} {sz : Nat} : (impl_putBytes_v n (sz : Int)).length = sz := by rw [impl_putBytes_h]; exact bytesL_len
/-! slices_Reverse_byte_byte -/
abbrev slices_Reverse_byte_byte_1_σ := Int × Int × List (List TC)
abbrev slices_Reverse_byte_byte_1_ω := (List (List TC))
noncomputable def slices_Reverse_byte_byte_1_step (i j : Int) (A : List (List TC)) : Tr (slices_Reverse_byte_byte_1_σ ⊕ slices_Reverse_byte_byte_1_ω) := (.ite ((decide (i < j)) = true) (.ite ((0 : Int) ≤ j ∧ j < (A.length : Int)) (.ite ((0 : Int) ≤ i ∧ i < (A.length : Int)) (.ite ((0 : Int) ≤ i ∧ i < (A.length : Int)) (.ite ((0 : Int) ≤ j ∧ j < ((A.set (i).toNat (splice (row A i) 0 [TC.i ((nth (row A j) 0).int)])).length : Int)) (.ok (.inl ((IntKind.wrap .i64 (i + (1 : Int))), (IntKind.wrap .i64 (j - (1 : Int))), ((A.set (i).toNat (splice (row A i) 0 [TC.i ((nth (row A j) 0).int)])).set (j).toNat (splice (row (A.set (i).toNat (splice (row A i) 0 [TC.i ((nth (row A j) 0).int)])) j) 0 [TC.i ((nth (row A i) 0).int)])))))
      .no)
     .no)
    .no)
   .no)
  (.ok (.inr A)))
noncomputable def slices_Reverse_byte_byte_1_st : slices_Reverse_byte_byte_1_σ → Tr (slices_Reverse_byte_byte_1_σ ⊕ slices_Reverse_byte_byte_1_ω) := fun x => (slices_Reverse_byte_byte_1_step (x.1) (x.2.1) (x.2.2))
noncomputable def slices_Reverse_byte_byte_o1_1 (i j : Int) (A : List (List TC)) : Bool := is ((∀ x, x ∈ A → ∃ n, x = [TC.i n]) ∧ A.length ≤ 1000 ∧ i = 0 ∧ j = (A.length : Int) - 1)
noncomputable def slices_Reverse_byte_byte_u1_1 (i j : Int) (A : List (List TC)) : List (List TC) := A.reverse
noncomputable def slices_Reverse_byte_byte_1_fin (i j : Int) (A : List (List TC)) : Told slices_Reverse_byte_byte_1_ω := (.leaf (slices_Reverse_byte_byte_o1_1 i j A) (slices_Reverse_byte_byte_u1_1 i j A))
def slices_Reverse_byte_byte_1_sl (x : slices_Reverse_byte_byte_1_σ) : List Slot := [⟨.gal false 0 1, ⟨0, 0⟩⟩, ⟨.val false [⟨.int .i64, .sh, TC.i (x.1)⟩], ⟨0, 0⟩⟩, ⟨.val false [⟨.int .i64, .sh, TC.i (x.2.1)⟩], ⟨0, 0⟩⟩, ⟨.gv [⟨.slice 5, .own true, TC.l (x.2.2)⟩], ⟨0, 0⟩⟩]
def slices_Reverse_byte_byte_1_out : slices_Reverse_byte_byte_1_ω → Ex × List Slot := (fun x => (.exit 0, [⟨.gv [⟨.slice 5, .own true, TC.l x⟩], ⟨0, 0⟩⟩]))
noncomputable def slices_Reverse_byte_byte_lo1 : List Slot → Option (Told (Ex × List Slot)) := fun s => match s with
  | [⟨.gal false 0 1, ⟨0, 0⟩⟩, ⟨.val false [⟨.int .i64, .sh, TC.i i⟩], ⟨0, 0⟩⟩, ⟨.val false [⟨.int .i64, .sh, TC.i j⟩], ⟨0, 0⟩⟩, ⟨.gv [⟨.slice 5, .own true, TC.l A⟩], ⟨0, 0⟩⟩] => some (((slices_Reverse_byte_byte_1_fin i j A)).map slices_Reverse_byte_byte_1_out)
  | _ => .none
noncomputable def slices_Reverse_byte_byte_lo : LoopTeller := fun r s => bif Nat.beq r 1 then slices_Reverse_byte_byte_lo1 s else .none
theorem slices_Reverse_byte_byte_1_r (i j : Int) (A : List (List TC)) (fuel : Nat) : rounds (rnd tab FT D56 live 123 slices_Reverse_byte_byte_lo 0 1) leave (fuel + 1) (slices_Reverse_byte_byte_1_sl (i, j, A)) = ((slices_Reverse_byte_byte_1_step i j A)).run (goOn (fun s => rounds (rnd tab FT D56 live 123 slices_Reverse_byte_byte_lo 0 1) leave fuel (slices_Reverse_byte_byte_1_sl s)) fun w => some (slices_Reverse_byte_byte_1_out w)) := by kernel_rfl
theorem slices_Reverse_byte_byte_1_h (i j : Int) (A : List (List TC)) (ow : slices_Reverse_byte_byte_1_ω) : ((slices_Reverse_byte_byte_1_fin i j A)).val = some ow → ∃ fuel, loopN slices_Reverse_byte_byte_1_st fuel (i, j, A) = some ow := by
  intro h
  refine auto_leaf (R := A.reverse) (fun ho => ?_) h
  obtain ⟨ht, hl, rfl, rfl⟩ := is_iff.1 ho
  have key := loopN_run (step := slices_Reverse_byte_byte_1_st) (N := A.length / 2) (fun m => ((m : Int), (A.length : Int) - 1 - (m : Int), revS A m)) (w := A.reverse) (fun m hm => ?_) ?_ (A.length / 2) 0 (by omega)
  · refine ⟨_, Eq.trans (congrArg (loopN slices_Reverse_byte_byte_1_st _) ?_) key⟩
    show (_, _, _) = (_, _, revS A 0)
    rw [revS_zero]
    simp
  · have h1 : A.length - 1 - m < A.length := by omega
    have hi : (A.length : Int) - 1 - (m : Int) = ((A.length - 1 - m : Nat) : Int) := by omega
    have hs := revS_len (A := A) (m := m)
    have q1 : revI A.length m m = m := by
      unfold revI
      rw [decide_eq_false (by omega), decide_eq_false (by omega)]; rfl
    have q2 : revI A.length m (A.length - 1 - m) = A.length - 1 - m := by
      unfold revI
      rw [decide_eq_false (by omega), decide_eq_false (by omega)]; rfl
    show (slices_Reverse_byte_byte_1_step (m : Int) ((A.length : Int) - 1 - (m : Int)) (revS A m)).val = _
    rw [hi]
    unfold slices_Reverse_byte_byte_1_step
    have hrow : row ((revS A m).set m (row A ((A.length - 1 - m : Nat) : Int))) ((A.length - 1 - m : Nat) : Int) = row A ((A.length - 1 - m : Nat) : Int) := by
      show ((revS A m).set m _).getD (((A.length - 1 - m : Nat) : Int)).toNat [] = _
      rw [Int.toNat_natCast, getD_at (by rw [List.length_set, hs]; exact h1), List.getElem_set, if_neg (by omega)]
      have := revS_row (A := A) (m := m) h1
      rw [q2] at this
      unfold row at this
      rw [Int.toNat_natCast, getD_at (by rw [hs]; exact h1)] at this
      rw [this]
      unfold row
      rw [Int.toNat_natCast]
    rw [Int.toNat_natCast, Int.toNat_natCast, revS_row (A := A) (m := m) (p := m) (by omega), revS_row (A := A) (m := m) h1, q1, q2, one_row ht h1 (row_one ht (by omega)), hrow, one_row ht (show m < A.length by omega) (row_one ht h1), revS_set hm, List.length_set, hs]
    refine Tr.t (by simp; omega) (Tr.t ⟨by omega, by omega⟩ (Tr.t ⟨by omega, by omega⟩ (Tr.t ⟨by omega, by omega⟩ (Tr.t ⟨by omega, by omega⟩ ?_))))
    rw [Tr.val_ok, wrap64 (i := (m : Int) + 1) (by omega) (by omega), wrap64 (i := ((A.length - 1 - m : Nat) : Int) - 1) (by omega) (by omega)]
    show some (Sum.inl (_, _, _)) = some (Sum.inl (_, _, _))
    rw [show ((A.length - 1 - m : Nat) : Int) - 1 = (A.length : Int) - 1 - ((m + 1 : Nat) : Int) from by omega]; rfl
  · show (slices_Reverse_byte_byte_1_step ((A.length / 2 : Nat) : Int) ((A.length : Int) - 1 - ((A.length / 2 : Nat) : Int)) (revS A (A.length / 2))).val = _
    unfold slices_Reverse_byte_byte_1_step
    refine Tr.n (by first | (simp; done) | (simp; omega)) ?_
    rw [Tr.val_ok, revS_end]; first | done | rfl
theorem slices_Reverse_byte_byte_is1 : LoopIs tab FT D56 live 123 slices_Reverse_byte_byte_lo 0 1 := by
  refine loop_told (sl := slices_Reverse_byte_byte_1_sl) (step := slices_Reverse_byte_byte_1_st) (out := slices_Reverse_byte_byte_1_out) (lor := slices_Reverse_byte_byte_lo1) (fin := fun x => (slices_Reverse_byte_byte_1_fin (x.1) (x.2.1) (x.2.2))) (fun _ => rfl) ?_ (fun x n => slices_Reverse_byte_byte_1_r x.1 x.2.1 x.2.2 n) (fun x ow => slices_Reverse_byte_byte_1_h x.1 x.2.1 x.2.2 ow)
  intro s t h
  unfold slices_Reverse_byte_byte_lo1 at h
  split at h
  · cases h; exact ⟨(_, _, _), rfl, rfl⟩
  · cases h
noncomputable def slices_Reverse_byte_byte_t (A : List (List TC)) : Tr (List (List TC)) := (.ite ((slices_Reverse_byte_byte_o1_1 (0 : Int) (IntKind.wrap .i64 ((A.length : Int) - (1 : Int))) A) = true) (.ok (slices_Reverse_byte_byte_u1_1 (0 : Int) (IntKind.wrap .i64 ((A.length : Int) - (1 : Int))) A))
  .no)
def slices_Reverse_byte_byte_mk (p : List (List TC)) : Res := [(true, [⟨.slice 5, .own true, TC.l p⟩])]
noncomputable def slices_Reverse_byte_byte_c (A : List (List TC)) : Bool := is ((∀ x, x ∈ A → ∃ n, x = [TC.i n]) ∧ A.length ≤ 1000)
noncomputable def slices_Reverse_byte_byte_v (A : List (List TC)) : List (List TC) := A.reverse
theorem slices_Reverse_byte_byte_l (A : List (List TC)) : (slices_Reverse_byte_byte_c A) = true → (slices_Reverse_byte_byte_t A).val = some (slices_Reverse_byte_byte_v A) := by
  intro h
  obtain ⟨h1, hl⟩ := is_iff.1 h
  unfold slices_Reverse_byte_byte_t slices_Reverse_byte_byte_v
  refine Tr.t (is_true ⟨h1, hl, rfl, wrap64 (by omega) (by omega)⟩) ?_
  rfl
noncomputable def slices_Reverse_byte_byte_S : List Arg → Option (Bool × Res) := fun xs => match xs with
  | [(false, [(.slice 5, TC.l A)])] => some ((slices_Reverse_byte_byte_c A), slices_Reverse_byte_byte_mk (slices_Reverse_byte_byte_v A))
  | _ => .none
theorem slices_Reverse_byte_byte_e (A : List (List TC)) : runFW false tab FT D56 live 123 slices_Reverse_byte_byte_lo (false, [(.slice 5, TC.l A)]) [] = (slices_Reverse_byte_byte_t A).run fun p => some (slices_Reverse_byte_byte_mk p) := by kernel_rfl
theorem slices_Reverse_byte_byte_s0 : ∀ ys r, slices_Reverse_byte_byte_S ys = some (true, r) → ∀ a0 xs, ys = a0 :: xs → runFW false tab FT D56 live 123 slices_Reverse_byte_byte_lo a0 xs = some r := by
  intro ys r h
  unfold slices_Reverse_byte_byte_S at h
  split at h
  · simp only [Option.some.injEq, Prod.mk.injEq] at h
    obtain ⟨h1, rfl⟩ := h
    intro a0 xs e
    cases e
    exact fun_toldW (slices_Reverse_byte_byte_e _) (slices_Reverse_byte_byte_l _) h1
  · cases h
theorem slices_Reverse_byte_byte_s : ∀ a0 xs r, slices_Reverse_byte_byte_S (a0 :: xs) = some (true, r) → runFW false tab FT D56 live 123 slices_Reverse_byte_byte_lo a0 xs = some r := fun a0 xs r h => slices_Reverse_byte_byte_s0 _ r h a0 xs rfl
noncomputable def D57 : Dt := alsoW D56 123 slices_Reverse_byte_byte_S
theorem d57 : DOk Go.Proofs.Try.prog tab D57 := d56.alsoW mixed_ok tab_ok names_ok (fnLoops_one (by kernel_rfl) slices_Reverse_byte_byte_is1) slices_Reverse_byte_byte_s
/-! impl_ReverseBytes -/
noncomputable def impl_ReverseBytes_t (s : List UInt8) : Tr (List UInt8) := (.ite (s.length ≤ 140737488355328) (.ite ((slices_Reverse_byte_byte_c (bytesRow s)) = true) (.ok ((slices_Reverse_byte_byte_v (bytesRow s)).map byteOf))
   .no)
  .no)
def impl_ReverseBytes_mk (p : List UInt8) : Res := [(false, [⟨.str, .sh, TC.s p⟩])]
noncomputable def impl_ReverseBytes_c (s : List UInt8) : Bool := is (s.length ≤ 100)
noncomputable def impl_ReverseBytes_v (s : List UInt8) : List UInt8 := hid s.reverse
theorem impl_ReverseBytes_l (s : List UInt8) : (impl_ReverseBytes_c s) = true → (impl_ReverseBytes_t s).val = some (impl_ReverseBytes_v s) := by
  intro h
  have hl := is_iff.1 h
  unfold impl_ReverseBytes_t impl_ReverseBytes_v
  rw [hid_eq]
  refine Tr.t (by omega) (Tr.t (is_true ⟨bytesRow_one, by rw [bytesRow_len]; omega⟩) ?_)
  rw [Tr.val_ok]
  show some ((bytesRow s).reverse.map byteOf) = _
  rw [List.map_reverse, bytesRow_of]
noncomputable def impl_ReverseBytes_S : List Arg → Option (Bool × Res) := fun xs => match xs with
  | [(false, [(.str, TC.s s)])] => some ((impl_ReverseBytes_c s), impl_ReverseBytes_mk (impl_ReverseBytes_v s))
  | _ => .none
theorem impl_ReverseBytes_e (s : List UInt8) : runF tab FT D57 live 94 noLoops [(false, [(.str, TC.s s)])] = (impl_ReverseBytes_t s).run fun p => some (impl_ReverseBytes_mk p) := by kernel_rfl
theorem impl_ReverseBytes_s : ∀ xs r, impl_ReverseBytes_S xs = some (true, r) → runF tab FT D57 live 94 noLoops xs = some r := by
  intro xs r h
  unfold impl_ReverseBytes_S at h
  split at h
  · simp only [Option.some.injEq, Prod.mk.injEq] at h
    obtain ⟨h1, rfl⟩ := h
    exact fun_told (impl_ReverseBytes_e _) (impl_ReverseBytes_l _) h1
  · cases h
noncomputable def D58 : Dt := also D57 94 impl_ReverseBytes_S
theorem d58 : DOk Go.Proofs.Try.prog tab D58 := d57.also mixed_ok tab_ok names_ok noLoops_ok impl_ReverseBytes_s
theorem impl_ReverseBytes_h {s : List UInt8} : impl_ReverseBytes_v s = s.reverse := hid_eq _
/-! impl_Type_bytes -/
noncomputable def impl_Type_bytes_t (k s : Int) (sg bg : Bool) (NA NU ME BA : List (List TC)) (ct n : Int) : Tr (List UInt8) := (.ite ((k == (3 : Int)) = true) (.ite ((0 : Int) ≤ (0 : Int) ∧ (0 : Int) < (BA.length : Int)) (.ite ((impl_Type_bytes_rc ((nth (row BA (0 : Int)) 0).int) ((nth (row BA (0 : Int)) 1).int) ((nth (row BA (0 : Int)) 2).bool) ((nth (row BA (0 : Int)) 3).bool) ((nth (row BA (0 : Int)) 4).list) ((nth (row BA (0 : Int)) 5).list) ((nth (row BA (0 : Int)) 6).list) ((nth (row BA (0 : Int)) 7).list) ((nth (row BA (0 : Int)) 8).int) n) = true) (.ok (impl_Type_bytes_rv ((nth (row BA (0 : Int)) 0).int) ((nth (row BA (0 : Int)) 1).int) ((nth (row BA (0 : Int)) 2).bool) ((nth (row BA (0 : Int)) 3).bool) ((nth (row BA (0 : Int)) 4).list) ((nth (row BA (0 : Int)) 5).list) ((nth (row BA (0 : Int)) 6).list) ((nth (row BA (0 : Int)) 7).list) ((nth (row BA (0 : Int)) 8).int) n))
    .no)
   .no)
  (.ite (bg = true) (.ite ((impl_putBytes_c n s) = true) (.ite ((impl_ReverseBytes_c (impl_putBytes_v n s)) = true) (.ok (impl_ReverseBytes_v (impl_putBytes_v n s)))
     .no)
    .no)
   (.ite ((impl_putBytes_c n s) = true) (.ok (impl_putBytes_v n s))
    .no)))
def impl_Type_bytes_mk (p : List UInt8) : Res := [(false, [⟨.str, .sh, TC.s p⟩])]
noncomputable def impl_Type_bytes_c (k s : Int) (sg bg : Bool) (NA NU ME BA : List (List TC)) (ct n : Int) : Bool := (bif (k == (3 : Int)) then (is ((0 : Int) ≤ (0 : Int) ∧ (0 : Int) < (BA.length : Int)) && ((impl_Type_bytes_rc ((nth (row BA (0 : Int)) 0).int) ((nth (row BA (0 : Int)) 1).int) ((nth (row BA (0 : Int)) 2).bool) ((nth (row BA (0 : Int)) 3).bool) ((nth (row BA (0 : Int)) 4).list) ((nth (row BA (0 : Int)) 5).list) ((nth (row BA (0 : Int)) 6).list) ((nth (row BA (0 : Int)) 7).list) ((nth (row BA (0 : Int)) 8).int) n) && true)) else (bif bg then ((impl_putBytes_c n s) && ((impl_ReverseBytes_c (impl_putBytes_v n s)) && true)) else ((impl_putBytes_c n s) && true)))
noncomputable def impl_Type_bytes_v (k s : Int) (sg bg : Bool) (NA NU ME BA : List (List TC)) (ct n : Int) : List UInt8 := (bif (k == (3 : Int)) then (impl_Type_bytes_rv ((nth (row BA (0 : Int)) 0).int) ((nth (row BA (0 : Int)) 1).int) ((nth (row BA (0 : Int)) 2).bool) ((nth (row BA (0 : Int)) 3).bool) ((nth (row BA (0 : Int)) 4).list) ((nth (row BA (0 : Int)) 5).list) ((nth (row BA (0 : Int)) 6).list) ((nth (row BA (0 : Int)) 7).list) ((nth (row BA (0 : Int)) 8).int) n) else (bif bg then (impl_ReverseBytes_v (impl_putBytes_v n s)) else (impl_putBytes_v n s)))
theorem impl_Type_bytes_l (k s : Int) (sg bg : Bool) (NA NU ME BA : List (List TC)) (ct n : Int) : (impl_Type_bytes_c k s sg bg NA NU ME BA ct n) = true → (impl_Type_bytes_t k s sg bg NA NU ME BA ct n).val = some (impl_Type_bytes_v k s sg bg NA NU ME BA ct n) := by
  unfold impl_Type_bytes_t impl_Type_bytes_v impl_Type_bytes_c
  exact fun h => (Tr.ss h (fun h => (Tr.gs h fun h => (Tr.gb h fun h => rfl))) (fun h => (Tr.ss h (fun h => (Tr.gb h fun h => (Tr.gb h fun h => rfl))) (fun h => (Tr.gb h fun h => rfl)))))
noncomputable def impl_Type_bytes_S : List Arg → Option (Bool × Res) := fun xs => match xs with
  | [(true, [(.int .i64, TC.i k), (.int .i64, TC.i s), (.bool, TC.b sg), (.bool, TC.b bg), (.slice 9, TC.l NA), (.slice 2, TC.l NU), (.slice 77, TC.l ME), (.slice 32, TC.l BA), (.int .i64, TC.i ct)]), (false, [(.int .i64, TC.i n)])] => some ((impl_Type_bytes_c k s sg bg NA NU ME BA ct n), impl_Type_bytes_mk (impl_Type_bytes_v k s sg bg NA NU ME BA ct n))
  | _ => .none
theorem impl_Type_bytes_e (k s : Int) (sg bg : Bool) (NA NU ME BA : List (List TC)) (ct n : Int) : runF tab FT D58 live 59 noLoops [(true, [(.int .i64, TC.i k), (.int .i64, TC.i s), (.bool, TC.b sg), (.bool, TC.b bg), (.slice 9, TC.l NA), (.slice 2, TC.l NU), (.slice 77, TC.l ME), (.slice 32, TC.l BA), (.int .i64, TC.i ct)]), (false, [(.int .i64, TC.i n)])] = (impl_Type_bytes_t k s sg bg NA NU ME BA ct n).run fun p => some (impl_Type_bytes_mk p) := by kernel_rfl
theorem impl_Type_bytes_s : ∀ xs r, impl_Type_bytes_S xs = some (true, r) → runF tab FT D58 live 59 noLoops xs = some r := by
  intro xs r h
  unfold impl_Type_bytes_S at h
  split at h
  · simp only [Option.some.injEq, Prod.mk.injEq] at h
    obtain ⟨h1, rfl⟩ := h
    exact fun_told (impl_Type_bytes_e _ _ _ _ _ _ _ _ _ _) (impl_Type_bytes_l _ _ _ _ _ _ _ _ _ _) h1
  · cases h
theorem impl_Type_bytes_nx (k s : Int) (sg bg : Bool) (NA NU ME BA : List (List TC)) (ct n : Int) : is (rowsDep BA < impl_Type_bytes_O.n + 1 ∧ numC k s BA = true) = true → (impl_Type_bytes_c k s sg bg NA NU ME BA ct n) = true ∧ (impl_Type_bytes_v k s sg bg NA NU ME BA ct n) = hid (numB k s bg BA n) := by
  intro h
  obtain ⟨hM, hC⟩ := is_iff.1 h
  unfold impl_Type_bytes_c impl_Type_bytes_v
  rw [hid_eq]
  unfold numC at hC
  unfold numB
  cases h3 : (k == 3) with
  | true =>
    rw [h3] at hC
    have hC : (decide (0 < BA.length) && ((nth (row BA (0 : Int)) 0).int == 1) && szOk (nth (row BA (0 : Int)) 1).int) = true := hC
    rw [Bool.and_eq_true, Bool.and_eq_true] at hC
    obtain ⟨⟨a, b⟩, c⟩ := hC
    have hb : 0 < BA.length := of_decide_eq_true a
    have := pos_row hb 7
    have hk : ((nth (row BA (0 : Int)) 0).int == 3) = false := by rw [eq_of_beq b]; rfl
    refine ⟨andT (is_true (by constructor <;> omega)) (andT (is_true ⟨by omega, ?_⟩) rfl), ?_⟩
    · unfold numC
      rw [hk]
      exact c
    · show hid (numB _ _ _ _ _) = _
      rw [hid_eq]
      unfold numB
      rw [hk]
      rfl
  | false =>
    rw [h3] at hC
    have hC : (decide (0 ≤ s) && decide (s ≤ 8)) = true := hC
    rw [Bool.and_eq_true] at hC
    have s0 := of_decide_eq_true hC.1
    have s8 := of_decide_eq_true hC.2
    obtain ⟨m, rfl⟩ : ∃ m : Nat, s = (m : Int) := ⟨s.toNat, by omega⟩
    have hp : impl_putBytes_c n (m : Int) = true := is_true ⟨m, rfl, by omega⟩
    have hl : (bytesL n ((m : Int)).toNat).length = m := by rw [bytesL_len]; omega
    rw [hp, impl_putBytes_h]
    cases bg with
    | true =>
      have hr : impl_ReverseBytes_c (bytesL n ((m : Int)).toNat) = true := is_true (by omega)
      rw [hr, impl_ReverseBytes_h]
      exact ⟨rfl, rfl⟩
    | false => exact ⟨rfl, rfl⟩
theorem impl_Type_bytes_nxr (k s : Int) (sg bg : Bool) (NA NU ME BA : List (List TC)) (ct n : Int) : impl_Type_bytes_rc (i_impl_Type_bytes := ⟨impl_Type_bytes_O.n + 1⟩) k s sg bg NA NU ME BA ct n = true → (impl_Type_bytes_c k s sg bg NA NU ME BA ct n) = true ∧ (impl_Type_bytes_v k s sg bg NA NU ME BA ct n) = (impl_Type_bytes_rv k s sg bg NA NU ME BA ct n) := fun h => impl_Type_bytes_nx k s sg bg NA NU ME BA ct n h
theorem impl_Type_bytes_rs : ∀ xs r, impl_Type_bytes_rS (i_impl_Type_bytes := ⟨impl_Type_bytes_O.n + 1⟩) xs = some (true, r) → runF tab FT D58 live 59 noLoops xs = some r := by
  intro xs r h
  unfold impl_Type_bytes_rS at h
  split at h
  · simp only [Option.some.injEq, Prod.mk.injEq] at h
    obtain ⟨h1, rfl⟩ := h
    have hx := impl_Type_bytes_nxr _ _ _ _ _ _ _ _ _ _ h1
    have ht := fun_told (impl_Type_bytes_e _ _ _ _ _ _ _ _ _ _) (impl_Type_bytes_l _ _ _ _ _ _ _ _ _ _) hx.1
    rw [hx.2] at ht
    exact ht
  · cases h
theorem impl_Type_bytes_step : impl_Type_bytes_G (i_impl_Type_bytes := ⟨impl_Type_bytes_O.n + 1⟩) := by
  have h := DOk.also2 (S := impl_Type_bytes_rS (i_impl_Type_bytes := ⟨impl_Type_bytes_O.n + 1⟩)) mixed_ok tab_ok names_ok d54 d58 noLoops_ok impl_Type_bytes_rs
  refine impl_Type_bytes_G.mk (i_impl_Type_bytes := ⟨impl_Type_bytes_O.n + 1⟩) ?_
  exact h
/-! impl_BytesOf -/
noncomputable def impl_BytesOf_t (k s : Int) (sg bg : Bool) (NA NU ME BA : List (List TC)) (ct n : Int) : Tr (List UInt8 × Bool) := (.ite ((impl_ValidType_c k s sg bg NA NU ME BA ct) = true) (.ite ((!(impl_ValidType_v k s sg bg NA NU ME BA ct)) = true) (.ok ([], false))
   (.ite ((impl_Type_hasElement_c k s sg bg NA NU ME BA ct n) = true) (.ite ((!(impl_Type_hasElement_v k s sg bg NA NU ME BA ct n)) = true) (.ok ([], false))
     (.ite ((impl_Type_bytes_rc k s sg bg NA NU ME BA ct n) = true) (.ok ((impl_Type_bytes_rv k s sg bg NA NU ME BA ct n), true))
      .no))
    .no))
  .no)
def impl_BytesOf_mk (p : List UInt8 × Bool) : Res := [(false, [⟨.str, .sh, TC.s (p.1)⟩]), (false, [⟨.bool, .sh, TC.b (p.2)⟩])]
noncomputable def impl_BytesOf_c (k s : Int) (sg bg : Bool) (NA NU ME BA : List (List TC)) (ct n : Int) : Bool := ((impl_ValidType_c k s sg bg NA NU ME BA ct) && (bif (!(impl_ValidType_v k s sg bg NA NU ME BA ct)) then true else ((impl_Type_hasElement_c k s sg bg NA NU ME BA ct n) && (bif (!(impl_Type_hasElement_v k s sg bg NA NU ME BA ct n)) then true else ((impl_Type_bytes_rc k s sg bg NA NU ME BA ct n) && true)))))
noncomputable def impl_BytesOf_v (k s : Int) (sg bg : Bool) (NA NU ME BA : List (List TC)) (ct n : Int) : List UInt8 × Bool := (bif (!(impl_ValidType_v k s sg bg NA NU ME BA ct)) then ([], false) else (bif (!(impl_Type_hasElement_v k s sg bg NA NU ME BA ct n)) then ([], false) else ((impl_Type_bytes_rv k s sg bg NA NU ME BA ct n), true)))
theorem impl_BytesOf_l (k s : Int) (sg bg : Bool) (NA NU ME BA : List (List TC)) (ct n : Int) : (impl_BytesOf_c k s sg bg NA NU ME BA ct n) = true → (impl_BytesOf_t k s sg bg NA NU ME BA ct n).val = some (impl_BytesOf_v k s sg bg NA NU ME BA ct n) := by
  unfold impl_BytesOf_t impl_BytesOf_v impl_BytesOf_c
  exact fun h => (Tr.gb h fun h => (Tr.ss h (fun h => rfl) (fun h => (Tr.gb h fun h => (Tr.ss h (fun h => rfl) (fun h => (Tr.gb h fun h => rfl)))))))
noncomputable def impl_BytesOf_S : List Arg → Option (Bool × Res) := fun xs => match xs with
  | [(true, [(.int .i64, TC.i k), (.int .i64, TC.i s), (.bool, TC.b sg), (.bool, TC.b bg), (.slice 9, TC.l NA), (.slice 2, TC.l NU), (.slice 77, TC.l ME), (.slice 32, TC.l BA), (.int .i64, TC.i ct)]), (false, [(.int .i64, TC.i n)])] => some ((impl_BytesOf_c k s sg bg NA NU ME BA ct n), impl_BytesOf_mk (impl_BytesOf_v k s sg bg NA NU ME BA ct n))
  | _ => .none
theorem impl_BytesOf_e (k s : Int) (sg bg : Bool) (NA NU ME BA : List (List TC)) (ct n : Int) : runF tab FT D58 live 20 noLoops [(true, [(.int .i64, TC.i k), (.int .i64, TC.i s), (.bool, TC.b sg), (.bool, TC.b bg), (.slice 9, TC.l NA), (.slice 2, TC.l NU), (.slice 77, TC.l ME), (.slice 32, TC.l BA), (.int .i64, TC.i ct)]), (false, [(.int .i64, TC.i n)])] = (impl_BytesOf_t k s sg bg NA NU ME BA ct n).run fun p => some (impl_BytesOf_mk p) := by kernel_rfl
theorem impl_BytesOf_s : ∀ xs r, impl_BytesOf_S xs = some (true, r) → runF tab FT D58 live 20 noLoops xs = some r := by
  intro xs r h
  unfold impl_BytesOf_S at h
  split at h
  · simp only [Option.some.injEq, Prod.mk.injEq] at h
    obtain ⟨h1, rfl⟩ := h
    exact fun_told (impl_BytesOf_e _ _ _ _ _ _ _ _ _ _) (impl_BytesOf_l _ _ _ _ _ _ _ _ _ _) h1
  · cases h
noncomputable def D59 : Dt := also D58 20 impl_BytesOf_S
theorem d59 : DOk Go.Proofs.Try.prog tab D59 := d58.also mixed_ok tab_ok names_ok noLoops_ok impl_BytesOf_s
theorem impl_BytesOf_cc {k s : Int} {sg bg : Bool} {NA NU ME BA : List (List TC)} {ct : Int} {n : Int} (vac : impl_Type_valid_rc k s sg bg NA NU ME BA ct 3 = true) (byc : ∀ n, okV k s sg bg NA NU ME BA ct = true → numK k = true → impl_Type_bytes_rc k s sg bg NA NU ME BA ct n = true) : impl_BytesOf_c k s sg bg NA NU ME BA ct n = true := by
  unfold impl_BytesOf_c
  rw [impl_ValidType_cc vac, impl_ValidType_vv]
  cases h : okV k s sg bg NA NU ME BA ct with
  | false => rfl
  | true =>
    obtain ⟨a, b⟩ := el_ok h n
    rw [a, b]
    cases he : elemV k s sg NU n with
    | false => rfl
    | true => rw [byc n h (elem_num he)]; rfl
theorem impl_BytesOf_vv (k s : Int) (sg bg : Bool) (NA NU ME BA : List (List TC)) (ct n : Int) : impl_BytesOf_v k s sg bg NA NU ME BA ct n = bytesV k s sg bg NA NU ME BA ct n := by
  unfold impl_BytesOf_v bytesV
  rw [impl_ValidType_vv]
  cases h : okV k s sg bg NA NU ME BA ct with
  | false => rfl
  | true =>
    rw [(el_ok h n).2, show impl_Type_bytes_rv k s sg bg NA NU ME BA ct n = numB k s bg BA n from hid_eq _]
    cases elemV k s sg NU n <;> rfl
/-! laws_eqStringS -/
abbrev laws_eqStringS_4_σ := List (List TC) × List (List TC) × Int
abbrev laws_eqStringS_4_ω := (Unit) ⊕ (Unit)
noncomputable def laws_eqStringS_4_step (A C : List (List TC)) (i : Int) : Tr (laws_eqStringS_4_σ ⊕ laws_eqStringS_4_ω) := (.ite ((decide (i < (A.length : Int))) = true) (.ite ((0 : Int) ≤ i ∧ i < (A.length : Int)) (.ite ((0 : Int) ≤ i ∧ i < (C.length : Int)) (.ite ((!((nth (row A i) 0).str == (nth (row C i) 0).str)) = true) (.ok (.inr (.inl ())))
     (.ok (.inl (A, C, (IntKind.wrap .i64 (i + (1 : Int)))))))
    .no)
   .no)
  (.ok (.inr (.inr ()))))
noncomputable def laws_eqStringS_4_st : laws_eqStringS_4_σ → Tr (laws_eqStringS_4_σ ⊕ laws_eqStringS_4_ω) := fun x => (laws_eqStringS_4_step (x.1) (x.2.1) (x.2.2))
noncomputable def laws_eqStringS_o4_1 (A C : List (List TC)) (i : Int) : Bool := is (A = C ∧ Typed tab (.slice 9) (.l A) ∧ i = 0)
noncomputable def laws_eqStringS_4_fin (A C : List (List TC)) (i : Int) : Told laws_eqStringS_4_ω := (.leaf (laws_eqStringS_o4_1 A C i) (.inr ()))
def laws_eqStringS_4_sl (x : laws_eqStringS_4_σ) : List Slot := [⟨.val false [⟨.slice 9, .sh, TC.l (x.1)⟩], ⟨0, 0⟩⟩, ⟨.val false [⟨.slice 9, .sh, TC.l (x.2.1)⟩], ⟨0, 0⟩⟩, ⟨.val false [⟨.int .i64, .sh, TC.i (x.2.2)⟩], ⟨0, 0⟩⟩]
def laws_eqStringS_4_out : laws_eqStringS_4_ω → Ex × List Slot := (Sum.elim (fun x => (.ret, [⟨.val false [⟨.bool, .sh, TC.b false⟩], ⟨0, 0⟩⟩])) (fun x => (.exit 0, [Slot.none])))
noncomputable def laws_eqStringS_lo4 : List Slot → Option (Told (Ex × List Slot)) := fun s => match s with
  | [⟨.val false [⟨.slice 9, .sh, TC.l A⟩], ⟨0, 0⟩⟩, ⟨.val false [⟨.slice 9, .sh, TC.l C⟩], ⟨0, 0⟩⟩, ⟨.val false [⟨.int .i64, .sh, TC.i i⟩], ⟨0, 0⟩⟩] => some (((laws_eqStringS_4_fin A C i)).map laws_eqStringS_4_out)
  | _ => .none
noncomputable def laws_eqStringS_lo : LoopTeller := fun r s => bif Nat.beq r 4 then laws_eqStringS_lo4 s else .none
theorem laws_eqStringS_4_r (A C : List (List TC)) (i : Int) (fuel : Nat) : rounds (rnd tab FT D59 live 41 laws_eqStringS_lo 0 4) leave (fuel + 1) (laws_eqStringS_4_sl (A, C, i)) = ((laws_eqStringS_4_step A C i)).run (goOn (fun s => rounds (rnd tab FT D59 live 41 laws_eqStringS_lo 0 4) leave fuel (laws_eqStringS_4_sl s)) fun w => some (laws_eqStringS_4_out w)) := by kernel_rfl
theorem laws_eqStringS_4_h (A C : List (List TC)) (i : Int) (ow : laws_eqStringS_4_ω) : ((laws_eqStringS_4_fin A C i)).val = some ow → ∃ fuel, loopN laws_eqStringS_4_st fuel (A, C, i) = some ow := by
  intro h
  refine auto_leaf (R := Sum.inr ()) (fun ho => ?_) h
  obtain ⟨rfl, ht, rfl⟩ := is_iff.1 ho
  have hlen : A.length ≤ 140737488351232 := by have := typed_room ht; simp only [show (tab 9).bytes = 16 from rfl] at this; omega
  refine ⟨_, loopN_run (N := A.length) (fun i => (A, A, (i : Int))) (fun i hi => ?_) ?_ A.length 0 (by omega)⟩
  · have c0 : Typed tab (.str) (.s (nth (A.getD i []) 0).str) := typed_s (typed_cell ht (A.getD i []) (mem_getD hi) 0 (by decide))
    show (laws_eqStringS_4_step A A (i : Int)).val = _
    unfold laws_eqStringS_4_step
    refine Tr.t (by simp; omega) ?_
    refine Tr.t (by first | omega | (constructor <;> omega)) ?_
    refine Tr.t (by first | omega | (constructor <;> omega)) ?_
    refine Tr.n (by simp [impl_SameType_rv, impl_Type_bytes_rv, impl_Type_size_rv, impl_Type_valid_rv, laws_szType_rv, laws_toType_rv, spec_l02Depth_rv, spec_l02Ok_rv, spec_l02Size_rv]) ?_
    rw [Tr.val_ok, wrap64 (i := (i : Int) + 1) (by omega) (by omega)]; rfl
  · show (laws_eqStringS_4_step A A (A.length : Int)).val = _
    refine Tr.n (by simp) ?_
    rfl
theorem laws_eqStringS_is4 : LoopIs tab FT D59 live 41 laws_eqStringS_lo 0 4 := by
  refine loop_told (sl := laws_eqStringS_4_sl) (step := laws_eqStringS_4_st) (out := laws_eqStringS_4_out) (lor := laws_eqStringS_lo4) (fin := fun x => (laws_eqStringS_4_fin (x.1) (x.2.1) (x.2.2))) (fun _ => rfl) ?_ (fun x n => laws_eqStringS_4_r x.1 x.2.1 x.2.2 n) (fun x ow => laws_eqStringS_4_h x.1 x.2.1 x.2.2 ow)
  intro s t h
  unfold laws_eqStringS_lo4 at h
  split at h
  · cases h; exact ⟨(_, _, _), rfl, rfl⟩
  · cases h
noncomputable def laws_eqStringS_t (A C : List (List TC)) : Tr (Bool) := (.ite ((!((A.length : Int) == (C.length : Int))) = true) (.ok false)
  (.ite ((laws_eqStringS_o4_1 A C (0 : Int)) = true) (.ok true)
   .no))
def laws_eqStringS_mk (p : Bool) : Res := [(false, [⟨.bool, .sh, TC.b p⟩])]
noncomputable def laws_eqStringS_c (A C : List (List TC)) : Bool := is (A = C ∧ Typed tab (.slice 9) (.l A))
noncomputable def laws_eqStringS_v (A C : List (List TC)) : Bool := true
theorem laws_eqStringS_l (A C : List (List TC)) : (laws_eqStringS_c A C) = true → (laws_eqStringS_t A C).val = some (laws_eqStringS_v A C) := by
  intro h
  obtain ⟨rfl, ht⟩ := is_iff.1 h
  unfold laws_eqStringS_t
  refine Tr.n (by simp) ?_
  refine Tr.t (is_true ⟨rfl, ht, rfl⟩) ?_
  rfl
noncomputable def laws_eqStringS_S : List Arg → Option (Bool × Res) := fun xs => match xs with
  | [(false, [(.slice 9, TC.l A)]), (false, [(.slice 9, TC.l C)])] => some ((laws_eqStringS_c A C), laws_eqStringS_mk (laws_eqStringS_v A C))
  | _ => .none
theorem laws_eqStringS_e (A C : List (List TC)) : runF tab FT D59 live 41 laws_eqStringS_lo [(false, [(.slice 9, TC.l A)]), (false, [(.slice 9, TC.l C)])] = (laws_eqStringS_t A C).run fun p => some (laws_eqStringS_mk p) := by kernel_rfl
theorem laws_eqStringS_s : ∀ xs r, laws_eqStringS_S xs = some (true, r) → runF tab FT D59 live 41 laws_eqStringS_lo xs = some r := by
  intro xs r h
  unfold laws_eqStringS_S at h
  split at h
  · simp only [Option.some.injEq, Prod.mk.injEq] at h
    obtain ⟨h1, rfl⟩ := h
    exact fun_told (laws_eqStringS_e _ _) (laws_eqStringS_l _ _) h1
  · cases h
noncomputable def D60 : Dt := also D59 41 laws_eqStringS_S
theorem d60 : DOk Go.Proofs.Try.prog tab D60 := d59.also mixed_ok tab_ok names_ok (fnLoops_one (by kernel_rfl) laws_eqStringS_is4) laws_eqStringS_s
/-! laws_eqInt64S -/
abbrev laws_eqInt64S_4_σ := List (List TC) × List (List TC) × Int
abbrev laws_eqInt64S_4_ω := (Unit) ⊕ (Unit)
noncomputable def laws_eqInt64S_4_step (A C : List (List TC)) (i : Int) : Tr (laws_eqInt64S_4_σ ⊕ laws_eqInt64S_4_ω) := (.ite ((decide (i < (A.length : Int))) = true) (.ite ((0 : Int) ≤ i ∧ i < (A.length : Int)) (.ite ((0 : Int) ≤ i ∧ i < (C.length : Int)) (.ite ((!((nth (row A i) 0).int == (nth (row C i) 0).int)) = true) (.ok (.inr (.inl ())))
     (.ok (.inl (A, C, (IntKind.wrap .i64 (i + (1 : Int)))))))
    .no)
   .no)
  (.ok (.inr (.inr ()))))
noncomputable def laws_eqInt64S_4_st : laws_eqInt64S_4_σ → Tr (laws_eqInt64S_4_σ ⊕ laws_eqInt64S_4_ω) := fun x => (laws_eqInt64S_4_step (x.1) (x.2.1) (x.2.2))
noncomputable def laws_eqInt64S_o4_1 (A C : List (List TC)) (i : Int) : Bool := is (A = C ∧ Typed tab (.slice 2) (.l A) ∧ i = 0)
noncomputable def laws_eqInt64S_4_fin (A C : List (List TC)) (i : Int) : Told laws_eqInt64S_4_ω := (.leaf (laws_eqInt64S_o4_1 A C i) (.inr ()))
def laws_eqInt64S_4_sl (x : laws_eqInt64S_4_σ) : List Slot := [⟨.val false [⟨.slice 2, .sh, TC.l (x.1)⟩], ⟨0, 0⟩⟩, ⟨.val false [⟨.slice 2, .sh, TC.l (x.2.1)⟩], ⟨0, 0⟩⟩, ⟨.val false [⟨.int .i64, .sh, TC.i (x.2.2)⟩], ⟨0, 0⟩⟩]
def laws_eqInt64S_4_out : laws_eqInt64S_4_ω → Ex × List Slot := (Sum.elim (fun x => (.ret, [⟨.val false [⟨.bool, .sh, TC.b false⟩], ⟨0, 0⟩⟩])) (fun x => (.exit 0, [Slot.none])))
noncomputable def laws_eqInt64S_lo4 : List Slot → Option (Told (Ex × List Slot)) := fun s => match s with
  | [⟨.val false [⟨.slice 2, .sh, TC.l A⟩], ⟨0, 0⟩⟩, ⟨.val false [⟨.slice 2, .sh, TC.l C⟩], ⟨0, 0⟩⟩, ⟨.val false [⟨.int .i64, .sh, TC.i i⟩], ⟨0, 0⟩⟩] => some (((laws_eqInt64S_4_fin A C i)).map laws_eqInt64S_4_out)
  | _ => .none
noncomputable def laws_eqInt64S_lo : LoopTeller := fun r s => bif Nat.beq r 4 then laws_eqInt64S_lo4 s else .none
theorem laws_eqInt64S_4_r (A C : List (List TC)) (i : Int) (fuel : Nat) : rounds (rnd tab FT D60 live 42 laws_eqInt64S_lo 0 4) leave (fuel + 1) (laws_eqInt64S_4_sl (A, C, i)) = ((laws_eqInt64S_4_step A C i)).run (goOn (fun s => rounds (rnd tab FT D60 live 42 laws_eqInt64S_lo 0 4) leave fuel (laws_eqInt64S_4_sl s)) fun w => some (laws_eqInt64S_4_out w)) := by kernel_rfl
theorem laws_eqInt64S_4_h (A C : List (List TC)) (i : Int) (ow : laws_eqInt64S_4_ω) : ((laws_eqInt64S_4_fin A C i)).val = some ow → ∃ fuel, loopN laws_eqInt64S_4_st fuel (A, C, i) = some ow := by
  intro h
  refine auto_leaf (R := Sum.inr ()) (fun ho => ?_) h
  obtain ⟨rfl, ht, rfl⟩ := is_iff.1 ho
  have hlen : A.length ≤ 140737488351232 := by have := typed_room ht; simp only [show (tab 2).bytes = 8 from rfl] at this; omega
  refine ⟨_, loopN_run (N := A.length) (fun i => (A, A, (i : Int))) (fun i hi => ?_) ?_ A.length 0 (by omega)⟩
  · skip
    show (laws_eqInt64S_4_step A A (i : Int)).val = _
    unfold laws_eqInt64S_4_step
    refine Tr.t (by simp; omega) ?_
    refine Tr.t (by first | omega | (constructor <;> omega)) ?_
    refine Tr.t (by first | omega | (constructor <;> omega)) ?_
    refine Tr.n (by simp [impl_SameType_rv, impl_Type_bytes_rv, impl_Type_size_rv, impl_Type_valid_rv, laws_szType_rv, laws_toType_rv, spec_l02Depth_rv, spec_l02Ok_rv, spec_l02Size_rv]) ?_
    rw [Tr.val_ok, wrap64 (i := (i : Int) + 1) (by omega) (by omega)]; rfl
  · show (laws_eqInt64S_4_step A A (A.length : Int)).val = _
    refine Tr.n (by simp) ?_
    rfl
theorem laws_eqInt64S_is4 : LoopIs tab FT D60 live 42 laws_eqInt64S_lo 0 4 := by
  refine loop_told (sl := laws_eqInt64S_4_sl) (step := laws_eqInt64S_4_st) (out := laws_eqInt64S_4_out) (lor := laws_eqInt64S_lo4) (fin := fun x => (laws_eqInt64S_4_fin (x.1) (x.2.1) (x.2.2))) (fun _ => rfl) ?_ (fun x n => laws_eqInt64S_4_r x.1 x.2.1 x.2.2 n) (fun x ow => laws_eqInt64S_4_h x.1 x.2.1 x.2.2 ow)
  intro s t h
  unfold laws_eqInt64S_lo4 at h
  split at h
  · cases h; exact ⟨(_, _, _), rfl, rfl⟩
  · cases h
noncomputable def laws_eqInt64S_t (A C : List (List TC)) : Tr (Bool) := (.ite ((!((A.length : Int) == (C.length : Int))) = true) (.ok false)
  (.ite ((laws_eqInt64S_o4_1 A C (0 : Int)) = true) (.ok true)
   .no))
def laws_eqInt64S_mk (p : Bool) : Res := [(false, [⟨.bool, .sh, TC.b p⟩])]
noncomputable def laws_eqInt64S_c (A C : List (List TC)) : Bool := is (A = C ∧ Typed tab (.slice 2) (.l A))
noncomputable def laws_eqInt64S_v (A C : List (List TC)) : Bool := true
theorem laws_eqInt64S_l (A C : List (List TC)) : (laws_eqInt64S_c A C) = true → (laws_eqInt64S_t A C).val = some (laws_eqInt64S_v A C) := by
  intro h
  obtain ⟨rfl, ht⟩ := is_iff.1 h
  unfold laws_eqInt64S_t
  refine Tr.n (by simp) ?_
  refine Tr.t (is_true ⟨rfl, ht, rfl⟩) ?_
  rfl
noncomputable def laws_eqInt64S_S : List Arg → Option (Bool × Res) := fun xs => match xs with
  | [(false, [(.slice 2, TC.l A)]), (false, [(.slice 2, TC.l C)])] => some ((laws_eqInt64S_c A C), laws_eqInt64S_mk (laws_eqInt64S_v A C))
  | _ => .none
theorem laws_eqInt64S_e (A C : List (List TC)) : runF tab FT D60 live 42 laws_eqInt64S_lo [(false, [(.slice 2, TC.l A)]), (false, [(.slice 2, TC.l C)])] = (laws_eqInt64S_t A C).run fun p => some (laws_eqInt64S_mk p) := by kernel_rfl
theorem laws_eqInt64S_s : ∀ xs r, laws_eqInt64S_S xs = some (true, r) → runF tab FT D60 live 42 laws_eqInt64S_lo xs = some r := by
  intro xs r h
  unfold laws_eqInt64S_S at h
  split at h
  · simp only [Option.some.injEq, Prod.mk.injEq] at h
    obtain ⟨h1, rfl⟩ := h
    exact fun_told (laws_eqInt64S_e _ _) (laws_eqInt64S_l _ _) h1
  · cases h
noncomputable def D61 : Dt := also D60 42 laws_eqInt64S_S
theorem d61 : DOk Go.Proofs.Try.prog tab D61 := d60.also mixed_ok tab_ok names_ok (fnLoops_one (by kernel_rfl) laws_eqInt64S_is4) laws_eqInt64S_s
/-! laws_eqType calls itself -/
section
class laws_eqType_O where n : Nat
variable [i_laws_eqType : laws_eqType_O]
noncomputable def laws_eqType_rc (x0 x1 : Int) (x2 x3 : Bool) (x4 x5 x6 x7 : List (List TC)) (x8 y0 y1 : Int) (y2 y3 : Bool) (y4 y5 y6 y7 : List (List TC)) (y8 : Int) : Bool := is (max (rowsDep x6) (rowsDep x7) < laws_eqType_O.n ∧ x0 = y0 ∧ x1 = y1 ∧ x2 = y2 ∧ x3 = y3 ∧ x4 = y4 ∧ x5 = y5 ∧ x6 = y6 ∧ x7 = y7 ∧ x8 = y8 ∧ Typed tab (.slice 9) (.l x4) ∧ Typed tab (.slice 2) (.l x5) ∧ Typed tab (.slice 77) (.l x6) ∧ Typed tab (.slice 32) (.l x7))
noncomputable def laws_eqType_rv (x0 x1 : Int) (x2 x3 : Bool) (x4 x5 x6 x7 : List (List TC)) (x8 y0 y1 : Int) (y2 y3 : Bool) (y4 y5 y6 y7 : List (List TC)) (y8 : Int) : Bool := true
def laws_eqType_rmk (p : Bool) : Res := [(false, [⟨.bool, .sh, TC.b p⟩])]
noncomputable def laws_eqType_rS : List Arg → Option (Bool × Res) := fun xs => match xs with
  | [(true, [(.int .i64, TC.i x0), (.int .i64, TC.i x1), (.bool, TC.b x2), (.bool, TC.b x3), (.slice 9, TC.l x4), (.slice 2, TC.l x5), (.slice 77, TC.l x6), (.slice 32, TC.l x7), (.int .i64, TC.i x8)]), (true, [(.int .i64, TC.i y0), (.int .i64, TC.i y1), (.bool, TC.b y2), (.bool, TC.b y3), (.slice 9, TC.l y4), (.slice 2, TC.l y5), (.slice 77, TC.l y6), (.slice 32, TC.l y7), (.int .i64, TC.i y8)])] => some ((laws_eqType_rc x0 x1 x2 x3 x4 x5 x6 x7 x8 y0 y1 y2 y3 y4 y5 y6 y7 y8), laws_eqType_rmk (laws_eqType_rv x0 x1 x2 x3 x4 x5 x6 x7 x8 y0 y1 y2 y3 y4 y5 y6 y7 y8))
  | _ => .none
noncomputable def D62 : Dt := also D61 14 laws_eqType_rS
class laws_eqType_G : Prop where ok : DOk Go.Proofs.Try.prog tab D62
variable [g_laws_eqType : laws_eqType_G]
theorem d62 : DOk Go.Proofs.Try.prog tab D62 := laws_eqType_G.ok
/-! laws_eqMember -/
noncomputable def laws_eqMember_t (x0 : List UInt8) (x1 x2 x3 : Int) (x4 x5 : Bool) (x6 x7 x8 x9 : List (List TC)) (x10 : Int) (y0 : List UInt8) (y1 y2 y3 : Int) (y4 y5 : Bool) (y6 y7 y8 y9 : List (List TC)) (y10 : Int) : Tr (Bool) := (.ite ((!(x0 == y0)) = true) (.ok false)
  (.ite ((!(x1 == y1)) = true) (.ok false)
   (.ite ((laws_eqType_rc x2 x3 x4 x5 x6 x7 x8 x9 x10 y2 y3 y4 y5 y6 y7 y8 y9 y10) = true) (.ite ((!(laws_eqType_rv x2 x3 x4 x5 x6 x7 x8 x9 x10 y2 y3 y4 y5 y6 y7 y8 y9 y10)) = true) (.ok false)
     (.ok true))
    .no)))
def laws_eqMember_mk (p : Bool) : Res := [(false, [⟨.bool, .sh, TC.b p⟩])]
noncomputable def laws_eqMember_c (x0 : List UInt8) (x1 x2 x3 : Int) (x4 x5 : Bool) (x6 x7 x8 x9 : List (List TC)) (x10 : Int) (y0 : List UInt8) (y1 y2 y3 : Int) (y4 y5 : Bool) (y6 y7 y8 y9 : List (List TC)) (y10 : Int) : Bool := (bif (!(x0 == y0)) then true else (bif (!(x1 == y1)) then true else ((laws_eqType_rc x2 x3 x4 x5 x6 x7 x8 x9 x10 y2 y3 y4 y5 y6 y7 y8 y9 y10) && (bif (!(laws_eqType_rv x2 x3 x4 x5 x6 x7 x8 x9 x10 y2 y3 y4 y5 y6 y7 y8 y9 y10)) then true else true))))
noncomputable def laws_eqMember_v (x0 : List UInt8) (x1 x2 x3 : Int) (x4 x5 : Bool) (x6 x7 x8 x9 : List (List TC)) (x10 : Int) (y0 : List UInt8) (y1 y2 y3 : Int) (y4 y5 : Bool) (y6 y7 y8 y9 : List (List TC)) (y10 : Int) : Bool := (bif (!(x0 == y0)) then false else (bif (!(x1 == y1)) then false else (bif (!(laws_eqType_rv x2 x3 x4 x5 x6 x7 x8 x9 x10 y2 y3 y4 y5 y6 y7 y8 y9 y10)) then false else true)))
theorem laws_eqMember_l (x0 : List UInt8) (x1 x2 x3 : Int) (x4 x5 : Bool) (x6 x7 x8 x9 : List (List TC)) (x10 : Int) (y0 : List UInt8) (y1 y2 y3 : Int) (y4 y5 : Bool) (y6 y7 y8 y9 : List (List TC)) (y10 : Int) : (laws_eqMember_c x0 x1 x2 x3 x4 x5 x6 x7 x8 x9 x10 y0 y1 y2 y3 y4 y5 y6 y7 y8 y9 y10) = true → (laws_eqMember_t x0 x1 x2 x3 x4 x5 x6 x7 x8 x9 x10 y0 y1 y2 y3 y4 y5 y6 y7 y8 y9 y10).val = some (laws_eqMember_v x0 x1 x2 x3 x4 x5 x6 x7 x8 x9 x10 y0 y1 y2 y3 y4 y5 y6 y7 y8 y9 y10) := by
  unfold laws_eqMember_t laws_eqMember_v laws_eqMember_c
  exact fun h => (Tr.ss h (fun h => rfl) (fun h => (Tr.ss h (fun h => rfl) (fun h => (Tr.gb h fun h => (Tr.ss h (fun h => rfl) (fun h => rfl)))))))
noncomputable def laws_eqMember_S : List Arg → Option (Bool × Res) := fun xs => match xs with
  | [(true, [(.str, TC.s x0), (.int .i64, TC.i x1), (.int .i64, TC.i x2), (.int .i64, TC.i x3), (.bool, TC.b x4), (.bool, TC.b x5), (.slice 9, TC.l x6), (.slice 2, TC.l x7), (.slice 77, TC.l x8), (.slice 32, TC.l x9), (.int .i64, TC.i x10)]), (true, [(.str, TC.s y0), (.int .i64, TC.i y1), (.int .i64, TC.i y2), (.int .i64, TC.i y3), (.bool, TC.b y4), (.bool, TC.b y5), (.slice 9, TC.l y6), (.slice 2, TC.l y7), (.slice 77, TC.l y8), (.slice 32, TC.l y9), (.int .i64, TC.i y10)])] => some ((laws_eqMember_c x0 x1 x2 x3 x4 x5 x6 x7 x8 x9 x10 y0 y1 y2 y3 y4 y5 y6 y7 y8 y9 y10), laws_eqMember_mk (laws_eqMember_v x0 x1 x2 x3 x4 x5 x6 x7 x8 x9 x10 y0 y1 y2 y3 y4 y5 y6 y7 y8 y9 y10))
  | _ => .none
theorem laws_eqMember_e (x0 : List UInt8) (x1 x2 x3 : Int) (x4 x5 : Bool) (x6 x7 x8 x9 : List (List TC)) (x10 : Int) (y0 : List UInt8) (y1 y2 y3 : Int) (y4 y5 : Bool) (y6 y7 y8 y9 : List (List TC)) (y10 : Int) : runF tab FT D62 live 83 noLoops [(true, [(.str, TC.s x0), (.int .i64, TC.i x1), (.int .i64, TC.i x2), (.int .i64, TC.i x3), (.bool, TC.b x4), (.bool, TC.b x5), (.slice 9, TC.l x6), (.slice 2, TC.l x7), (.slice 77, TC.l x8), (.slice 32, TC.l x9), (.int .i64, TC.i x10)]), (true, [(.str, TC.s y0), (.int .i64, TC.i y1), (.int .i64, TC.i y2), (.int .i64, TC.i y3), (.bool, TC.b y4), (.bool, TC.b y5), (.slice 9, TC.l y6), (.slice 2, TC.l y7), (.slice 77, TC.l y8), (.slice 32, TC.l y9), (.int .i64, TC.i y10)])] = (laws_eqMember_t x0 x1 x2 x3 x4 x5 x6 x7 x8 x9 x10 y0 y1 y2 y3 y4 y5 y6 y7 y8 y9 y10).run fun p => some (laws_eqMember_mk p) := by kernel_rfl
theorem laws_eqMember_s : ∀ xs r, laws_eqMember_S xs = some (true, r) → runF tab FT D62 live 83 noLoops xs = some r := by
  intro xs r h
  unfold laws_eqMember_S at h
  split at h
  · simp only [Option.some.injEq, Prod.mk.injEq] at h
    obtain ⟨h1, rfl⟩ := h
    exact fun_told (laws_eqMember_e _ _ _ _ _ _ _ _ _ _ _ _ _ _ _ _ _ _ _ _ _ _) (laws_eqMember_l _ _ _ _ _ _ _ _ _ _ _ _ _ _ _ _ _ _ _ _ _ _) h1
  · cases h
noncomputable def D63 : Dt := also D62 83 laws_eqMember_S
theorem d63 : DOk Go.Proofs.Try.prog tab D63 := d62.also mixed_ok tab_ok names_ok noLoops_ok laws_eqMember_s
theorem laws_eqMember_cc {x0 : List UInt8} {x1 : Int} {x2 : Int} {x3 : Int} {x4 : Bool} {x5 : Bool} {x6 : List (List TC)} {x7 : List (List TC)} {x8 : List (List TC)} {x9 : List (List TC)} {x10 : Int} (h0 : (laws_eqType_rc x2 x3 x4 x5 x6 x7 x8 x9 x10 x2 x3 x4 x5 x6 x7 x8 x9 x10) = true) : (laws_eqMember_c x0 x1 x2 x3 x4 x5 x6 x7 x8 x9 x10 x0 x1 x2 x3 x4 x5 x6 x7 x8 x9 x10) = true := by
  unfold laws_eqMember_c
  simp [h0, laws_szType_rv, laws_toType_rv, spec_l02Size_rv, spec_l02Depth_rv, spec_l02Ok_rv, impl_Type_size_rv, impl_SameType_rv, impl_Type_valid_rv, impl_Type_bytes_rv, laws_eqType_rv]
/-! laws_eqMemberS -/
abbrev laws_eqMemberS_4_σ := List (List TC) × List (List TC) × Int
abbrev laws_eqMemberS_4_ω := (Unit) ⊕ (Unit)
noncomputable def laws_eqMemberS_4_step (A C : List (List TC)) (i : Int) : Tr (laws_eqMemberS_4_σ ⊕ laws_eqMemberS_4_ω) := (.ite ((decide (i < (A.length : Int))) = true) (.ite ((0 : Int) ≤ i ∧ i < (A.length : Int)) (.ite ((0 : Int) ≤ i ∧ i < (C.length : Int)) (.ite ((laws_eqMember_c ((nth (row A i) 0).str) ((nth (row A i) 1).int) ((nth (row A i) 2).int) ((nth (row A i) 3).int) ((nth (row A i) 4).bool) ((nth (row A i) 5).bool) ((nth (row A i) 6).list) ((nth (row A i) 7).list) ((nth (row A i) 8).list) ((nth (row A i) 9).list) ((nth (row A i) 10).int) ((nth (row C i) 0).str) ((nth (row C i) 1).int) ((nth (row C i) 2).int) ((nth (row C i) 3).int) ((nth (row C i) 4).bool) ((nth (row C i) 5).bool) ((nth (row C i) 6).list) ((nth (row C i) 7).list) ((nth (row C i) 8).list) ((nth (row C i) 9).list) ((nth (row C i) 10).int)) = true) (.ite ((!(laws_eqMember_v ((nth (row A i) 0).str) ((nth (row A i) 1).int) ((nth (row A i) 2).int) ((nth (row A i) 3).int) ((nth (row A i) 4).bool) ((nth (row A i) 5).bool) ((nth (row A i) 6).list) ((nth (row A i) 7).list) ((nth (row A i) 8).list) ((nth (row A i) 9).list) ((nth (row A i) 10).int) ((nth (row C i) 0).str) ((nth (row C i) 1).int) ((nth (row C i) 2).int) ((nth (row C i) 3).int) ((nth (row C i) 4).bool) ((nth (row C i) 5).bool) ((nth (row C i) 6).list) ((nth (row C i) 7).list) ((nth (row C i) 8).list) ((nth (row C i) 9).list) ((nth (row C i) 10).int))) = true) (.ok (.inr (.inl ())))
      (.ok (.inl (A, C, (IntKind.wrap .i64 (i + (1 : Int)))))))
     .no)
    .no)
   .no)
  (.ok (.inr (.inr ()))))
noncomputable def laws_eqMemberS_4_st : laws_eqMemberS_4_σ → Tr (laws_eqMemberS_4_σ ⊕ laws_eqMemberS_4_ω) := fun x => (laws_eqMemberS_4_step (x.1) (x.2.1) (x.2.2))
noncomputable def laws_eqMemberS_o4_1 (A C : List (List TC)) (i : Int) : Bool := is (A = C ∧ Typed tab (.slice 77) (.l A) ∧ (∀ x : List TC, x ∈ A → (laws_eqMember_c ((nth x 0).str) ((nth x 1).int) ((nth x 2).int) ((nth x 3).int) ((nth x 4).bool) ((nth x 5).bool) ((nth x 6).list) ((nth x 7).list) ((nth x 8).list) ((nth x 9).list) ((nth x 10).int) ((nth x 0).str) ((nth x 1).int) ((nth x 2).int) ((nth x 3).int) ((nth x 4).bool) ((nth x 5).bool) ((nth x 6).list) ((nth x 7).list) ((nth x 8).list) ((nth x 9).list) ((nth x 10).int)) = true) ∧ i = 0)
noncomputable def laws_eqMemberS_4_fin (A C : List (List TC)) (i : Int) : Told laws_eqMemberS_4_ω := (.leaf (laws_eqMemberS_o4_1 A C i) (.inr ()))
def laws_eqMemberS_4_sl (x : laws_eqMemberS_4_σ) : List Slot := [⟨.val false [⟨.slice 77, .sh, TC.l (x.1)⟩], ⟨0, 0⟩⟩, ⟨.val false [⟨.slice 77, .sh, TC.l (x.2.1)⟩], ⟨0, 0⟩⟩, ⟨.val false [⟨.int .i64, .sh, TC.i (x.2.2)⟩], ⟨0, 0⟩⟩]
def laws_eqMemberS_4_out : laws_eqMemberS_4_ω → Ex × List Slot := (Sum.elim (fun x => (.ret, [⟨.val false [⟨.bool, .sh, TC.b false⟩], ⟨0, 0⟩⟩])) (fun x => (.exit 0, [Slot.none])))
noncomputable def laws_eqMemberS_lo4 : List Slot → Option (Told (Ex × List Slot)) := fun s => match s with
  | [⟨.val false [⟨.slice 77, .sh, TC.l A⟩], ⟨0, 0⟩⟩, ⟨.val false [⟨.slice 77, .sh, TC.l C⟩], ⟨0, 0⟩⟩, ⟨.val false [⟨.int .i64, .sh, TC.i i⟩], ⟨0, 0⟩⟩] => some (((laws_eqMemberS_4_fin A C i)).map laws_eqMemberS_4_out)
  | _ => .none
noncomputable def laws_eqMemberS_lo : LoopTeller := fun r s => bif Nat.beq r 4 then laws_eqMemberS_lo4 s else .none
theorem laws_eqMemberS_4_r (A C : List (List TC)) (i : Int) (fuel : Nat) : rounds (rnd tab FT D63 live 43 laws_eqMemberS_lo 0 4) leave (fuel + 1) (laws_eqMemberS_4_sl (A, C, i)) = ((laws_eqMemberS_4_step A C i)).run (goOn (fun s => rounds (rnd tab FT D63 live 43 laws_eqMemberS_lo 0 4) leave fuel (laws_eqMemberS_4_sl s)) fun w => some (laws_eqMemberS_4_out w)) := by kernel_rfl
theorem laws_eqMemberS_4_h (A C : List (List TC)) (i : Int) (ow : laws_eqMemberS_4_ω) : ((laws_eqMemberS_4_fin A C i)).val = some ow → ∃ fuel, loopN laws_eqMemberS_4_st fuel (A, C, i) = some ow := by
  intro h
  refine auto_leaf (R := Sum.inr ()) (fun ho => ?_) h
  obtain ⟨rfl, ht, hr0, rfl⟩ := is_iff.1 ho
  have hlen : A.length ≤ 140737488351232 := by have := typed_room ht; simp only [show (tab 77).bytes = 152 from rfl] at this; omega
  refine ⟨_, loopN_run (N := A.length) (fun i => (A, A, (i : Int))) (fun i hi => ?_) ?_ A.length 0 (by omega)⟩
  · have c0 : Typed tab (.str) (.s (nth (A.getD i []) 0).str) := typed_s (typed_cell ht (A.getD i []) (mem_getD hi) 0 (by decide))
    have c6 : Typed tab (.slice 9) (.l (nth (A.getD i []) 6).list) := typed_list (typed_cell ht (A.getD i []) (mem_getD hi) 6 (by decide))
    have c7 : Typed tab (.slice 2) (.l (nth (A.getD i []) 7).list) := typed_list (typed_cell ht (A.getD i []) (mem_getD hi) 7 (by decide))
    have c8 : Typed tab (.slice 77) (.l (nth (A.getD i []) 8).list) := typed_list (typed_cell ht (A.getD i []) (mem_getD hi) 8 (by decide))
    have c9 : Typed tab (.slice 32) (.l (nth (A.getD i []) 9).list) := typed_list (typed_cell ht (A.getD i []) (mem_getD hi) 9 (by decide))
    show (laws_eqMemberS_4_step A A (i : Int)).val = _
    unfold laws_eqMemberS_4_step
    refine Tr.t (by simp; omega) ?_
    refine Tr.t (by first | omega | (constructor <;> omega)) ?_
    refine Tr.t (by first | omega | (constructor <;> omega)) ?_
    refine Tr.t (hr0 (A.getD i []) (mem_getD hi)) ?_
    refine Tr.n (by simp [impl_SameType_rv, impl_Type_bytes_rv, impl_Type_size_rv, impl_Type_valid_rv, laws_eqMember_v, laws_eqType_rv, laws_szType_rv, laws_toType_rv, spec_l02Depth_rv, spec_l02Ok_rv, spec_l02Size_rv]) ?_
    rw [Tr.val_ok, wrap64 (i := (i : Int) + 1) (by omega) (by omega)]; rfl
  · show (laws_eqMemberS_4_step A A (A.length : Int)).val = _
    refine Tr.n (by simp) ?_
    rfl
theorem laws_eqMemberS_is4 : LoopIs tab FT D63 live 43 laws_eqMemberS_lo 0 4 := by
  refine loop_told (sl := laws_eqMemberS_4_sl) (step := laws_eqMemberS_4_st) (out := laws_eqMemberS_4_out) (lor := laws_eqMemberS_lo4) (fin := fun x => (laws_eqMemberS_4_fin (x.1) (x.2.1) (x.2.2))) (fun _ => rfl) ?_ (fun x n => laws_eqMemberS_4_r x.1 x.2.1 x.2.2 n) (fun x ow => laws_eqMemberS_4_h x.1 x.2.1 x.2.2 ow)
  intro s t h
  unfold laws_eqMemberS_lo4 at h
  split at h
  · cases h; exact ⟨(_, _, _), rfl, rfl⟩
  · cases h
noncomputable def laws_eqMemberS_t (A C : List (List TC)) : Tr (Bool) := (.ite ((!((A.length : Int) == (C.length : Int))) = true) (.ok false)
  (.ite ((laws_eqMemberS_o4_1 A C (0 : Int)) = true) (.ok true)
   .no))
def laws_eqMemberS_mk (p : Bool) : Res := [(false, [⟨.bool, .sh, TC.b p⟩])]
noncomputable def laws_eqMemberS_c (A C : List (List TC)) : Bool := is (A = C ∧ Typed tab (.slice 77) (.l A) ∧ (∀ x : List TC, x ∈ A → (laws_eqMember_c ((nth x 0).str) ((nth x 1).int) ((nth x 2).int) ((nth x 3).int) ((nth x 4).bool) ((nth x 5).bool) ((nth x 6).list) ((nth x 7).list) ((nth x 8).list) ((nth x 9).list) ((nth x 10).int) ((nth x 0).str) ((nth x 1).int) ((nth x 2).int) ((nth x 3).int) ((nth x 4).bool) ((nth x 5).bool) ((nth x 6).list) ((nth x 7).list) ((nth x 8).list) ((nth x 9).list) ((nth x 10).int)) = true))
noncomputable def laws_eqMemberS_v (A C : List (List TC)) : Bool := true
theorem laws_eqMemberS_l (A C : List (List TC)) : (laws_eqMemberS_c A C) = true → (laws_eqMemberS_t A C).val = some (laws_eqMemberS_v A C) := by
  intro h
  obtain ⟨rfl, ht, hr0⟩ := is_iff.1 h
  unfold laws_eqMemberS_t
  refine Tr.n (by simp) ?_
  refine Tr.t (is_true ⟨rfl, ht, hr0, rfl⟩) ?_
  rfl
noncomputable def laws_eqMemberS_S : List Arg → Option (Bool × Res) := fun xs => match xs with
  | [(false, [(.slice 77, TC.l A)]), (false, [(.slice 77, TC.l C)])] => some ((laws_eqMemberS_c A C), laws_eqMemberS_mk (laws_eqMemberS_v A C))
  | _ => .none
theorem laws_eqMemberS_e (A C : List (List TC)) : runF tab FT D63 live 43 laws_eqMemberS_lo [(false, [(.slice 77, TC.l A)]), (false, [(.slice 77, TC.l C)])] = (laws_eqMemberS_t A C).run fun p => some (laws_eqMemberS_mk p) := by kernel_rfl
theorem laws_eqMemberS_s : ∀ xs r, laws_eqMemberS_S xs = some (true, r) → runF tab FT D63 live 43 laws_eqMemberS_lo xs = some r := by
  intro xs r h
  unfold laws_eqMemberS_S at h
  split at h
  · simp only [Option.some.injEq, Prod.mk.injEq] at h
    obtain ⟨h1, rfl⟩ := h
    exact fun_told (laws_eqMemberS_e _ _) (laws_eqMemberS_l _ _) h1
  · cases h
noncomputable def D64 : Dt := also D63 43 laws_eqMemberS_S
theorem d64 : DOk Go.Proofs.Try.prog tab D64 := d63.also mixed_ok tab_ok names_ok (fnLoops_one (by kernel_rfl) laws_eqMemberS_is4) laws_eqMemberS_s
/-! laws_eqTypeS -/
abbrev laws_eqTypeS_4_σ := List (List TC) × List (List TC) × Int
abbrev laws_eqTypeS_4_ω := (Unit) ⊕ (Unit)
noncomputable def laws_eqTypeS_4_step (A C : List (List TC)) (i : Int) : Tr (laws_eqTypeS_4_σ ⊕ laws_eqTypeS_4_ω) := (.ite ((decide (i < (A.length : Int))) = true) (.ite ((0 : Int) ≤ i ∧ i < (A.length : Int)) (.ite ((0 : Int) ≤ i ∧ i < (C.length : Int)) (.ite ((laws_eqType_rc ((nth (row A i) 0).int) ((nth (row A i) 1).int) ((nth (row A i) 2).bool) ((nth (row A i) 3).bool) ((nth (row A i) 4).list) ((nth (row A i) 5).list) ((nth (row A i) 6).list) ((nth (row A i) 7).list) ((nth (row A i) 8).int) ((nth (row C i) 0).int) ((nth (row C i) 1).int) ((nth (row C i) 2).bool) ((nth (row C i) 3).bool) ((nth (row C i) 4).list) ((nth (row C i) 5).list) ((nth (row C i) 6).list) ((nth (row C i) 7).list) ((nth (row C i) 8).int)) = true) (.ite ((!(laws_eqType_rv ((nth (row A i) 0).int) ((nth (row A i) 1).int) ((nth (row A i) 2).bool) ((nth (row A i) 3).bool) ((nth (row A i) 4).list) ((nth (row A i) 5).list) ((nth (row A i) 6).list) ((nth (row A i) 7).list) ((nth (row A i) 8).int) ((nth (row C i) 0).int) ((nth (row C i) 1).int) ((nth (row C i) 2).bool) ((nth (row C i) 3).bool) ((nth (row C i) 4).list) ((nth (row C i) 5).list) ((nth (row C i) 6).list) ((nth (row C i) 7).list) ((nth (row C i) 8).int))) = true) (.ok (.inr (.inl ())))
      (.ok (.inl (A, C, (IntKind.wrap .i64 (i + (1 : Int)))))))
     .no)
    .no)
   .no)
  (.ok (.inr (.inr ()))))
noncomputable def laws_eqTypeS_4_st : laws_eqTypeS_4_σ → Tr (laws_eqTypeS_4_σ ⊕ laws_eqTypeS_4_ω) := fun x => (laws_eqTypeS_4_step (x.1) (x.2.1) (x.2.2))
noncomputable def laws_eqTypeS_o4_1 (A C : List (List TC)) (i : Int) : Bool := is (A = C ∧ Typed tab (.slice 32) (.l A) ∧ (∀ x : List TC, x ∈ A → (laws_eqType_rc ((nth x 0).int) ((nth x 1).int) ((nth x 2).bool) ((nth x 3).bool) ((nth x 4).list) ((nth x 5).list) ((nth x 6).list) ((nth x 7).list) ((nth x 8).int) ((nth x 0).int) ((nth x 1).int) ((nth x 2).bool) ((nth x 3).bool) ((nth x 4).list) ((nth x 5).list) ((nth x 6).list) ((nth x 7).list) ((nth x 8).int)) = true) ∧ i = 0)
noncomputable def laws_eqTypeS_4_fin (A C : List (List TC)) (i : Int) : Told laws_eqTypeS_4_ω := (.leaf (laws_eqTypeS_o4_1 A C i) (.inr ()))
def laws_eqTypeS_4_sl (x : laws_eqTypeS_4_σ) : List Slot := [⟨.val false [⟨.slice 32, .sh, TC.l (x.1)⟩], ⟨0, 0⟩⟩, ⟨.val false [⟨.slice 32, .sh, TC.l (x.2.1)⟩], ⟨0, 0⟩⟩, ⟨.val false [⟨.int .i64, .sh, TC.i (x.2.2)⟩], ⟨0, 0⟩⟩]
def laws_eqTypeS_4_out : laws_eqTypeS_4_ω → Ex × List Slot := (Sum.elim (fun x => (.ret, [⟨.val false [⟨.bool, .sh, TC.b false⟩], ⟨0, 0⟩⟩])) (fun x => (.exit 0, [Slot.none])))
noncomputable def laws_eqTypeS_lo4 : List Slot → Option (Told (Ex × List Slot)) := fun s => match s with
  | [⟨.val false [⟨.slice 32, .sh, TC.l A⟩], ⟨0, 0⟩⟩, ⟨.val false [⟨.slice 32, .sh, TC.l C⟩], ⟨0, 0⟩⟩, ⟨.val false [⟨.int .i64, .sh, TC.i i⟩], ⟨0, 0⟩⟩] => some (((laws_eqTypeS_4_fin A C i)).map laws_eqTypeS_4_out)
  | _ => .none
noncomputable def laws_eqTypeS_lo : LoopTeller := fun r s => bif Nat.beq r 4 then laws_eqTypeS_lo4 s else .none
theorem laws_eqTypeS_4_r (A C : List (List TC)) (i : Int) (fuel : Nat) : rounds (rnd tab FT D64 live 44 laws_eqTypeS_lo 0 4) leave (fuel + 1) (laws_eqTypeS_4_sl (A, C, i)) = ((laws_eqTypeS_4_step A C i)).run (goOn (fun s => rounds (rnd tab FT D64 live 44 laws_eqTypeS_lo 0 4) leave fuel (laws_eqTypeS_4_sl s)) fun w => some (laws_eqTypeS_4_out w)) := by kernel_rfl
theorem laws_eqTypeS_4_h (A C : List (List TC)) (i : Int) (ow : laws_eqTypeS_4_ω) : ((laws_eqTypeS_4_fin A C i)).val = some ow → ∃ fuel, loopN laws_eqTypeS_4_st fuel (A, C, i) = some ow := by
  intro h
  refine auto_leaf (R := Sum.inr ()) (fun ho => ?_) h
  obtain ⟨rfl, ht, hr0, rfl⟩ := is_iff.1 ho
  have hlen : A.length ≤ 140737488351232 := by have := typed_room ht; simp only [show (tab 32).bytes = 128 from rfl] at this; omega
  refine ⟨_, loopN_run (N := A.length) (fun i => (A, A, (i : Int))) (fun i hi => ?_) ?_ A.length 0 (by omega)⟩
  · have c4 : Typed tab (.slice 9) (.l (nth (A.getD i []) 4).list) := typed_list (typed_cell ht (A.getD i []) (mem_getD hi) 4 (by decide))
    have c5 : Typed tab (.slice 2) (.l (nth (A.getD i []) 5).list) := typed_list (typed_cell ht (A.getD i []) (mem_getD hi) 5 (by decide))
    have c6 : Typed tab (.slice 77) (.l (nth (A.getD i []) 6).list) := typed_list (typed_cell ht (A.getD i []) (mem_getD hi) 6 (by decide))
    have c7 : Typed tab (.slice 32) (.l (nth (A.getD i []) 7).list) := typed_list (typed_cell ht (A.getD i []) (mem_getD hi) 7 (by decide))
    show (laws_eqTypeS_4_step A A (i : Int)).val = _
    unfold laws_eqTypeS_4_step
    refine Tr.t (by simp; omega) ?_
    refine Tr.t (by first | omega | (constructor <;> omega)) ?_
    refine Tr.t (by first | omega | (constructor <;> omega)) ?_
    refine Tr.t (hr0 (A.getD i []) (mem_getD hi)) ?_
    refine Tr.n (by simp [impl_SameType_rv, impl_Type_bytes_rv, impl_Type_size_rv, impl_Type_valid_rv, laws_eqType_rv, laws_szType_rv, laws_toType_rv, spec_l02Depth_rv, spec_l02Ok_rv, spec_l02Size_rv]) ?_
    rw [Tr.val_ok, wrap64 (i := (i : Int) + 1) (by omega) (by omega)]; rfl
  · show (laws_eqTypeS_4_step A A (A.length : Int)).val = _
    refine Tr.n (by simp) ?_
    rfl
theorem laws_eqTypeS_is4 : LoopIs tab FT D64 live 44 laws_eqTypeS_lo 0 4 := by
  refine loop_told (sl := laws_eqTypeS_4_sl) (step := laws_eqTypeS_4_st) (out := laws_eqTypeS_4_out) (lor := laws_eqTypeS_lo4) (fin := fun x => (laws_eqTypeS_4_fin (x.1) (x.2.1) (x.2.2))) (fun _ => rfl) ?_ (fun x n => laws_eqTypeS_4_r x.1 x.2.1 x.2.2 n) (fun x ow => laws_eqTypeS_4_h x.1 x.2.1 x.2.2 ow)
  intro s t h
  unfold laws_eqTypeS_lo4 at h
  split at h
  · cases h; exact ⟨(_, _, _), rfl, rfl⟩
  · cases h
noncomputable def laws_eqTypeS_t (A C : List (List TC)) : Tr (Bool) := (.ite ((!((A.length : Int) == (C.length : Int))) = true) (.ok false)
  (.ite ((laws_eqTypeS_o4_1 A C (0 : Int)) = true) (.ok true)
   .no))
def laws_eqTypeS_mk (p : Bool) : Res := [(false, [⟨.bool, .sh, TC.b p⟩])]
noncomputable def laws_eqTypeS_c (A C : List (List TC)) : Bool := is (A = C ∧ Typed tab (.slice 32) (.l A) ∧ (∀ x : List TC, x ∈ A → (laws_eqType_rc ((nth x 0).int) ((nth x 1).int) ((nth x 2).bool) ((nth x 3).bool) ((nth x 4).list) ((nth x 5).list) ((nth x 6).list) ((nth x 7).list) ((nth x 8).int) ((nth x 0).int) ((nth x 1).int) ((nth x 2).bool) ((nth x 3).bool) ((nth x 4).list) ((nth x 5).list) ((nth x 6).list) ((nth x 7).list) ((nth x 8).int)) = true))
noncomputable def laws_eqTypeS_v (A C : List (List TC)) : Bool := true
theorem laws_eqTypeS_l (A C : List (List TC)) : (laws_eqTypeS_c A C) = true → (laws_eqTypeS_t A C).val = some (laws_eqTypeS_v A C) := by
  intro h
  obtain ⟨rfl, ht, hr0⟩ := is_iff.1 h
  unfold laws_eqTypeS_t
  refine Tr.n (by simp) ?_
  refine Tr.t (is_true ⟨rfl, ht, hr0, rfl⟩) ?_
  rfl
noncomputable def laws_eqTypeS_S : List Arg → Option (Bool × Res) := fun xs => match xs with
  | [(false, [(.slice 32, TC.l A)]), (false, [(.slice 32, TC.l C)])] => some ((laws_eqTypeS_c A C), laws_eqTypeS_mk (laws_eqTypeS_v A C))
  | _ => .none
theorem laws_eqTypeS_e (A C : List (List TC)) : runF tab FT D64 live 44 laws_eqTypeS_lo [(false, [(.slice 32, TC.l A)]), (false, [(.slice 32, TC.l C)])] = (laws_eqTypeS_t A C).run fun p => some (laws_eqTypeS_mk p) := by kernel_rfl
theorem laws_eqTypeS_s : ∀ xs r, laws_eqTypeS_S xs = some (true, r) → runF tab FT D64 live 44 laws_eqTypeS_lo xs = some r := by
  intro xs r h
  unfold laws_eqTypeS_S at h
  split at h
  · simp only [Option.some.injEq, Prod.mk.injEq] at h
    obtain ⟨h1, rfl⟩ := h
    exact fun_told (laws_eqTypeS_e _ _) (laws_eqTypeS_l _ _) h1
  · cases h
noncomputable def D65 : Dt := also D64 44 laws_eqTypeS_S
theorem d65 : DOk Go.Proofs.Try.prog tab D65 := d64.also mixed_ok tab_ok names_ok (fnLoops_one (by kernel_rfl) laws_eqTypeS_is4) laws_eqTypeS_s
/-! laws_eqType -/
noncomputable def laws_eqType_t (x0 x1 : Int) (x2 x3 : Bool) (x4 x5 x6 x7 : List (List TC)) (x8 y0 y1 : Int) (y2 y3 : Bool) (y4 y5 y6 y7 : List (List TC)) (y8 : Int) : Tr (Bool) := (.ite ((!(x0 == y0)) = true) (.ok false)
  (.ite ((!(x1 == y1)) = true) (.ok false)
   (.ite ((!(x2 == y2)) = true) (.ok false)
    (.ite ((!(x3 == y3)) = true) (.ok false)
     (.ite ((laws_eqStringS_c x4 y4) = true) (.ite ((!(laws_eqStringS_v x4 y4)) = true) (.ok false)
       (.ite ((laws_eqInt64S_c x5 y5) = true) (.ite ((!(laws_eqInt64S_v x5 y5)) = true) (.ok false)
         (.ite ((laws_eqMemberS_c x6 y6) = true) (.ite ((!(laws_eqMemberS_v x6 y6)) = true) (.ok false)
           (.ite ((laws_eqTypeS_c x7 y7) = true) (.ite ((!(laws_eqTypeS_v x7 y7)) = true) (.ok false)
             (.ite ((!(x8 == y8)) = true) (.ok false)
              (.ok true)))
            .no))
          .no))
        .no))
      .no)))))
def laws_eqType_mk (p : Bool) : Res := [(false, [⟨.bool, .sh, TC.b p⟩])]
noncomputable def laws_eqType_c (x0 x1 : Int) (x2 x3 : Bool) (x4 x5 x6 x7 : List (List TC)) (x8 y0 y1 : Int) (y2 y3 : Bool) (y4 y5 y6 y7 : List (List TC)) (y8 : Int) : Bool := (bif (!(x0 == y0)) then true else (bif (!(x1 == y1)) then true else (bif (!(x2 == y2)) then true else (bif (!(x3 == y3)) then true else ((laws_eqStringS_c x4 y4) && (bif (!(laws_eqStringS_v x4 y4)) then true else ((laws_eqInt64S_c x5 y5) && (bif (!(laws_eqInt64S_v x5 y5)) then true else ((laws_eqMemberS_c x6 y6) && (bif (!(laws_eqMemberS_v x6 y6)) then true else ((laws_eqTypeS_c x7 y7) && (bif (!(laws_eqTypeS_v x7 y7)) then true else (bif (!(x8 == y8)) then true else true)))))))))))))
noncomputable def laws_eqType_v (x0 x1 : Int) (x2 x3 : Bool) (x4 x5 x6 x7 : List (List TC)) (x8 y0 y1 : Int) (y2 y3 : Bool) (y4 y5 y6 y7 : List (List TC)) (y8 : Int) : Bool := (bif (!(x0 == y0)) then false else (bif (!(x1 == y1)) then false else (bif (!(x2 == y2)) then false else (bif (!(x3 == y3)) then false else (bif (!(laws_eqStringS_v x4 y4)) then false else (bif (!(laws_eqInt64S_v x5 y5)) then false else (bif (!(laws_eqMemberS_v x6 y6)) then false else (bif (!(laws_eqTypeS_v x7 y7)) then false else (bif (!(x8 == y8)) then false else true)))))))))
theorem laws_eqType_l (x0 x1 : Int) (x2 x3 : Bool) (x4 x5 x6 x7 : List (List TC)) (x8 y0 y1 : Int) (y2 y3 : Bool) (y4 y5 y6 y7 : List (List TC)) (y8 : Int) : (laws_eqType_c x0 x1 x2 x3 x4 x5 x6 x7 x8 y0 y1 y2 y3 y4 y5 y6 y7 y8) = true → (laws_eqType_t x0 x1 x2 x3 x4 x5 x6 x7 x8 y0 y1 y2 y3 y4 y5 y6 y7 y8).val = some (laws_eqType_v x0 x1 x2 x3 x4 x5 x6 x7 x8 y0 y1 y2 y3 y4 y5 y6 y7 y8) := by
  unfold laws_eqType_t laws_eqType_v laws_eqType_c
  exact fun h => (Tr.ss h (fun h => rfl) (fun h => (Tr.ss h (fun h => rfl) (fun h => (Tr.ss h (fun h => rfl) (fun h => (Tr.ss h (fun h => rfl) (fun h => (Tr.gb h fun h => (Tr.ss h (fun h => rfl) (fun h => (Tr.gb h fun h => (Tr.ss h (fun h => rfl) (fun h => (Tr.gb h fun h => (Tr.ss h (fun h => rfl) (fun h => (Tr.gb h fun h => (Tr.ss h (fun h => rfl) (fun h => (Tr.ss h (fun h => rfl) (fun h => rfl))))))))))))))))))))))
noncomputable def laws_eqType_S : List Arg → Option (Bool × Res) := fun xs => match xs with
  | [(true, [(.int .i64, TC.i x0), (.int .i64, TC.i x1), (.bool, TC.b x2), (.bool, TC.b x3), (.slice 9, TC.l x4), (.slice 2, TC.l x5), (.slice 77, TC.l x6), (.slice 32, TC.l x7), (.int .i64, TC.i x8)]), (true, [(.int .i64, TC.i y0), (.int .i64, TC.i y1), (.bool, TC.b y2), (.bool, TC.b y3), (.slice 9, TC.l y4), (.slice 2, TC.l y5), (.slice 77, TC.l y6), (.slice 32, TC.l y7), (.int .i64, TC.i y8)])] => some ((laws_eqType_c x0 x1 x2 x3 x4 x5 x6 x7 x8 y0 y1 y2 y3 y4 y5 y6 y7 y8), laws_eqType_mk (laws_eqType_v x0 x1 x2 x3 x4 x5 x6 x7 x8 y0 y1 y2 y3 y4 y5 y6 y7 y8))
  | _ => .none
theorem laws_eqType_e (x0 x1 : Int) (x2 x3 : Bool) (x4 x5 x6 x7 : List (List TC)) (x8 y0 y1 : Int) (y2 y3 : Bool) (y4 y5 y6 y7 : List (List TC)) (y8 : Int) : runF tab FT D65 live 14 noLoops [(true, [(.int .i64, TC.i x0), (.int .i64, TC.i x1), (.bool, TC.b x2), (.bool, TC.b x3), (.slice 9, TC.l x4), (.slice 2, TC.l x5), (.slice 77, TC.l x6), (.slice 32, TC.l x7), (.int .i64, TC.i x8)]), (true, [(.int .i64, TC.i y0), (.int .i64, TC.i y1), (.bool, TC.b y2), (.bool, TC.b y3), (.slice 9, TC.l y4), (.slice 2, TC.l y5), (.slice 77, TC.l y6), (.slice 32, TC.l y7), (.int .i64, TC.i y8)])] = (laws_eqType_t x0 x1 x2 x3 x4 x5 x6 x7 x8 y0 y1 y2 y3 y4 y5 y6 y7 y8).run fun p => some (laws_eqType_mk p) := by kernel_rfl
theorem laws_eqType_s : ∀ xs r, laws_eqType_S xs = some (true, r) → runF tab FT D65 live 14 noLoops xs = some r := by
  intro xs r h
  unfold laws_eqType_S at h
  split at h
  · simp only [Option.some.injEq, Prod.mk.injEq] at h
    obtain ⟨h1, rfl⟩ := h
    exact fun_told (laws_eqType_e _ _ _ _ _ _ _ _ _ _ _ _ _ _ _ _ _ _) (laws_eqType_l _ _ _ _ _ _ _ _ _ _ _ _ _ _ _ _ _ _) h1
  · cases h
theorem laws_eqType_nx (x0 x1 : Int) (x2 x3 : Bool) (x4 x5 x6 x7 : List (List TC)) (x8 y0 y1 : Int) (y2 y3 : Bool) (y4 y5 y6 y7 : List (List TC)) (y8 : Int) : is (max (rowsDep x6) (rowsDep x7) < laws_eqType_O.n + 1 ∧ x0 = y0 ∧ x1 = y1 ∧ x2 = y2 ∧ x3 = y3 ∧ x4 = y4 ∧ x5 = y5 ∧ x6 = y6 ∧ x7 = y7 ∧ x8 = y8 ∧ Typed tab (.slice 9) (.l x4) ∧ Typed tab (.slice 2) (.l x5) ∧ Typed tab (.slice 77) (.l x6) ∧ Typed tab (.slice 32) (.l x7)) = true → (laws_eqType_c x0 x1 x2 x3 x4 x5 x6 x7 x8 y0 y1 y2 y3 y4 y5 y6 y7 y8) = true ∧ (laws_eqType_v x0 x1 x2 x3 x4 x5 x6 x7 x8 y0 y1 y2 y3 y4 y5 y6 y7 y8) = true := by
  intro h
  obtain ⟨hM, rfl, rfl, rfl, rfl, rfl, rfl, rfl, rfl, rfl, t4, t5, t6, t7⟩ := is_iff.1 h
  have c4 : laws_eqStringS_c x4 x4 = true := is_true ⟨rfl, t4⟩
  have c5 : laws_eqInt64S_c x5 x5 = true := is_true ⟨rfl, t5⟩
  have c6 : laws_eqMemberS_c x6 x6 = true := is_true ⟨rfl, t6, fun x hx => laws_eqMember_cc (is_true ⟨by have a := dep_cell hx 8; have b := dep_cell hx 9; omega, rfl, rfl, rfl, rfl, rfl, rfl, rfl, rfl, rfl, typed_list ((typed_elem t6 hx).2 6 (by decide)), typed_list ((typed_elem t6 hx).2 7 (by decide)), typed_list ((typed_elem t6 hx).2 8 (by decide)), typed_list ((typed_elem t6 hx).2 9 (by decide))⟩)⟩
  have c7 : laws_eqTypeS_c x7 x7 = true := is_true ⟨rfl, t7, fun x hx => is_true ⟨by have a := dep_cell hx 6; have b := dep_cell hx 7; omega, rfl, rfl, rfl, rfl, rfl, rfl, rfl, rfl, rfl, typed_list ((typed_elem t7 hx).2 4 (by decide)), typed_list ((typed_elem t7 hx).2 5 (by decide)), typed_list ((typed_elem t7 hx).2 6 (by decide)), typed_list ((typed_elem t7 hx).2 7 (by decide))⟩⟩
  constructor
  · unfold laws_eqType_c
    simp only [c4, c5, c6, c7, laws_eqStringS_v, laws_eqInt64S_v, laws_eqMemberS_v, laws_eqTypeS_v, beq_self_eq_true, Bool.not_true, cond_false, Bool.and_self]
  · unfold laws_eqType_v
    simp only [laws_eqStringS_v, laws_eqInt64S_v, laws_eqMemberS_v, laws_eqTypeS_v, beq_self_eq_true, Bool.not_true, cond_false]
theorem laws_eqType_nxr (x0 x1 : Int) (x2 x3 : Bool) (x4 x5 x6 x7 : List (List TC)) (x8 y0 y1 : Int) (y2 y3 : Bool) (y4 y5 y6 y7 : List (List TC)) (y8 : Int) : laws_eqType_rc (i_laws_eqType := ⟨laws_eqType_O.n + 1⟩) x0 x1 x2 x3 x4 x5 x6 x7 x8 y0 y1 y2 y3 y4 y5 y6 y7 y8 = true → (laws_eqType_c x0 x1 x2 x3 x4 x5 x6 x7 x8 y0 y1 y2 y3 y4 y5 y6 y7 y8) = true ∧ (laws_eqType_v x0 x1 x2 x3 x4 x5 x6 x7 x8 y0 y1 y2 y3 y4 y5 y6 y7 y8) = (laws_eqType_rv x0 x1 x2 x3 x4 x5 x6 x7 x8 y0 y1 y2 y3 y4 y5 y6 y7 y8) := fun h => laws_eqType_nx x0 x1 x2 x3 x4 x5 x6 x7 x8 y0 y1 y2 y3 y4 y5 y6 y7 y8 h
theorem laws_eqType_rs : ∀ xs r, laws_eqType_rS (i_laws_eqType := ⟨laws_eqType_O.n + 1⟩) xs = some (true, r) → runF tab FT D65 live 14 noLoops xs = some r := by
  intro xs r h
  unfold laws_eqType_rS at h
  split at h
  · simp only [Option.some.injEq, Prod.mk.injEq] at h
    obtain ⟨h1, rfl⟩ := h
    have hx := laws_eqType_nxr _ _ _ _ _ _ _ _ _ _ _ _ _ _ _ _ _ _ h1
    have ht := fun_told (laws_eqType_e _ _ _ _ _ _ _ _ _ _ _ _ _ _ _ _ _ _) (laws_eqType_l _ _ _ _ _ _ _ _ _ _ _ _ _ _ _ _ _ _) hx.1
    rw [hx.2] at ht
    exact ht
  · cases h
theorem laws_eqType_step : laws_eqType_G (i_laws_eqType := ⟨laws_eqType_O.n + 1⟩) := by
  have h := DOk.also2 (S := laws_eqType_rS (i_laws_eqType := ⟨laws_eqType_O.n + 1⟩)) mixed_ok tab_ok names_ok d61 d65 noLoops_ok laws_eqType_rs
  refine laws_eqType_G.mk (i_laws_eqType := ⟨laws_eqType_O.n + 1⟩) ?_
  exact h
/-! the law -/
noncomputable def laws_FnExactBytesOf_t (x0 x1 : Int) (x2 x3 : Bool) (x4 x5 x6 x7 : List (List TC)) (x8 x9 : Int) : Tr Bool := (.ite ((laws_szType_rc x0 x1 x2 x3 x4 x5 x6 x7 x8 (1048576 : Int)) = true) (.ite ((decide ((laws_szType_rv x0 x1 x2 x3 x4 x5 x6 x7 x8 (1048576 : Int)) < (0 : Int))) = true) (.ok true)
   (.ite ((laws_toType_rc x0 x1 x2 x3 x4 x5 x6 x7 x8) = true) (.ite ((spec_BytesOf_c ((laws_toType_rv x0 x1 x2 x3 x4 x5 x6 x7 x8).1) ((laws_toType_rv x0 x1 x2 x3 x4 x5 x6 x7 x8).2.1) ((laws_toType_rv x0 x1 x2 x3 x4 x5 x6 x7 x8).2.2.1) ((laws_toType_rv x0 x1 x2 x3 x4 x5 x6 x7 x8).2.2.2.1) ((laws_toType_rv x0 x1 x2 x3 x4 x5 x6 x7 x8).2.2.2.2.1) ((laws_toType_rv x0 x1 x2 x3 x4 x5 x6 x7 x8).2.2.2.2.2.1) ((laws_toType_rv x0 x1 x2 x3 x4 x5 x6 x7 x8).2.2.2.2.2.2.1) ((laws_toType_rv x0 x1 x2 x3 x4 x5 x6 x7 x8).2.2.2.2.2.2.2.1) ((laws_toType_rv x0 x1 x2 x3 x4 x5 x6 x7 x8).2.2.2.2.2.2.2.2) x9) = true) (.ite ((laws_toType_rc x0 x1 x2 x3 x4 x5 x6 x7 x8) = true) (.ite ((impl_BytesOf_c ((laws_toType_rv x0 x1 x2 x3 x4 x5 x6 x7 x8).1) ((laws_toType_rv x0 x1 x2 x3 x4 x5 x6 x7 x8).2.1) ((laws_toType_rv x0 x1 x2 x3 x4 x5 x6 x7 x8).2.2.1) ((laws_toType_rv x0 x1 x2 x3 x4 x5 x6 x7 x8).2.2.2.1) ((laws_toType_rv x0 x1 x2 x3 x4 x5 x6 x7 x8).2.2.2.2.1) ((laws_toType_rv x0 x1 x2 x3 x4 x5 x6 x7 x8).2.2.2.2.2.1) ((laws_toType_rv x0 x1 x2 x3 x4 x5 x6 x7 x8).2.2.2.2.2.2.1) ((laws_toType_rv x0 x1 x2 x3 x4 x5 x6 x7 x8).2.2.2.2.2.2.2.1) ((laws_toType_rv x0 x1 x2 x3 x4 x5 x6 x7 x8).2.2.2.2.2.2.2.2) x9) = true) (.ite ((!((impl_BytesOf_v ((laws_toType_rv x0 x1 x2 x3 x4 x5 x6 x7 x8).1) ((laws_toType_rv x0 x1 x2 x3 x4 x5 x6 x7 x8).2.1) ((laws_toType_rv x0 x1 x2 x3 x4 x5 x6 x7 x8).2.2.1) ((laws_toType_rv x0 x1 x2 x3 x4 x5 x6 x7 x8).2.2.2.1) ((laws_toType_rv x0 x1 x2 x3 x4 x5 x6 x7 x8).2.2.2.2.1) ((laws_toType_rv x0 x1 x2 x3 x4 x5 x6 x7 x8).2.2.2.2.2.1) ((laws_toType_rv x0 x1 x2 x3 x4 x5 x6 x7 x8).2.2.2.2.2.2.1) ((laws_toType_rv x0 x1 x2 x3 x4 x5 x6 x7 x8).2.2.2.2.2.2.2.1) ((laws_toType_rv x0 x1 x2 x3 x4 x5 x6 x7 x8).2.2.2.2.2.2.2.2) x9).1 == (spec_BytesOf_v ((laws_toType_rv x0 x1 x2 x3 x4 x5 x6 x7 x8).1) ((laws_toType_rv x0 x1 x2 x3 x4 x5 x6 x7 x8).2.1) ((laws_toType_rv x0 x1 x2 x3 x4 x5 x6 x7 x8).2.2.1) ((laws_toType_rv x0 x1 x2 x3 x4 x5 x6 x7 x8).2.2.2.1) ((laws_toType_rv x0 x1 x2 x3 x4 x5 x6 x7 x8).2.2.2.2.1) ((laws_toType_rv x0 x1 x2 x3 x4 x5 x6 x7 x8).2.2.2.2.2.1) ((laws_toType_rv x0 x1 x2 x3 x4 x5 x6 x7 x8).2.2.2.2.2.2.1) ((laws_toType_rv x0 x1 x2 x3 x4 x5 x6 x7 x8).2.2.2.2.2.2.2.1) ((laws_toType_rv x0 x1 x2 x3 x4 x5 x6 x7 x8).2.2.2.2.2.2.2.2) x9).1)) = true) (.ok false)
        (.ite ((!((impl_BytesOf_v ((laws_toType_rv x0 x1 x2 x3 x4 x5 x6 x7 x8).1) ((laws_toType_rv x0 x1 x2 x3 x4 x5 x6 x7 x8).2.1) ((laws_toType_rv x0 x1 x2 x3 x4 x5 x6 x7 x8).2.2.1) ((laws_toType_rv x0 x1 x2 x3 x4 x5 x6 x7 x8).2.2.2.1) ((laws_toType_rv x0 x1 x2 x3 x4 x5 x6 x7 x8).2.2.2.2.1) ((laws_toType_rv x0 x1 x2 x3 x4 x5 x6 x7 x8).2.2.2.2.2.1) ((laws_toType_rv x0 x1 x2 x3 x4 x5 x6 x7 x8).2.2.2.2.2.2.1) ((laws_toType_rv x0 x1 x2 x3 x4 x5 x6 x7 x8).2.2.2.2.2.2.2.1) ((laws_toType_rv x0 x1 x2 x3 x4 x5 x6 x7 x8).2.2.2.2.2.2.2.2) x9).2 == (spec_BytesOf_v ((laws_toType_rv x0 x1 x2 x3 x4 x5 x6 x7 x8).1) ((laws_toType_rv x0 x1 x2 x3 x4 x5 x6 x7 x8).2.1) ((laws_toType_rv x0 x1 x2 x3 x4 x5 x6 x7 x8).2.2.1) ((laws_toType_rv x0 x1 x2 x3 x4 x5 x6 x7 x8).2.2.2.1) ((laws_toType_rv x0 x1 x2 x3 x4 x5 x6 x7 x8).2.2.2.2.1) ((laws_toType_rv x0 x1 x2 x3 x4 x5 x6 x7 x8).2.2.2.2.2.1) ((laws_toType_rv x0 x1 x2 x3 x4 x5 x6 x7 x8).2.2.2.2.2.2.1) ((laws_toType_rv x0 x1 x2 x3 x4 x5 x6 x7 x8).2.2.2.2.2.2.2.1) ((laws_toType_rv x0 x1 x2 x3 x4 x5 x6 x7 x8).2.2.2.2.2.2.2.2) x9).2)) = true) (.ok false)
         (.ite ((laws_toType_rc x0 x1 x2 x3 x4 x5 x6 x7 x8) = true) (.ite ((laws_eqType_rc ((laws_toType_rv x0 x1 x2 x3 x4 x5 x6 x7 x8).1) ((laws_toType_rv x0 x1 x2 x3 x4 x5 x6 x7 x8).2.1) ((laws_toType_rv x0 x1 x2 x3 x4 x5 x6 x7 x8).2.2.1) ((laws_toType_rv x0 x1 x2 x3 x4 x5 x6 x7 x8).2.2.2.1) ((laws_toType_rv x0 x1 x2 x3 x4 x5 x6 x7 x8).2.2.2.2.1) ((laws_toType_rv x0 x1 x2 x3 x4 x5 x6 x7 x8).2.2.2.2.2.1) ((laws_toType_rv x0 x1 x2 x3 x4 x5 x6 x7 x8).2.2.2.2.2.2.1) ((laws_toType_rv x0 x1 x2 x3 x4 x5 x6 x7 x8).2.2.2.2.2.2.2.1) ((laws_toType_rv x0 x1 x2 x3 x4 x5 x6 x7 x8).2.2.2.2.2.2.2.2) ((laws_toType_rv x0 x1 x2 x3 x4 x5 x6 x7 x8).1) ((laws_toType_rv x0 x1 x2 x3 x4 x5 x6 x7 x8).2.1) ((laws_toType_rv x0 x1 x2 x3 x4 x5 x6 x7 x8).2.2.1) ((laws_toType_rv x0 x1 x2 x3 x4 x5 x6 x7 x8).2.2.2.1) ((laws_toType_rv x0 x1 x2 x3 x4 x5 x6 x7 x8).2.2.2.2.1) ((laws_toType_rv x0 x1 x2 x3 x4 x5 x6 x7 x8).2.2.2.2.2.1) ((laws_toType_rv x0 x1 x2 x3 x4 x5 x6 x7 x8).2.2.2.2.2.2.1) ((laws_toType_rv x0 x1 x2 x3 x4 x5 x6 x7 x8).2.2.2.2.2.2.2.1) ((laws_toType_rv x0 x1 x2 x3 x4 x5 x6 x7 x8).2.2.2.2.2.2.2.2)) = true) (.ite ((!(laws_eqType_rv ((laws_toType_rv x0 x1 x2 x3 x4 x5 x6 x7 x8).1) ((laws_toType_rv x0 x1 x2 x3 x4 x5 x6 x7 x8).2.1) ((laws_toType_rv x0 x1 x2 x3 x4 x5 x6 x7 x8).2.2.1) ((laws_toType_rv x0 x1 x2 x3 x4 x5 x6 x7 x8).2.2.2.1) ((laws_toType_rv x0 x1 x2 x3 x4 x5 x6 x7 x8).2.2.2.2.1) ((laws_toType_rv x0 x1 x2 x3 x4 x5 x6 x7 x8).2.2.2.2.2.1) ((laws_toType_rv x0 x1 x2 x3 x4 x5 x6 x7 x8).2.2.2.2.2.2.1) ((laws_toType_rv x0 x1 x2 x3 x4 x5 x6 x7 x8).2.2.2.2.2.2.2.1) ((laws_toType_rv x0 x1 x2 x3 x4 x5 x6 x7 x8).2.2.2.2.2.2.2.2) ((laws_toType_rv x0 x1 x2 x3 x4 x5 x6 x7 x8).1) ((laws_toType_rv x0 x1 x2 x3 x4 x5 x6 x7 x8).2.1) ((laws_toType_rv x0 x1 x2 x3 x4 x5 x6 x7 x8).2.2.1) ((laws_toType_rv x0 x1 x2 x3 x4 x5 x6 x7 x8).2.2.2.1) ((laws_toType_rv x0 x1 x2 x3 x4 x5 x6 x7 x8).2.2.2.2.1) ((laws_toType_rv x0 x1 x2 x3 x4 x5 x6 x7 x8).2.2.2.2.2.1) ((laws_toType_rv x0 x1 x2 x3 x4 x5 x6 x7 x8).2.2.2.2.2.2.1) ((laws_toType_rv x0 x1 x2 x3 x4 x5 x6 x7 x8).2.2.2.2.2.2.2.1) ((laws_toType_rv x0 x1 x2 x3 x4 x5 x6 x7 x8).2.2.2.2.2.2.2.2))) = true) (.ok false)
            (.ok true))
           .no)
          .no)))
       .no)
      .no)
     .no)
    .no))
  .no)
theorem laws_FnExactBytesOf_e (x0 x1 : Int) (x2 x3 : Bool) (x4 x5 x6 x7 : List (List TC)) (x8 x9 : Int) : runF tab FT D65 live 5 noLoops [(true, [(.int .i64, TC.i x0), (.int .i64, TC.i x1), (.bool, TC.b x2), (.bool, TC.b x3), (.slice 9, TC.l x4), (.slice 2, TC.l x5), (.slice 73, TC.l x6), (.slice 27, TC.l x7), (.int .i64, TC.i x8)]), (false, [(.int .i64, TC.i x9)])] = (laws_FnExactBytesOf_t x0 x1 x2 x3 x4 x5 x6 x7 x8 x9).run fun p => some [(false, [⟨.bool, .sh, .b p⟩])] := by kernel_rfl
theorem tyArgsType {A B C E : List (List TC)} (a4 : Typed tab (.slice 9) (.l A)) (a5 : Typed tab (.slice 2) (.l B)) (a6 : Typed tab (.slice 73) (.l C)) (a7 : Typed tab (.slice 27) (.l E)) : Typed tab (.slice 9) (.l A) ∧ Typed tab (.slice 2) (.l B) ∧ Typed tab (.slice 77) (.l C) ∧ Typed tab (.slice 32) (.l E) :=
  ⟨typed_iso iso_ok a4 (by decide), typed_iso iso_ok a5 (by decide), typed_iso iso_ok a6 (by decide), typed_iso iso_ok a7 (by decide)⟩
theorem eqType_rv {x0 : Int} {x1 : Int} {x2 : Bool} {x3 : Bool} {x4 : List (List TC)} {x5 : List (List TC)} {x6 : List (List TC)} {x7 : List (List TC)} {x8 : Int} {y0 : Int} {y1 : Int} {y2 : Bool} {y3 : Bool} {y4 : List (List TC)} {y5 : List (List TC)} {y6 : List (List TC)} {y7 : List (List TC)} {y8 : Int} : ¬(!(laws_eqType_rv x0 x1 x2 x3 x4 x5 x6 x7 x8 y0 y1 y2 y3 y4 y5 y6 y7 y8)) = true := by
  show ¬(!true) = true
  decide
theorem laws_FnExactBytesOf_p (x0 x1 : Int) (x2 x3 : Bool) (x4 x5 x6 x7 : List (List TC)) (x8 x9 : Int) (h0 : Typed tab (.int .i64) (.i x0)) (h1 : Typed tab (.int .i64) (.i x1)) (h2 : Typed tab (.bool) (.b x2)) (h3 : Typed tab (.bool) (.b x3)) (h4 : Typed tab (.slice 9) (.l x4)) (h5 : Typed tab (.slice 2) (.l x5)) (h6 : Typed tab (.slice 73) (.l x6)) (h7 : Typed tab (.slice 27) (.l x7)) (h8 : Typed tab (.int .i64) (.i x8)) (h9 : Typed tab (.int .i64) (.i x9)) (NN : Nat) (eN : NN = rowsDep x4 + rowsDep x5 + rowsDep x6 + rowsDep x7 + 1) (r_laws_szType : ∀ (x0 x1 : Int) (x2 x3 : Bool) (x4 x5 x6 x7 : List (List TC)) (x8 x9 : Int), max (rowsDep x6) (rowsDep x7) < NN ∧ Typed tab (.slice 9) (.l x4) ∧ Typed tab (.slice 2) (.l x5) ∧ Typed tab (.slice 73) (.l x6) ∧ Typed tab (.slice 27) (.l x7) → (laws_szType_rc x0 x1 x2 x3 x4 x5 x6 x7 x8 x9) = true) (n_laws_toType : NN ≤ laws_toType_O.n) (n_spec_l02Size : NN ≤ spec_l02Size_O.n) (n_spec_l02Depth : NN ≤ spec_l02Depth_O.n) (n_spec_l02Ok : NN ≤ spec_l02Ok_O.n) (n_impl_Type_size : NN ≤ impl_Type_size_O.n) (n_impl_SameType : NN ≤ impl_SameType_O.n) (n_impl_Type_valid : NN ≤ impl_Type_valid_O.n) (n_impl_Type_bytes : NN ≤ impl_Type_bytes_O.n) (n_laws_eqType : NN ≤ laws_eqType_O.n) : (laws_FnExactBytesOf_t x0 x1 x2 x3 x4 x5 x6 x7 x8 x9).val = some true := by
  have t4_9 := laws_toStringS_ty h4
  have t5_2 := laws_toInt64S_ty h5
  have t6_77 := laws_toMemberS_ty h6
  have t7_32 := laws_toTypeS_ty h7
  obtain ⟨i4, i5, i6, i7⟩ := tyArgsType h4 h5 h6 h7
  have szc0 : okV x0 x1 x2 x3 x4 x5 x6 x7 x8 = true → spec_l02Size_rc x0 x1 x2 x3 x4 x5 x6 x7 x8 = true := fun h => is_true ⟨by omega, okV_size h⟩
  have dpc0 : okV x0 x1 x2 x3 x4 x5 x6 x7 x8 = true → spec_l02Depth_rc x0 x1 x2 x3 x4 x5 x6 x7 x8 = true := fun h => is_true ⟨by omega, okV_depth h, i6, i7⟩
  have okc0 : spec_l02Ok_rc x0 x1 x2 x3 x4 x5 x6 x7 x8 = true := is_true ⟨by omega, by omega, by omega, i4, i5, i6, i7⟩
  have isc0 : okV x0 x1 x2 x3 x4 x5 x6 x7 x8 = true → impl_Type_size_rc x0 x1 x2 x3 x4 x5 x6 x7 x8 = true := fun h => is_true ⟨by omega, (okV_isize h).2⟩
  have vac0 : impl_Type_valid_rc x0 x1 x2 x3 x4 x5 x6 x7 x8 3 = true := is_true ⟨by omega, by omega, by omega, by omega, i4, i5, i6, i7⟩
  have byc0 : ∀ n, okV x0 x1 x2 x3 x4 x5 x6 x7 x8 = true → numK x0 = true → impl_Type_bytes_rc x0 x1 x2 x3 x4 x5 x6 x7 x8 n = true := fun n h hn => is_true ⟨by omega, okV_numC h hn⟩
  unfold laws_FnExactBytesOf_t
  simp only [show laws_toType_rv x0 x1 x2 x3 x4 x5 x6 x7 x8 = (x0, x1, x2, x3, x4, x5, x6, x7, x8) from rfl]
  refine Tr.t (by first | (exact r_laws_szType _ _ _ _ _ _ _ _ _ _ ⟨by omega, h4, h5, h6, h7⟩)) ?_
  refine Tr.y ?_
  refine Tr.t (by first | (exact is_true ⟨by omega, h4, h5, h6, h7⟩)) ?_
  refine Tr.t (by first | (exact spec_BytesOf_cc okc0)) ?_
  refine Tr.t (by first | (exact is_true ⟨by omega, h4, h5, h6, h7⟩)) ?_
  refine Tr.t (by first | (exact impl_BytesOf_cc vac0 byc0)) ?_
  refine Tr.n (by first | (exact eqType_rv) | (rw [spec_BytesOf_vv, impl_BytesOf_vv]; simp)) ?_
  refine Tr.n (by first | (exact eqType_rv) | (rw [spec_BytesOf_vv, impl_BytesOf_vv]; simp)) ?_
  refine Tr.t (by first | (exact is_true ⟨by omega, h4, h5, h6, h7⟩)) ?_
  refine Tr.t (by first | (exact is_true ⟨by omega, rfl, rfl, rfl, rfl, rfl, rfl, rfl, rfl, rfl, i4, i5, i6, i7⟩)) ?_
  refine Tr.n (by first | (exact eqType_rv) | (rw [spec_BytesOf_vv, impl_BytesOf_vv]; simp)) ?_
  rfl
end
theorem laws_eqType_none : ∀ xs r, laws_eqType_rS (i_laws_eqType := ⟨0⟩) xs ≠ some (true, r) := by
  intro xs r h
  unfold laws_eqType_rS at h
  split at h
  · simp only [Option.some.injEq, Prod.mk.injEq] at h
    have h1 := is_iff.1 h.1
    exact absurd h1.1 (Nat.not_lt_zero _)
  · cases h
theorem laws_eqType_good : ∀ n : Nat, laws_eqType_G (i_laws_eqType := ⟨n⟩) := by
  intro n
  induction n with
  | zero => exact laws_eqType_G.mk (i_laws_eqType := ⟨0⟩) (DOk.also0 d61 laws_eqType_none)
  | succ n ih => exact laws_eqType_step (i_laws_eqType := ⟨n⟩) (g_laws_eqType := ih)
end
theorem impl_Type_bytes_none : ∀ xs r, impl_Type_bytes_rS (i_impl_Type_bytes := ⟨0⟩) xs ≠ some (true, r) := by
  intro xs r h
  unfold impl_Type_bytes_rS at h
  split at h
  · simp only [Option.some.injEq, Prod.mk.injEq] at h
    have h1 := is_iff.1 h.1
    exact absurd h1.1 (Nat.not_lt_zero _)
  · cases h
theorem impl_Type_bytes_good : ∀ n : Nat, impl_Type_bytes_G (i_impl_Type_bytes := ⟨n⟩) := by
  intro n
  induction n with
  | zero => exact impl_Type_bytes_G.mk (i_impl_Type_bytes := ⟨0⟩) (DOk.also0 d54 impl_Type_bytes_none)
  | succ n ih => exact impl_Type_bytes_step (i_impl_Type_bytes := ⟨n⟩) (g_impl_Type_bytes := ih)
end
theorem impl_Type_valid_none : ∀ xs r, impl_Type_valid_rS (i_impl_Type_valid := ⟨0⟩) xs ≠ some (true, r) := by
  intro xs r h
  unfold impl_Type_valid_rS at h
  split at h
  · simp only [Option.some.injEq, Prod.mk.injEq] at h
    have h1 := is_iff.1 h.1
    exact absurd h1.1 (Nat.not_lt_zero _)
  · cases h
theorem impl_Type_valid_good : ∀ n : Nat, impl_Type_valid_G (i_impl_Type_valid := ⟨n⟩) := by
  intro n
  induction n with
  | zero => exact impl_Type_valid_G.mk (i_impl_Type_valid := ⟨0⟩) (DOk.also0 d44 impl_Type_valid_none)
  | succ n ih => exact impl_Type_valid_step (i_impl_Type_valid := ⟨n⟩) (g_impl_Type_valid := ih)
end
theorem impl_SameType_none : ∀ xs r, impl_SameType_rS (i_impl_SameType := ⟨0⟩) xs ≠ some (true, r) := by
  intro xs r h
  unfold impl_SameType_rS at h
  split at h
  · simp only [Option.some.injEq, Prod.mk.injEq] at h
    have h1 := is_iff.1 h.1
    exact absurd h1.1 (Nat.not_lt_zero _)
  · cases h
theorem impl_SameType_good : ∀ n : Nat, impl_SameType_G (i_impl_SameType := ⟨n⟩) := by
  intro n
  induction n with
  | zero => exact impl_SameType_G.mk (i_impl_SameType := ⟨0⟩) (DOk.also0 d36 impl_SameType_none)
  | succ n ih => exact impl_SameType_step (i_impl_SameType := ⟨n⟩) (g_impl_SameType := ih)
end
theorem impl_Type_size_none : ∀ xs r, impl_Type_size_rS (i_impl_Type_size := ⟨0⟩) xs ≠ some (true, r) := by
  intro xs r h
  unfold impl_Type_size_rS at h
  split at h
  · simp only [Option.some.injEq, Prod.mk.injEq] at h
    have h1 := is_iff.1 h.1
    exact absurd h1.1 (Nat.not_lt_zero _)
  · cases h
theorem impl_Type_size_good : ∀ n : Nat, impl_Type_size_G (i_impl_Type_size := ⟨n⟩) := by
  intro n
  induction n with
  | zero => exact impl_Type_size_G.mk (i_impl_Type_size := ⟨0⟩) (DOk.also0 d32 impl_Type_size_none)
  | succ n ih => exact impl_Type_size_step (i_impl_Type_size := ⟨n⟩) (g_impl_Type_size := ih)
end
theorem spec_l02Ok_none : ∀ xs r, spec_l02Ok_rS (i_spec_l02Ok := ⟨0⟩) xs ≠ some (true, r) := by
  intro xs r h
  unfold spec_l02Ok_rS at h
  split at h
  · simp only [Option.some.injEq, Prod.mk.injEq] at h
    have h1 := is_iff.1 h.1
    exact absurd h1.1 (Nat.not_lt_zero _)
  · cases h
theorem spec_l02Ok_good : ∀ n : Nat, spec_l02Ok_G (i_spec_l02Ok := ⟨n⟩) := by
  intro n
  induction n with
  | zero => exact spec_l02Ok_G.mk (i_spec_l02Ok := ⟨0⟩) (DOk.also0 d23 spec_l02Ok_none)
  | succ n ih => exact spec_l02Ok_step (i_spec_l02Ok := ⟨n⟩) (g_spec_l02Ok := ih)
end
theorem spec_l02Depth_none : ∀ xs r, spec_l02Depth_rS (i_spec_l02Depth := ⟨0⟩) xs ≠ some (true, r) := by
  intro xs r h
  unfold spec_l02Depth_rS at h
  split at h
  · simp only [Option.some.injEq, Prod.mk.injEq] at h
    have h1 := is_iff.1 h.1
    exact absurd h1.1 (Nat.not_lt_zero _)
  · cases h
theorem spec_l02Depth_good : ∀ n : Nat, spec_l02Depth_G (i_spec_l02Depth := ⟨n⟩) := by
  intro n
  induction n with
  | zero => exact spec_l02Depth_G.mk (i_spec_l02Depth := ⟨0⟩) (DOk.also0 d13 spec_l02Depth_none)
  | succ n ih => exact spec_l02Depth_step (i_spec_l02Depth := ⟨n⟩) (g_spec_l02Depth := ih)
end
theorem spec_l02Size_none : ∀ xs r, spec_l02Size_rS (i_spec_l02Size := ⟨0⟩) xs ≠ some (true, r) := by
  intro xs r h
  unfold spec_l02Size_rS at h
  split at h
  · simp only [Option.some.injEq, Prod.mk.injEq] at h
    have h1 := is_iff.1 h.1
    exact absurd h1.1 (Nat.not_lt_zero _)
  · cases h
theorem spec_l02Size_good : ∀ n : Nat, spec_l02Size_G (i_spec_l02Size := ⟨n⟩) := by
  intro n
  induction n with
  | zero => exact spec_l02Size_G.mk (i_spec_l02Size := ⟨0⟩) (DOk.also0 d12 spec_l02Size_none)
  | succ n ih => exact spec_l02Size_step (i_spec_l02Size := ⟨n⟩) (g_spec_l02Size := ih)
end
theorem laws_toType_none : ∀ xs r, laws_toType_rS (i_laws_toType := ⟨0⟩) xs ≠ some (true, r) := by
  intro xs r h
  unfold laws_toType_rS at h
  split at h
  · simp only [Option.some.injEq, Prod.mk.injEq] at h
    have h1 := is_iff.1 h.1
    exact absurd h1.1 (Nat.not_lt_zero _)
  · cases h
theorem laws_toType_good : ∀ n : Nat, laws_toType_G (i_laws_toType := ⟨n⟩) := by
  intro n
  induction n with
  | zero => exact laws_toType_G.mk (i_laws_toType := ⟨0⟩) (DOk.also0 d8 laws_toType_none)
  | succ n ih => exact laws_toType_step (i_laws_toType := ⟨n⟩) (g_laws_toType := ih)
end
@[reducible] noncomputable def laws_szType_orc : Nat → laws_szType_O
  | 0 => ⟨fun _ _ _ _ _ _ _ _ _ _ => (false, default)⟩
  | n + 1 => ⟨laws_szType_next (i_laws_szType := laws_szType_orc n)⟩
theorem laws_szType_none : ∀ xs r, laws_szType_rS (i_laws_szType := laws_szType_orc 0) xs ≠ some (true, r) := by
  intro xs r h
  unfold laws_szType_rS at h
  split at h
  · simp only [Option.some.injEq, Prod.mk.injEq] at h
    exact absurd h.1 (by show ¬(false = true); simp)
  · cases h
theorem laws_szType_good : ∀ n, laws_szType_G (i_laws_szType := laws_szType_orc n) := by
  intro n
  induction n with
  | zero => exact laws_szType_G.mk (i_laws_szType := laws_szType_orc 0) (DOk.also0 d2 laws_szType_none)
  | succ n ih => exact laws_szType_step (i_laws_szType := laws_szType_orc n) (g_laws_szType := ih)
theorem laws_szType_hr : ∀ (n : Nat) (x0 x1 : Int) (x2 x3 : Bool) (x4 x5 x6 x7 : List (List TC)) (x8 x9 : Int), max (rowsDep x6) (rowsDep x7) < n ∧ Typed tab (.slice 9) (.l x4) ∧ Typed tab (.slice 2) (.l x5) ∧ Typed tab (.slice 73) (.l x6) ∧ Typed tab (.slice 27) (.l x7) → laws_szType_rc (i_laws_szType := laws_szType_orc n) x0 x1 x2 x3 x4 x5 x6 x7 x8 x9 = true := by
  intro n
  induction n with
  | zero => intro x0 x1 x2 x3 x4 x5 x6 x7 x8 x9 h; exact absurd h.1 (Nat.not_lt_zero _)
  | succ n ih =>
    intro x0 x1 x2 x3 x4 x5 x6 x7 x8 x9 h
    exact laws_szType_nx (i_laws_szType := laws_szType_orc n) (g_laws_szType := laws_szType_good n) n ih x0 x1 x2 x3 x4 x5 x6 x7 x8 x9 h
theorem laws_FnExactBytesOf_pure : ∀ xs, ArgsTyped tab [27, 2] xs → ∃ (D : Dt) (lo : LoopTeller), DOk Go.Proofs.Try.prog tab D ∧ FnLoops tab (fun f => Go.Proofs.Try.prog.funcs[f]?) D live 5 lo ∧ runF tab (fun f => Go.Proofs.Try.prog.funcs[f]?) D live 5 lo xs = yes := by
  intro xs h
  cases h with | cons l0 g0 h =>
  obtain ⟨z0_0, z0_1, z0_2, z0_3, z0_4, z0_5, z0_6, z0_7, z0_8, rfl⟩ := len_9 l0
  have q0 := g0 0 (by decide)
  have q0 : Typed tab (.int .i64) z0_0 := q0
  obtain ⟨y0, rfl⟩ := typed_int q0
  have q1 := g0 1 (by decide)
  have q1 : Typed tab (.int .i64) z0_1 := q1
  obtain ⟨y1, rfl⟩ := typed_int q1
  have q2 := g0 2 (by decide)
  have q2 : Typed tab (.bool) z0_2 := q2
  obtain ⟨y2, rfl⟩ := typed_bool q2
  have q3 := g0 3 (by decide)
  have q3 : Typed tab (.bool) z0_3 := q3
  obtain ⟨y3, rfl⟩ := typed_bool q3
  have q4 := g0 4 (by decide)
  have q4 : Typed tab (.slice 9) z0_4 := q4
  obtain ⟨y4, rfl⟩ := typed_slice q4
  have q5 := g0 5 (by decide)
  have q5 : Typed tab (.slice 2) z0_5 := q5
  obtain ⟨y5, rfl⟩ := typed_slice q5
  have q6 := g0 6 (by decide)
  have q6 : Typed tab (.slice 73) z0_6 := q6
  obtain ⟨y6, rfl⟩ := typed_slice q6
  have q7 := g0 7 (by decide)
  have q7 : Typed tab (.slice 27) z0_7 := q7
  obtain ⟨y7, rfl⟩ := typed_slice q7
  have q8 := g0 8 (by decide)
  have q8 : Typed tab (.int .i64) z0_8 := q8
  obtain ⟨y8, rfl⟩ := typed_int q8
  cases h with | cons l1 g1 h =>
  obtain ⟨z1_0, rfl⟩ := len_1 l1
  have q9 := g1 0 (by decide)
  have q9 : Typed tab (.int .i64) z1_0 := q9
  obtain ⟨y9, rfl⟩ := typed_int q9
  cases h
  letI i_laws_szType : laws_szType_O := laws_szType_orc (rowsDep y4 + rowsDep y5 + rowsDep y6 + rowsDep y7 + 1)
  letI g_laws_szType : laws_szType_G := laws_szType_good (rowsDep y4 + rowsDep y5 + rowsDep y6 + rowsDep y7 + 1)
  letI i_laws_toType : laws_toType_O := ⟨rowsDep y4 + rowsDep y5 + rowsDep y6 + rowsDep y7 + 1⟩
  letI g_laws_toType : laws_toType_G := laws_toType_good (rowsDep y4 + rowsDep y5 + rowsDep y6 + rowsDep y7 + 1)
  letI i_spec_l02Size : spec_l02Size_O := ⟨rowsDep y4 + rowsDep y5 + rowsDep y6 + rowsDep y7 + 1⟩
  letI g_spec_l02Size : spec_l02Size_G := spec_l02Size_good (rowsDep y4 + rowsDep y5 + rowsDep y6 + rowsDep y7 + 1)
  letI i_spec_l02Depth : spec_l02Depth_O := ⟨rowsDep y4 + rowsDep y5 + rowsDep y6 + rowsDep y7 + 1⟩
  letI g_spec_l02Depth : spec_l02Depth_G := spec_l02Depth_good (rowsDep y4 + rowsDep y5 + rowsDep y6 + rowsDep y7 + 1)
  letI i_spec_l02Ok : spec_l02Ok_O := ⟨rowsDep y4 + rowsDep y5 + rowsDep y6 + rowsDep y7 + 1⟩
  letI g_spec_l02Ok : spec_l02Ok_G := spec_l02Ok_good (rowsDep y4 + rowsDep y5 + rowsDep y6 + rowsDep y7 + 1)
  letI i_impl_Type_size : impl_Type_size_O := ⟨rowsDep y4 + rowsDep y5 + rowsDep y6 + rowsDep y7 + 1⟩
  letI g_impl_Type_size : impl_Type_size_G := impl_Type_size_good (rowsDep y4 + rowsDep y5 + rowsDep y6 + rowsDep y7 + 1)
  letI i_impl_SameType : impl_SameType_O := ⟨rowsDep y4 + rowsDep y5 + rowsDep y6 + rowsDep y7 + 1⟩
  letI g_impl_SameType : impl_SameType_G := impl_SameType_good (rowsDep y4 + rowsDep y5 + rowsDep y6 + rowsDep y7 + 1)
  letI i_impl_Type_valid : impl_Type_valid_O := ⟨rowsDep y4 + rowsDep y5 + rowsDep y6 + rowsDep y7 + 1⟩
  letI g_impl_Type_valid : impl_Type_valid_G := impl_Type_valid_good (rowsDep y4 + rowsDep y5 + rowsDep y6 + rowsDep y7 + 1)
  letI i_impl_Type_bytes : impl_Type_bytes_O := ⟨rowsDep y4 + rowsDep y5 + rowsDep y6 + rowsDep y7 + 1⟩
  letI g_impl_Type_bytes : impl_Type_bytes_G := impl_Type_bytes_good (rowsDep y4 + rowsDep y5 + rowsDep y6 + rowsDep y7 + 1)
  letI i_laws_eqType : laws_eqType_O := ⟨rowsDep y4 + rowsDep y5 + rowsDep y6 + rowsDep y7 + 1⟩
  letI g_laws_eqType : laws_eqType_G := laws_eqType_good (rowsDep y4 + rowsDep y5 + rowsDep y6 + rowsDep y7 + 1)
  refine ⟨D65, noLoops, d65, noLoops_ok, (laws_FnExactBytesOf_e y0 y1 y2 y3 y4 y5 y6 y7 y8 y9).trans ?_⟩
  rw [Tr.run_eq, laws_FnExactBytesOf_p y0 y1 y2 y3 y4 y5 y6 y7 y8 y9 q0 q1 q2 q3 q4 q5 q6 q7 q8 q9 (rowsDep y4 + rowsDep y5 + rowsDep y6 + rowsDep y7 + 1) rfl (laws_szType_hr (rowsDep y4 + rowsDep y5 + rowsDep y6 + rowsDep y7 + 1)) (Nat.le_refl _) (Nat.le_refl _) (Nat.le_refl _) (Nat.le_refl _) (Nat.le_refl _) (Nat.le_refl _) (Nat.le_refl _) (Nat.le_refl _) (Nat.le_refl _)]
  rfl
end Go.Proofs.Ytlggbfmpfhohjaa.V
