/- What the functions of FnExactClampNumber answer. No condition. -/
import Derived.Test.YtdcafhfnkblfkaaVFnExactClampNumberP3
namespace Go.Proofs.Ytdcafhfnkblfkaa.V
open Go
set_option maxRecDepth 100000
set_option linter.unusedVariables false
set_option linter.unusedSectionVars false
set_option linter.unusedSimpArgs false
set_option maxHeartbeats 2000000
section
variable [i_laws_szType : qba_O]
variable [g_laws_szType : qba_G]
section
variable [i_laws_toType : qj_O]
variable [g_laws_toType : qj_G]
section
variable [i_spec_l02Size : qn_O]
variable [g_spec_l02Size : qn_G]
section
variable [i_spec_l02Depth : qf_O]
variable [g_spec_l02Depth : qf_G]
section
variable [i_spec_l02Ok : qbf_O]
variable [g_spec_l02Ok : qbf_G]
section
variable [i_impl_Type_size : qx_O]
variable [g_impl_Type_size : qx_G]
section
variable [i_impl_SameType : qz_O]
variable [g_impl_SameType : qz_G]
section
variable [i_impl_Type_valid : qt_O]
variable [g_impl_Type_valid : qt_G]
noncomputable def qs_lo5 : List Slot → Option (Told (Ex × List Slot)) := fun s => match s with
  | [⟨.bx 32 [⟨.int .i64, .sh, TC.i k⟩, ⟨.int .i64, .sh, TC.i s⟩, ⟨.bool, .sh, TC.b sg⟩, ⟨.bool, .sh, TC.b bg⟩, ⟨.slice 9, .sh, TC.l NA⟩, ⟨.slice 2, .sh, TC.l NU⟩, ⟨.slice 71, .sh, TC.l ME⟩, ⟨.slice 32, .sh, TC.l BA⟩, ⟨.int .i64, .sh, TC.i ct⟩], ⟨0, 0⟩⟩, ⟨.val false [⟨.int .i64, .sh, TC.i lw⟩], ⟨0, 0⟩⟩, ⟨.val false [⟨.int .i64, .sh, TC.i hg⟩], ⟨0, 0⟩⟩, ⟨.val false [⟨.slice 2, .sh, TC.l X⟩], ⟨0, 0⟩⟩, ⟨.val false [⟨.int .i64, .sh, TC.i m⟩], ⟨0, 0⟩⟩, ⟨.val false [⟨.int .i64, .sh, TC.i i⟩], ⟨0, 0⟩⟩] => some (((qs_5_fin k s sg bg NA NU ME BA ct lw hg X m i)).map qs_5_out)
  | _ => .none
noncomputable def qs_lo : LoopTeller := fun r s => bif Nat.beq r 5 then qs_lo5 s else .none
theorem qs_5_r (k s : Int) (sg bg : Bool) (NA NU ME BA : LL) (ct lw hg : Int) (X : LL) (m i : Int) (fuel : Nat) : rounds (rnd tab FT D49 live 106 qs_lo 0 5) leave (fuel + 1) (qs_5_sl (k, s, sg, bg, NA, NU, ME, BA, ct, lw, hg, X, m, i)) = ((qs_5_step k s sg bg NA NU ME BA ct lw hg X m i)).run (goOn (fun s => rounds (rnd tab FT D49 live 106 qs_lo 0 5) leave fuel (qs_5_sl s)) fun w => some (qs_5_out w)) := by kernel_rfl
theorem qs_f5_eq (k s : Int) (sg bg : Bool) (NA NU ME BA : LL) (ct : Int) (lw hg : Int) (m i : Int) : qs_f5 k s sg bg NA NU ME BA ct lw hg NU m i = bif numP NU lw hg i then Sum.inl () else Sum.inr (Sum.inl (k, s, sg, bg, NA, NU, ME, BA, ct)) := by
  unfold qs_f5 numP ascB intAt
  rw [show qce_v (nth (row NU i) 0).int lw hg = inB (nth (row NU i) 0).int lw hg from rfl, show decide ((nth (row NU (IntKind.wrap .i64 (i - (1 : Int)))) 0).int ≥ (nth (row NU i) 0).int) = decide ((nth (row NU i) 0).int ≤ (nth (row NU (IntKind.wrap .i64 (i - (1 : Int)))) 0).int) from rfl]
  generalize inB (nth (row NU i) 0).int lw hg = p0, decide (i > 0) = p1, decide ((nth (row NU i) 0).int ≤ (nth (row NU (IntKind.wrap .i64 (i - (1 : Int)))) 0).int) = p2
  cases p0 <;> cases p1 <;> cases p2 <;> rfl
theorem qs_R5_eq (k s : Int) (sg bg : Bool) (NA NU ME BA : LL) (ct : Int) (lw hg : Int) (m : Int) : qs_R5 k s sg bg NA NU ME BA ct lw hg NU m 0 = bif allI (fun i : Nat => numP NU lw hg (i : Int)) NU.length then Sum.inr (k, s, sg, bg, NA, NU, ME, BA, ct) else Sum.inl (k, s, sg, bg, NA, NU, ME, BA, ct) := by
  unfold qs_R5
  exact (iter_all (P := fun i : Nat => numP NU lw hg (i : Int)) (g := fun _ a => a) (w := Sum.inl (k, s, sg, bg, NA, NU, ME, BA, ct)) fun j a _ => qs_f5_eq k s sg bg NA NU ME BA ct lw hg m _)
theorem qs_5_h (k s : Int) (sg bg : Bool) (NA NU ME BA : LL) (ct lw hg : Int) (X : LL) (m i : Int) (ow : qs_5_ω) : ((qs_5_fin k s sg bg NA NU ME BA ct lw hg X m i)).val = some ow → ∃ fuel, loopN qs_5_st fuel (k, s, sg, bg, NA, NU, ME, BA, ct, lw, hg, X, m, i) = some ow := by
  refine auto_const (R := (qs_R5 k s sg bg NA NU ME BA ct lw hg X m i)) rfl (iter_onR (f := (fun i a => (qs_f5 k s sg bg NA NU ME BA ct lw hg X m (i : Int)))) (fin := (fun a => (qs_e5 k s sg bg NA NU ME BA ct lw hg X m))) (Q := endsAs (k, s, sg, bg, NA, NU, ME, BA, ct) (k, s, sg, bg, NA, NU, ME, BA, ct)) (fun i a => by unfold qs_f5; exact (onR_bif rfl (onR_bif (onR_bif rfl trivial) trivial))) (fun _ => rfl) _ _ _) ?_
  intro ho
  have ho : is (i = 0 ∧ NU = X ∧ m = (NU.length : Int) ∧ NU.length ≤ 140737488351232) = true := ho.elim id id
  obtain ⟨rfl, rfl, rfl, hl⟩ := is_iff.1 ho
  skip
  refine ⟨(NU.length) + 1, ?_⟩
  refine iter_loop (step := qs_5_st) (NU.length) (fun i a => (qs_f5 k s sg bg NA NU ME BA ct lw hg NU (NU.length : Int) (i : Int))) (fun a => (qs_e5 k s sg bg NA NU ME BA ct lw hg NU (NU.length : Int))) (fun i a => (k, s, sg, bg, NA, NU, ME, BA, ct, lw, hg, NU, (NU.length : Int), (i : Int))) (fun _ _ => True) trivial (fun i a hi hI => ⟨?_, fun _ _ => trivial⟩) (fun a hI => ?_)
  · show (qs_5_step k s sg bg NA NU ME BA ct lw hg NU (NU.length : Int) (i : Int)).val = _
    unfold qs_5_step qs_f5
    skip
    refine Tr.t (by simp; omega) ?_
    exact (Tr.t (by first | omega | (constructor <;> omega) | (simp only [decide_eq_true_eq] at *; rw [wrap64 (by omega) (by omega)]; constructor <;> omega)) (Tr.bh (fun _ => rfl) (fun _ => (Tr.bh (fun _ => (Tr.t (by first | omega | (constructor <;> omega) | (simp only [decide_eq_true_eq] at *; rw [wrap64 (by omega) (by omega)]; constructor <;> omega)) (Tr.bh (fun _ => rfl) (fun _ => (by rw [Tr.val_ok, wrap64 (i := (i : Int) + 1) (by omega) (by omega)]; rfl))))) (fun _ => (by rw [Tr.val_ok, wrap64 (i := (i : Int) + 1) (by omega) (by omega)]; rfl))))))
  · show (qs_5_step k s sg bg NA NU ME BA ct lw hg NU (NU.length : Int) (NU.length : Int)).val = _
    refine Tr.n (by first | (simp; done) | (simp; omega) | omega) ?_
    rfl
theorem qs_is5 : LoopIs tab FT D49 live 106 qs_lo 0 5 := by
  refine loop_told (sl := qs_5_sl) (step := qs_5_st) (out := qs_5_out) (lor := qs_lo5) (fin := fun x => (qs_5_fin (x.1) (x.2.1) (x.2.2.1) (x.2.2.2.1) (x.2.2.2.2.1) (x.2.2.2.2.2.1) (x.2.2.2.2.2.2.1) (x.2.2.2.2.2.2.2.1) (x.2.2.2.2.2.2.2.2.1) (x.2.2.2.2.2.2.2.2.2.1) (x.2.2.2.2.2.2.2.2.2.2.1) (x.2.2.2.2.2.2.2.2.2.2.2.1) (x.2.2.2.2.2.2.2.2.2.2.2.2.1) (x.2.2.2.2.2.2.2.2.2.2.2.2.2))) (fun _ => rfl) ?_ (fun x n => qs_5_r x.1 x.2.1 x.2.2.1 x.2.2.2.1 x.2.2.2.2.1 x.2.2.2.2.2.1 x.2.2.2.2.2.2.1 x.2.2.2.2.2.2.2.1 x.2.2.2.2.2.2.2.2.1 x.2.2.2.2.2.2.2.2.2.1 x.2.2.2.2.2.2.2.2.2.2.1 x.2.2.2.2.2.2.2.2.2.2.2.1 x.2.2.2.2.2.2.2.2.2.2.2.2.1 x.2.2.2.2.2.2.2.2.2.2.2.2.2 n) (fun x ow => qs_5_h x.1 x.2.1 x.2.2.1 x.2.2.2.1 x.2.2.2.2.1 x.2.2.2.2.2.1 x.2.2.2.2.2.2.1 x.2.2.2.2.2.2.2.1 x.2.2.2.2.2.2.2.2.1 x.2.2.2.2.2.2.2.2.2.1 x.2.2.2.2.2.2.2.2.2.2.1 x.2.2.2.2.2.2.2.2.2.2.2.1 x.2.2.2.2.2.2.2.2.2.2.2.2.1 x.2.2.2.2.2.2.2.2.2.2.2.2.2 ow)
  intro s t h
  unfold qs_lo5 at h
  split at h
  · cases h; exact ⟨(_, _, _, _, _, _, _, _, _, _, _, _, _, _), rfl, rfl⟩
  · cases h
noncomputable def qs_t (k s : Int) (sg bg : Bool) (NA NU ME BA : LL) (ct : Int) : Tr (Bool) := (.ite ((!((BA.length : Int) == (1 : Int))) = true) (.ok false)
  (.ite ((0 : Int) ≤ (0 : Int) ∧ (0 : Int) < (BA.length : Int)) (.ite ((!((nth (row BA (0 : Int)) 0).int == (1 : Int))) = true) (.ok false)
    (.ite ((0 : Int) ≤ (0 : Int) ∧ (0 : Int) < (BA.length : Int)) (.ite ((qt_rc ((nth (row BA (0 : Int)) 0).int) ((nth (row BA (0 : Int)) 1).int) ((nth (row BA (0 : Int)) 2).bool) ((nth (row BA (0 : Int)) 3).bool) ((nth (row BA (0 : Int)) 4).list) ((nth (row BA (0 : Int)) 5).list) ((nth (row BA (0 : Int)) 6).list) ((nth (row BA (0 : Int)) 7).list) ((nth (row BA (0 : Int)) 8).int) (1 : Int)) = true) (.ite ((!(qt_rv ((nth (row BA (0 : Int)) 0).int) ((nth (row BA (0 : Int)) 1).int) ((nth (row BA (0 : Int)) 2).bool) ((nth (row BA (0 : Int)) 3).bool) ((nth (row BA (0 : Int)) 4).list) ((nth (row BA (0 : Int)) 5).list) ((nth (row BA (0 : Int)) 6).list) ((nth (row BA (0 : Int)) 7).list) ((nth (row BA (0 : Int)) 8).int) (1 : Int))) = true) (.ok false)
       (.ite ((0 : Int) ≤ (0 : Int) ∧ (0 : Int) < (BA.length : Int)) (.ite ((qbn_c ((nth (row BA (0 : Int)) 0).int) ((nth (row BA (0 : Int)) 1).int) ((nth (row BA (0 : Int)) 2).bool) ((nth (row BA (0 : Int)) 3).bool) ((nth (row BA (0 : Int)) 4).list) ((nth (row BA (0 : Int)) 5).list) ((nth (row BA (0 : Int)) 6).list) ((nth (row BA (0 : Int)) 7).list) ((nth (row BA (0 : Int)) 8).int)) = true) (.ite ((qs_k5_1 k s sg bg NA NU ME BA ct ((qbn_v ((nth (row BA (0 : Int)) 0).int) ((nth (row BA (0 : Int)) 1).int) ((nth (row BA (0 : Int)) 2).bool) ((nth (row BA (0 : Int)) 3).bool) ((nth (row BA (0 : Int)) 4).list) ((nth (row BA (0 : Int)) 5).list) ((nth (row BA (0 : Int)) 6).list) ((nth (row BA (0 : Int)) 7).list) ((nth (row BA (0 : Int)) 8).int)).1) ((qbn_v ((nth (row BA (0 : Int)) 0).int) ((nth (row BA (0 : Int)) 1).int) ((nth (row BA (0 : Int)) 2).bool) ((nth (row BA (0 : Int)) 3).bool) ((nth (row BA (0 : Int)) 4).list) ((nth (row BA (0 : Int)) 5).list) ((nth (row BA (0 : Int)) 6).list) ((nth (row BA (0 : Int)) 7).list) ((nth (row BA (0 : Int)) 8).int)).2) NU (NU.length : Int) (0 : Int)) = true) (.ite ((qs_o5_2 k s sg bg NA NU ME BA ct ((qbn_v ((nth (row BA (0 : Int)) 0).int) ((nth (row BA (0 : Int)) 1).int) ((nth (row BA (0 : Int)) 2).bool) ((nth (row BA (0 : Int)) 3).bool) ((nth (row BA (0 : Int)) 4).list) ((nth (row BA (0 : Int)) 5).list) ((nth (row BA (0 : Int)) 6).list) ((nth (row BA (0 : Int)) 7).list) ((nth (row BA (0 : Int)) 8).int)).1) ((qbn_v ((nth (row BA (0 : Int)) 0).int) ((nth (row BA (0 : Int)) 1).int) ((nth (row BA (0 : Int)) 2).bool) ((nth (row BA (0 : Int)) 3).bool) ((nth (row BA (0 : Int)) 4).list) ((nth (row BA (0 : Int)) 5).list) ((nth (row BA (0 : Int)) 6).list) ((nth (row BA (0 : Int)) 7).list) ((nth (row BA (0 : Int)) 8).int)).2) NU (NU.length : Int) (0 : Int)) = true) (.ok false)
           .no)
          (.ite ((qs_o5_3 k s sg bg NA NU ME BA ct ((qbn_v ((nth (row BA (0 : Int)) 0).int) ((nth (row BA (0 : Int)) 1).int) ((nth (row BA (0 : Int)) 2).bool) ((nth (row BA (0 : Int)) 3).bool) ((nth (row BA (0 : Int)) 4).list) ((nth (row BA (0 : Int)) 5).list) ((nth (row BA (0 : Int)) 6).list) ((nth (row BA (0 : Int)) 7).list) ((nth (row BA (0 : Int)) 8).int)).1) ((qbn_v ((nth (row BA (0 : Int)) 0).int) ((nth (row BA (0 : Int)) 1).int) ((nth (row BA (0 : Int)) 2).bool) ((nth (row BA (0 : Int)) 3).bool) ((nth (row BA (0 : Int)) 4).list) ((nth (row BA (0 : Int)) 5).list) ((nth (row BA (0 : Int)) 6).list) ((nth (row BA (0 : Int)) 7).list) ((nth (row BA (0 : Int)) 8).int)).2) NU (NU.length : Int) (0 : Int)) = true) (.ite ((qce_v (NU.length : Int) (1 : Int) (6 : Int)) = true) (.ite (((NA.length : Int) == (NU.length : Int)) = true) (.ite ((ql_c NA) = true) (.ok (ql_v NA))
              .no)
             (.ok false))
            (.ok false))
           .no))
         .no)
        .no))
      .no)
     .no))
   .no))
def qs_mk (p : Bool) : Res := [(false, [⟨.bool, .sh, TC.b p⟩])]
noncomputable def qs_c (k s : Int) (sg bg : Bool) (NA NU ME BA : LL) (ct : Int) : Bool := (bif (!((BA.length : Int) == (1 : Int))) then true else (is ((0 : Int) ≤ (0 : Int) ∧ (0 : Int) < (BA.length : Int)) && (bif (!((nth (row BA (0 : Int)) 0).int == (1 : Int))) then true else (is ((0 : Int) ≤ (0 : Int) ∧ (0 : Int) < (BA.length : Int)) && ((qt_rc ((nth (row BA (0 : Int)) 0).int) ((nth (row BA (0 : Int)) 1).int) ((nth (row BA (0 : Int)) 2).bool) ((nth (row BA (0 : Int)) 3).bool) ((nth (row BA (0 : Int)) 4).list) ((nth (row BA (0 : Int)) 5).list) ((nth (row BA (0 : Int)) 6).list) ((nth (row BA (0 : Int)) 7).list) ((nth (row BA (0 : Int)) 8).int) (1 : Int)) && (bif (!(qt_rv ((nth (row BA (0 : Int)) 0).int) ((nth (row BA (0 : Int)) 1).int) ((nth (row BA (0 : Int)) 2).bool) ((nth (row BA (0 : Int)) 3).bool) ((nth (row BA (0 : Int)) 4).list) ((nth (row BA (0 : Int)) 5).list) ((nth (row BA (0 : Int)) 6).list) ((nth (row BA (0 : Int)) 7).list) ((nth (row BA (0 : Int)) 8).int) (1 : Int))) then true else (is ((0 : Int) ≤ (0 : Int) ∧ (0 : Int) < (BA.length : Int)) && ((qbn_c ((nth (row BA (0 : Int)) 0).int) ((nth (row BA (0 : Int)) 1).int) ((nth (row BA (0 : Int)) 2).bool) ((nth (row BA (0 : Int)) 3).bool) ((nth (row BA (0 : Int)) 4).list) ((nth (row BA (0 : Int)) 5).list) ((nth (row BA (0 : Int)) 6).list) ((nth (row BA (0 : Int)) 7).list) ((nth (row BA (0 : Int)) 8).int)) && (bif (qs_k5_1 k s sg bg NA NU ME BA ct ((qbn_v ((nth (row BA (0 : Int)) 0).int) ((nth (row BA (0 : Int)) 1).int) ((nth (row BA (0 : Int)) 2).bool) ((nth (row BA (0 : Int)) 3).bool) ((nth (row BA (0 : Int)) 4).list) ((nth (row BA (0 : Int)) 5).list) ((nth (row BA (0 : Int)) 6).list) ((nth (row BA (0 : Int)) 7).list) ((nth (row BA (0 : Int)) 8).int)).1) ((qbn_v ((nth (row BA (0 : Int)) 0).int) ((nth (row BA (0 : Int)) 1).int) ((nth (row BA (0 : Int)) 2).bool) ((nth (row BA (0 : Int)) 3).bool) ((nth (row BA (0 : Int)) 4).list) ((nth (row BA (0 : Int)) 5).list) ((nth (row BA (0 : Int)) 6).list) ((nth (row BA (0 : Int)) 7).list) ((nth (row BA (0 : Int)) 8).int)).2) NU (NU.length : Int) (0 : Int)) then ((qs_o5_2 k s sg bg NA NU ME BA ct ((qbn_v ((nth (row BA (0 : Int)) 0).int) ((nth (row BA (0 : Int)) 1).int) ((nth (row BA (0 : Int)) 2).bool) ((nth (row BA (0 : Int)) 3).bool) ((nth (row BA (0 : Int)) 4).list) ((nth (row BA (0 : Int)) 5).list) ((nth (row BA (0 : Int)) 6).list) ((nth (row BA (0 : Int)) 7).list) ((nth (row BA (0 : Int)) 8).int)).1) ((qbn_v ((nth (row BA (0 : Int)) 0).int) ((nth (row BA (0 : Int)) 1).int) ((nth (row BA (0 : Int)) 2).bool) ((nth (row BA (0 : Int)) 3).bool) ((nth (row BA (0 : Int)) 4).list) ((nth (row BA (0 : Int)) 5).list) ((nth (row BA (0 : Int)) 6).list) ((nth (row BA (0 : Int)) 7).list) ((nth (row BA (0 : Int)) 8).int)).2) NU (NU.length : Int) (0 : Int)) && true) else ((qs_o5_3 k s sg bg NA NU ME BA ct ((qbn_v ((nth (row BA (0 : Int)) 0).int) ((nth (row BA (0 : Int)) 1).int) ((nth (row BA (0 : Int)) 2).bool) ((nth (row BA (0 : Int)) 3).bool) ((nth (row BA (0 : Int)) 4).list) ((nth (row BA (0 : Int)) 5).list) ((nth (row BA (0 : Int)) 6).list) ((nth (row BA (0 : Int)) 7).list) ((nth (row BA (0 : Int)) 8).int)).1) ((qbn_v ((nth (row BA (0 : Int)) 0).int) ((nth (row BA (0 : Int)) 1).int) ((nth (row BA (0 : Int)) 2).bool) ((nth (row BA (0 : Int)) 3).bool) ((nth (row BA (0 : Int)) 4).list) ((nth (row BA (0 : Int)) 5).list) ((nth (row BA (0 : Int)) 6).list) ((nth (row BA (0 : Int)) 7).list) ((nth (row BA (0 : Int)) 8).int)).2) NU (NU.length : Int) (0 : Int)) && (bif (qce_v (NU.length : Int) (1 : Int) (6 : Int)) then (bif ((NA.length : Int) == (NU.length : Int)) then ((ql_c NA) && true) else true) else true)))))))))))
noncomputable def qs_v (k s : Int) (sg bg : Bool) (NA NU ME BA : LL) (ct : Int) : Bool := (bif (!((BA.length : Int) == (1 : Int))) then false else (bif (!((nth (row BA (0 : Int)) 0).int == (1 : Int))) then false else (bif (!(qt_rv ((nth (row BA (0 : Int)) 0).int) ((nth (row BA (0 : Int)) 1).int) ((nth (row BA (0 : Int)) 2).bool) ((nth (row BA (0 : Int)) 3).bool) ((nth (row BA (0 : Int)) 4).list) ((nth (row BA (0 : Int)) 5).list) ((nth (row BA (0 : Int)) 6).list) ((nth (row BA (0 : Int)) 7).list) ((nth (row BA (0 : Int)) 8).int) (1 : Int))) then false else (bif (qs_k5_1 k s sg bg NA NU ME BA ct ((qbn_v ((nth (row BA (0 : Int)) 0).int) ((nth (row BA (0 : Int)) 1).int) ((nth (row BA (0 : Int)) 2).bool) ((nth (row BA (0 : Int)) 3).bool) ((nth (row BA (0 : Int)) 4).list) ((nth (row BA (0 : Int)) 5).list) ((nth (row BA (0 : Int)) 6).list) ((nth (row BA (0 : Int)) 7).list) ((nth (row BA (0 : Int)) 8).int)).1) ((qbn_v ((nth (row BA (0 : Int)) 0).int) ((nth (row BA (0 : Int)) 1).int) ((nth (row BA (0 : Int)) 2).bool) ((nth (row BA (0 : Int)) 3).bool) ((nth (row BA (0 : Int)) 4).list) ((nth (row BA (0 : Int)) 5).list) ((nth (row BA (0 : Int)) 6).list) ((nth (row BA (0 : Int)) 7).list) ((nth (row BA (0 : Int)) 8).int)).2) NU (NU.length : Int) (0 : Int)) then false else (bif (qce_v (NU.length : Int) (1 : Int) (6 : Int)) then (bif ((NA.length : Int) == (NU.length : Int)) then (ql_v NA) else false) else false)))))
theorem qs_l (k s : Int) (sg bg : Bool) (NA NU ME BA : LL) (ct : Int) : (qs_c k s sg bg NA NU ME BA ct) = true → (qs_t k s sg bg NA NU ME BA ct).val = some (qs_v k s sg bg NA NU ME BA ct) := by
  unfold qs_t qs_v qs_c
  exact fun h => (Tr.ss h (fun h => rfl) (fun h => (Tr.gs h fun h => (Tr.ss h (fun h => rfl) (fun h => (Tr.gs h fun h => (Tr.gb h fun h => (Tr.ss h (fun h => rfl) (fun h => (Tr.gs h fun h => (Tr.gb h fun h => (Tr.ss h (fun h => (Tr.gb h fun h => rfl)) (fun h => (Tr.gb h fun h => (Tr.ss h (fun h => (Tr.ss h (fun h => (Tr.gb h fun h => rfl)) (fun h => rfl))) (fun h => rfl))))))))))))))))
noncomputable def qs_S : List Arg → Option (Bool × Res) := fun xs => match xs with
  | [(true, [(.int .i64, TC.i k), (.int .i64, TC.i s), (.bool, TC.b sg), (.bool, TC.b bg), (.slice 9, TC.l NA), (.slice 2, TC.l NU), (.slice 71, TC.l ME), (.slice 32, TC.l BA), (.int .i64, TC.i ct)])] => some ((qs_c k s sg bg NA NU ME BA ct), qs_mk (qs_v k s sg bg NA NU ME BA ct))
  | _ => .none
theorem qs_e (k s : Int) (sg bg : Bool) (NA NU ME BA : LL) (ct : Int) : runF tab FT D49 live 106 qs_lo [(true, [(.int .i64, TC.i k), (.int .i64, TC.i s), (.bool, TC.b sg), (.bool, TC.b bg), (.slice 9, TC.l NA), (.slice 2, TC.l NU), (.slice 71, TC.l ME), (.slice 32, TC.l BA), (.int .i64, TC.i ct)])] = (qs_t k s sg bg NA NU ME BA ct).run fun p => some (qs_mk p) := by kernel_rfl
theorem qs_s : ∀ xs r, qs_S xs = some (true, r) → runF tab FT D49 live 106 qs_lo xs = some r := by
  intro xs r h
  unfold qs_S at h
  split at h
  · simp only [Option.some.injEq, Prod.mk.injEq] at h
    obtain ⟨h1, rfl⟩ := h
    exact fun_told (qs_e _ _ _ _ _ _ _ _ _) (qs_l _ _ _ _ _ _ _ _ _) h1
  · cases h
noncomputable def D50 : Dt := also D49 106 qs_S
theorem d50 : DOk Go.Proofs.Try.prog tab D50 := d49.also mixed_ok tab_ok names_ok (fnLoops_one (by kernel_rfl) qs_is5) qs_s
theorem int_of_valid {k s : Int} {sg bg : Bool} {NA NU ME BA : LL} {ct : Int} (hk : k = 1) (h : qt_rv k s sg bg NA NU ME BA ct 1 = true) : intV s sg bg NA NU ME BA ct = true := by
  subst hk
  have h : (okV 1 s sg bg NA NU ME BA ct && decide (depthV 1 ME BA ≤ 1)) = true := h
  rw [okV_1] at h
  simp only [Bool.and_eq_true] at h
  exact h.1.1
theorem qs_cc {k : Int} {s : Int} {sg : Bool} {bg : Bool} {NA : LL} {NU : LL} {ME : LL} {BA : LL} {ct : Int} (hb : 0 < BA.length → qt_rc (nth (row BA (0 : Int)) 0).int (nth (row BA (0 : Int)) 1).int (nth (row BA (0 : Int)) 2).bool (nth (row BA (0 : Int)) 3).bool (nth (row BA (0 : Int)) 4).list (nth (row BA (0 : Int)) 5).list (nth (row BA (0 : Int)) 6).list (nth (row BA (0 : Int)) 7).list (nth (row BA (0 : Int)) 8).int 1 = true) (t4 : Typed tab (.slice 9) (.l NA)) (hl : NU.length ≤ 140737488351232) : (qs_c k s sg bg NA NU ME BA ct) = true := by
  unfold qs_c
  refine bifT (fun b1 => ?_) (fun b1 => ?_)
  · skip
    rfl
  · skip
    refine andT (is_true (by have e1 := bneF b1; omega)) ?_
    refine bifT (fun b2 => ?_) (fun b2 => ?_)
    · skip
      rfl
    · skip
      refine andT (is_true (by have e1 := bneF b1; omega)) ?_
      refine andT (by have e1 := bneF b1; exact hb (by omega)) ?_
      refine bifT (fun b3 => ?_) (fun b3 => ?_)
      · skip
        rfl
      · skip
        refine andT (is_true (by have e1 := bneF b1; omega)) ?_
        refine andT (by have e2 := bneF b2; exact (irange (int_of_valid e2 (by simpa using b3))).1) ?_
        refine bifT (fun b4 => ?_) (fun b4 => ?_)
        · skip
          refine andT (by exact is_true ⟨rfl, rfl, rfl, hl⟩) ?_
          rfl
        · skip
          refine andT (by exact is_true ⟨rfl, rfl, rfl, hl⟩) ?_
          refine bifT (fun b5 => ?_) (fun b5 => ?_)
          · skip
            refine bifT (fun b6 => ?_) (fun b6 => ?_)
            · skip
              refine andT (by exact ql_cc t4) ?_
              rfl
            · skip
              rfl
          · skip
            rfl
theorem qs_vv (k s : Int) (sg bg : Bool) (NA NU ME BA : LL) (ct : Int) : qs_v k s sg bg NA NU ME BA ct = (((BA.length : Int) == 1) && (((nth (row BA (0 : Int)) 0).int == 1) && (validV (nth (row BA (0 : Int)) 0).int (nth (row BA (0 : Int)) 1).int (nth (row BA (0 : Int)) 2).bool (nth (row BA (0 : Int)) 3).bool (nth (row BA (0 : Int)) 4).list (nth (row BA (0 : Int)) 5).list (nth (row BA (0 : Int)) 6).list (nth (row BA (0 : Int)) 7).list (nth (row BA (0 : Int)) 8).int 1 && (allI (fun i : Nat => numP NU (loV (nth (row BA (0 : Int)) 1).int (nth (row BA (0 : Int)) 2).bool) (hiV (nth (row BA (0 : Int)) 1).int (nth (row BA (0 : Int)) 2).bool) (i : Int)) NU.length && (inB (NU.length : Int) 1 6 && (((NA.length : Int) == (NU.length : Int)) && allI (fun i : Nat => dnP NA (i : Int)) NA.length)))))) := by
  unfold qs_v
  rw [show ∀ lw hg m, qs_k5_1 k s sg bg NA NU ME BA ct lw hg NU m 0 = !(allI (fun i : Nat => numP NU lw hg (i : Int)) NU.length) from fun lw hg m => by unfold qs_k5_1; rw [qs_R5_eq]; cases allI (fun i : Nat => numP NU lw hg (i : Int)) NU.length <;> rfl]
  rw [ql_vv, show qce_v (NU.length : Int) 1 6 = inB (NU.length : Int) 1 6 from rfl, show qt_rv (nth (row BA (0 : Int)) 0).int (nth (row BA (0 : Int)) 1).int (nth (row BA (0 : Int)) 2).bool (nth (row BA (0 : Int)) 3).bool (nth (row BA (0 : Int)) 4).list (nth (row BA (0 : Int)) 5).list (nth (row BA (0 : Int)) 6).list (nth (row BA (0 : Int)) 7).list (nth (row BA (0 : Int)) 8).int 1 = validV (nth (row BA (0 : Int)) 0).int (nth (row BA (0 : Int)) 1).int (nth (row BA (0 : Int)) 2).bool (nth (row BA (0 : Int)) 3).bool (nth (row BA (0 : Int)) 4).list (nth (row BA (0 : Int)) 5).list (nth (row BA (0 : Int)) 6).list (nth (row BA (0 : Int)) 7).list (nth (row BA (0 : Int)) 8).int 1 from rfl]
  simp only [bif_nf, bif_tf, bif_ft, Bool.not_not]
  cases h1 : ((nth (row BA (0 : Int)) 0).int == 1) with
  | false => simp only [Bool.false_and, Bool.and_false]
  | true =>
    cases h2 : validV (nth (row BA (0 : Int)) 0).int (nth (row BA (0 : Int)) 1).int (nth (row BA (0 : Int)) 2).bool (nth (row BA (0 : Int)) 3).bool (nth (row BA (0 : Int)) 4).list (nth (row BA (0 : Int)) 5).list (nth (row BA (0 : Int)) 6).list (nth (row BA (0 : Int)) 7).list (nth (row BA (0 : Int)) 8).int 1 with
    | false => simp only [Bool.false_and, Bool.and_false]
    | true =>
      obtain ⟨-, h3, h4⟩ := irange (k := (nth (row BA (0 : Int)) 0).int) (int_of_valid (beq_iff_eq.1 h1) h2)
      rw [h3, h4]
noncomputable def qd_f6 (d k s : Int) (sg bg : Bool) (NA NU ME BA : LL) (ct : Int) (X : LL) (m i en : Int) (NM : LL) : (Int × LL) ⊕ ((Int × Int × Bool × Bool × LL × LL × LL × LL × Int × Int × LL) ⊕ (Int × Int × Bool × Bool × LL × LL × LL × LL × Int × Int × LL)) := (bif (!(qt_rv ((nth (row X i) 2).int) ((nth (row X i) 3).int) ((nth (row X i) 4).bool) ((nth (row X i) 5).bool) ((nth (row X i) 6).list) ((nth (row X i) 7).list) ((nth (row X i) 8).list) ((nth (row X i) 9).list) ((nth (row X i) 10).int) d)) then (.inr (.inl (k, s, sg, bg, NA, NU, ME, BA, ct, en, NM))) else (bif (decide ((nth (row X i) 1).int < en)) then (.inr (.inl (k, s, sg, bg, NA, NU, ME, BA, ct, en, NM))) else (bif (decide ((nth (row X i) 1).int > (24 : Int))) then (.inr (.inl (k, s, sg, bg, NA, NU, ME, BA, ct, en, NM))) else (.inl ((IntKind.wrap .i64 ((nth (row X i) 1).int + (qx_rv ((nth (row X i) 2).int) ((nth (row X i) 3).int) ((nth (row X i) 4).bool) ((nth (row X i) 5).bool) ((nth (row X i) 6).list) ((nth (row X i) 7).list) ((nth (row X i) 8).list) ((nth (row X i) 9).list) ((nth (row X i) 10).int)))), (NM ++ [[TC.s ((nth (row X i) 0).str)]]))))))
noncomputable def qd_e6 (d k s : Int) (sg bg : Bool) (NA NU ME BA : LL) (ct : Int) (X : LL) (m en : Int) (NM : LL) : (Int × Int × Bool × Bool × LL × LL × LL × LL × Int × Int × LL) ⊕ (Int × Int × Bool × Bool × LL × LL × LL × LL × Int × Int × LL) := .inr (k, s, sg, bg, NA, NU, ME, BA, ct, en, NM)
noncomputable def qd_R6 (d k s : Int) (sg bg : Bool) (NA NU ME BA : LL) (ct en : Int) (NM X : LL) (m i : Int) : (Int × Int × Bool × Bool × LL × LL × LL × LL × Int × Int × LL) ⊕ (Int × Int × Bool × Bool × LL × LL × LL × LL × Int × Int × LL) := iter (fun i a => (qd_f6 d k s sg bg NA NU ME BA ct X m (i : Int) (a.1) (a.2))) (fun a => (qd_e6 d k s sg bg NA NU ME BA ct X m (a.1) (a.2))) (ME.length) 0 (en, NM)
abbrev qd_6_σ := Int × Int × Int × Bool × Bool × LL × LL × LL × LL × Int × Int × LL × LL × Int × Int
abbrev qd_6_ω := (Int × Int × Bool × Bool × LL × LL × LL × LL × Int × Int × LL) ⊕ (Int × Int × Bool × Bool × LL × LL × LL × LL × Int × Int × LL)
noncomputable def qd_6_step (d k s : Int) (sg bg : Bool) (NA NU ME BA : LL) (ct en : Int) (NM X : LL) (m i : Int) : Tr (qd_6_σ ⊕ qd_6_ω) := (.ite ((decide (i < m)) = true) (.ite ((0 : Int) ≤ i ∧ i < (X.length : Int)) (.ite ((qt_rc ((nth (row X i) 2).int) ((nth (row X i) 3).int) ((nth (row X i) 4).bool) ((nth (row X i) 5).bool) ((nth (row X i) 6).list) ((nth (row X i) 7).list) ((nth (row X i) 8).list) ((nth (row X i) 9).list) ((nth (row X i) 10).int) d) = true) (.ite ((!(qt_rv ((nth (row X i) 2).int) ((nth (row X i) 3).int) ((nth (row X i) 4).bool) ((nth (row X i) 5).bool) ((nth (row X i) 6).list) ((nth (row X i) 7).list) ((nth (row X i) 8).list) ((nth (row X i) 9).list) ((nth (row X i) 10).int) d)) = true) (.ok (.inr (.inl (k, s, sg, bg, NA, NU, ME, BA, ct, en, NM))))
     (.ite ((decide ((nth (row X i) 1).int < en)) = true) (.ok (.inr (.inl (k, s, sg, bg, NA, NU, ME, BA, ct, en, NM))))
      (.ite ((decide ((nth (row X i) 1).int > (24 : Int))) = true) (.ok (.inr (.inl (k, s, sg, bg, NA, NU, ME, BA, ct, en, NM))))
       (.ite ((qx_rc ((nth (row X i) 2).int) ((nth (row X i) 3).int) ((nth (row X i) 4).bool) ((nth (row X i) 5).bool) ((nth (row X i) 6).list) ((nth (row X i) 7).list) ((nth (row X i) 8).list) ((nth (row X i) 9).list) ((nth (row X i) 10).int)) = true) (.ite (roomFor (tab 9) (NM ++ [[TC.s ((nth (row X i) 0).str)]]).length) (.ok (.inl (d, k, s, sg, bg, NA, NU, ME, BA, ct, (IntKind.wrap .i64 ((nth (row X i) 1).int + (qx_rv ((nth (row X i) 2).int) ((nth (row X i) 3).int) ((nth (row X i) 4).bool) ((nth (row X i) 5).bool) ((nth (row X i) 6).list) ((nth (row X i) 7).list) ((nth (row X i) 8).list) ((nth (row X i) 9).list) ((nth (row X i) 10).int)))), (NM ++ [[TC.s ((nth (row X i) 0).str)]]), X, m, (IntKind.wrap .i64 (i + (1 : Int))))))
         .no)
        .no))))
    .no)
   .no)
  (.ok (.inr (.inr (k, s, sg, bg, NA, NU, ME, BA, ct, en, NM)))))
noncomputable def qd_6_st : qd_6_σ → Tr (qd_6_σ ⊕ qd_6_ω) := fun x => (qd_6_step (x.1) (x.2.1) (x.2.2.1) (x.2.2.2.1) (x.2.2.2.2.1) (x.2.2.2.2.2.1) (x.2.2.2.2.2.2.1) (x.2.2.2.2.2.2.2.1) (x.2.2.2.2.2.2.2.2.1) (x.2.2.2.2.2.2.2.2.2.1) (x.2.2.2.2.2.2.2.2.2.2.1) (x.2.2.2.2.2.2.2.2.2.2.2.1) (x.2.2.2.2.2.2.2.2.2.2.2.2.1) (x.2.2.2.2.2.2.2.2.2.2.2.2.2.1) (x.2.2.2.2.2.2.2.2.2.2.2.2.2.2))
noncomputable def qd_k6_1 (d k s : Int) (sg bg : Bool) (NA NU ME BA : LL) (ct en : Int) (NM X : LL) (m i : Int) : Bool := sumIs (qd_R6 d k s sg bg NA NU ME BA ct en NM X m i)
noncomputable def qd_o6_2 (d k s : Int) (sg bg : Bool) (NA NU ME BA : LL) (ct en : Int) (NM X : LL) (m i : Int) : Bool := is (i = 0 ∧ ME = X ∧ m = (ME.length : Int) ∧ en = 0 ∧ NM = [] ∧ Typed tab (.slice 71) (.l ME) ∧ (∀ x : List TC, x ∈ ME → qt_rc (nth x 2).int (nth x 3).int (nth x 4).bool (nth x 5).bool (nth x 6).list (nth x 7).list (nth x 8).list (nth x 9).list (nth x 10).int d = true) ∧ (∀ x : List TC, x ∈ ME → (!(qt_rv (nth x 2).int (nth x 3).int (nth x 4).bool (nth x 5).bool (nth x 6).list (nth x 7).list (nth x 8).list (nth x 9).list (nth x 10).int d)) = false → qx_rc (nth x 2).int (nth x 3).int (nth x 4).bool (nth x 5).bool (nth x 6).list (nth x 7).list (nth x 8).list (nth x 9).list (nth x 10).int = true))
noncomputable def qd_u6_2_0 (d k s : Int) (sg bg : Bool) (NA NU ME BA : LL) (ct en : Int) (NM X : LL) (m i : Int) : Int := (sumL (qd_R6 d k s sg bg NA NU ME BA ct en NM X m i)).1
noncomputable def qd_u6_2_1 (d k s : Int) (sg bg : Bool) (NA NU ME BA : LL) (ct en : Int) (NM X : LL) (m i : Int) : Int := (sumL (qd_R6 d k s sg bg NA NU ME BA ct en NM X m i)).2.1
noncomputable def qd_u6_2_2 (d k s : Int) (sg bg : Bool) (NA NU ME BA : LL) (ct en : Int) (NM X : LL) (m i : Int) : Bool := (sumL (qd_R6 d k s sg bg NA NU ME BA ct en NM X m i)).2.2.1
noncomputable def qd_u6_2_3 (d k s : Int) (sg bg : Bool) (NA NU ME BA : LL) (ct en : Int) (NM X : LL) (m i : Int) : Bool := (sumL (qd_R6 d k s sg bg NA NU ME BA ct en NM X m i)).2.2.2.1
noncomputable def qd_u6_2_4 (d k s : Int) (sg bg : Bool) (NA NU ME BA : LL) (ct en : Int) (NM X : LL) (m i : Int) : LL := (sumL (qd_R6 d k s sg bg NA NU ME BA ct en NM X m i)).2.2.2.2.1
noncomputable def qd_u6_2_5 (d k s : Int) (sg bg : Bool) (NA NU ME BA : LL) (ct en : Int) (NM X : LL) (m i : Int) : LL := (sumL (qd_R6 d k s sg bg NA NU ME BA ct en NM X m i)).2.2.2.2.2.1
noncomputable def qd_u6_2_6 (d k s : Int) (sg bg : Bool) (NA NU ME BA : LL) (ct en : Int) (NM X : LL) (m i : Int) : LL := (sumL (qd_R6 d k s sg bg NA NU ME BA ct en NM X m i)).2.2.2.2.2.2.1
noncomputable def qd_u6_2_7 (d k s : Int) (sg bg : Bool) (NA NU ME BA : LL) (ct en : Int) (NM X : LL) (m i : Int) : LL := (sumL (qd_R6 d k s sg bg NA NU ME BA ct en NM X m i)).2.2.2.2.2.2.2.1
noncomputable def qd_u6_2_8 (d k s : Int) (sg bg : Bool) (NA NU ME BA : LL) (ct en : Int) (NM X : LL) (m i : Int) : Int := (sumL (qd_R6 d k s sg bg NA NU ME BA ct en NM X m i)).2.2.2.2.2.2.2.2.1
noncomputable def qd_u6_2_9 (d k s : Int) (sg bg : Bool) (NA NU ME BA : LL) (ct en : Int) (NM X : LL) (m i : Int) : Int := (sumL (qd_R6 d k s sg bg NA NU ME BA ct en NM X m i)).2.2.2.2.2.2.2.2.2.1
noncomputable def qd_u6_2_10 (d k s : Int) (sg bg : Bool) (NA NU ME BA : LL) (ct en : Int) (NM X : LL) (m i : Int) : LL := (sumL (qd_R6 d k s sg bg NA NU ME BA ct en NM X m i)).2.2.2.2.2.2.2.2.2.2
noncomputable def qd_o6_3 (d k s : Int) (sg bg : Bool) (NA NU ME BA : LL) (ct en : Int) (NM X : LL) (m i : Int) : Bool := is (i = 0 ∧ ME = X ∧ m = (ME.length : Int) ∧ en = 0 ∧ NM = [] ∧ Typed tab (.slice 71) (.l ME) ∧ (∀ x : List TC, x ∈ ME → qt_rc (nth x 2).int (nth x 3).int (nth x 4).bool (nth x 5).bool (nth x 6).list (nth x 7).list (nth x 8).list (nth x 9).list (nth x 10).int d = true) ∧ (∀ x : List TC, x ∈ ME → (!(qt_rv (nth x 2).int (nth x 3).int (nth x 4).bool (nth x 5).bool (nth x 6).list (nth x 7).list (nth x 8).list (nth x 9).list (nth x 10).int d)) = false → qx_rc (nth x 2).int (nth x 3).int (nth x 4).bool (nth x 5).bool (nth x 6).list (nth x 7).list (nth x 8).list (nth x 9).list (nth x 10).int = true))
noncomputable def qd_u6_3_0 (d k s : Int) (sg bg : Bool) (NA NU ME BA : LL) (ct en : Int) (NM X : LL) (m i : Int) : Int := (sumR (qd_R6 d k s sg bg NA NU ME BA ct en NM X m i)).1
noncomputable def qd_u6_3_1 (d k s : Int) (sg bg : Bool) (NA NU ME BA : LL) (ct en : Int) (NM X : LL) (m i : Int) : Int := (sumR (qd_R6 d k s sg bg NA NU ME BA ct en NM X m i)).2.1
noncomputable def qd_u6_3_2 (d k s : Int) (sg bg : Bool) (NA NU ME BA : LL) (ct en : Int) (NM X : LL) (m i : Int) : Bool := (sumR (qd_R6 d k s sg bg NA NU ME BA ct en NM X m i)).2.2.1
noncomputable def qd_u6_3_3 (d k s : Int) (sg bg : Bool) (NA NU ME BA : LL) (ct en : Int) (NM X : LL) (m i : Int) : Bool := (sumR (qd_R6 d k s sg bg NA NU ME BA ct en NM X m i)).2.2.2.1
noncomputable def qd_u6_3_4 (d k s : Int) (sg bg : Bool) (NA NU ME BA : LL) (ct en : Int) (NM X : LL) (m i : Int) : LL := (sumR (qd_R6 d k s sg bg NA NU ME BA ct en NM X m i)).2.2.2.2.1
noncomputable def qd_u6_3_5 (d k s : Int) (sg bg : Bool) (NA NU ME BA : LL) (ct en : Int) (NM X : LL) (m i : Int) : LL := (sumR (qd_R6 d k s sg bg NA NU ME BA ct en NM X m i)).2.2.2.2.2.1
noncomputable def qd_u6_3_6 (d k s : Int) (sg bg : Bool) (NA NU ME BA : LL) (ct en : Int) (NM X : LL) (m i : Int) : LL := (sumR (qd_R6 d k s sg bg NA NU ME BA ct en NM X m i)).2.2.2.2.2.2.1
noncomputable def qd_u6_3_7 (d k s : Int) (sg bg : Bool) (NA NU ME BA : LL) (ct en : Int) (NM X : LL) (m i : Int) : LL := (sumR (qd_R6 d k s sg bg NA NU ME BA ct en NM X m i)).2.2.2.2.2.2.2.1
noncomputable def qd_u6_3_8 (d k s : Int) (sg bg : Bool) (NA NU ME BA : LL) (ct en : Int) (NM X : LL) (m i : Int) : Int := (sumR (qd_R6 d k s sg bg NA NU ME BA ct en NM X m i)).2.2.2.2.2.2.2.2.1
noncomputable def qd_u6_3_9 (d k s : Int) (sg bg : Bool) (NA NU ME BA : LL) (ct en : Int) (NM X : LL) (m i : Int) : Int := (sumR (qd_R6 d k s sg bg NA NU ME BA ct en NM X m i)).2.2.2.2.2.2.2.2.2.1
noncomputable def qd_u6_3_10 (d k s : Int) (sg bg : Bool) (NA NU ME BA : LL) (ct en : Int) (NM X : LL) (m i : Int) : LL := (sumR (qd_R6 d k s sg bg NA NU ME BA ct en NM X m i)).2.2.2.2.2.2.2.2.2.2
noncomputable def qd_6_fin (d k s : Int) (sg bg : Bool) (NA NU ME BA : LL) (ct en : Int) (NM X : LL) (m i : Int) : Told qd_6_ω := (.br (qd_k6_1 d k s sg bg NA NU ME BA ct en NM X m i) (.leaf (qd_o6_2 d k s sg bg NA NU ME BA ct en NM X m i) (.inl ((qd_u6_2_0 d k s sg bg NA NU ME BA ct en NM X m i), (qd_u6_2_1 d k s sg bg NA NU ME BA ct en NM X m i), (qd_u6_2_2 d k s sg bg NA NU ME BA ct en NM X m i), (qd_u6_2_3 d k s sg bg NA NU ME BA ct en NM X m i), (qd_u6_2_4 d k s sg bg NA NU ME BA ct en NM X m i), (qd_u6_2_5 d k s sg bg NA NU ME BA ct en NM X m i), (qd_u6_2_6 d k s sg bg NA NU ME BA ct en NM X m i), (qd_u6_2_7 d k s sg bg NA NU ME BA ct en NM X m i), (qd_u6_2_8 d k s sg bg NA NU ME BA ct en NM X m i), (qd_u6_2_9 d k s sg bg NA NU ME BA ct en NM X m i), (qd_u6_2_10 d k s sg bg NA NU ME BA ct en NM X m i)))) (.leaf (qd_o6_3 d k s sg bg NA NU ME BA ct en NM X m i) (.inr ((qd_u6_3_0 d k s sg bg NA NU ME BA ct en NM X m i), (qd_u6_3_1 d k s sg bg NA NU ME BA ct en NM X m i), (qd_u6_3_2 d k s sg bg NA NU ME BA ct en NM X m i), (qd_u6_3_3 d k s sg bg NA NU ME BA ct en NM X m i), (qd_u6_3_4 d k s sg bg NA NU ME BA ct en NM X m i), (qd_u6_3_5 d k s sg bg NA NU ME BA ct en NM X m i), (qd_u6_3_6 d k s sg bg NA NU ME BA ct en NM X m i), (qd_u6_3_7 d k s sg bg NA NU ME BA ct en NM X m i), (qd_u6_3_8 d k s sg bg NA NU ME BA ct en NM X m i), (qd_u6_3_9 d k s sg bg NA NU ME BA ct en NM X m i), (qd_u6_3_10 d k s sg bg NA NU ME BA ct en NM X m i)))))
def qd_6_sl (x : qd_6_σ) : List Slot := [⟨.val false [⟨.int .i64, .sh, TC.i (x.1)⟩], ⟨0, 0⟩⟩, ⟨.bx 32 [⟨.int .i64, .sh, TC.i (x.2.1)⟩, ⟨.int .i64, .sh, TC.i (x.2.2.1)⟩, ⟨.bool, .sh, TC.b (x.2.2.2.1)⟩, ⟨.bool, .sh, TC.b (x.2.2.2.2.1)⟩, ⟨.slice 9, .sh, TC.l (x.2.2.2.2.2.1)⟩, ⟨.slice 2, .sh, TC.l (x.2.2.2.2.2.2.1)⟩, ⟨.slice 71, .sh, TC.l (x.2.2.2.2.2.2.2.1)⟩, ⟨.slice 32, .sh, TC.l (x.2.2.2.2.2.2.2.2.1)⟩, ⟨.int .i64, .sh, TC.i (x.2.2.2.2.2.2.2.2.2.1)⟩], ⟨0, 0⟩⟩, ⟨.val false [⟨.int .i64, .sh, TC.i (x.2.2.2.2.2.2.2.2.2.2.1)⟩], ⟨0, 0⟩⟩, ⟨.val false [⟨.slice 9, .own true, TC.l (x.2.2.2.2.2.2.2.2.2.2.2.1)⟩], ⟨0, 0⟩⟩, ⟨.val false [⟨.slice 71, .sh, TC.l (x.2.2.2.2.2.2.2.2.2.2.2.2.1)⟩], ⟨0, 0⟩⟩, ⟨.val false [⟨.int .i64, .sh, TC.i (x.2.2.2.2.2.2.2.2.2.2.2.2.2.1)⟩], ⟨0, 0⟩⟩, ⟨.val false [⟨.int .i64, .sh, TC.i (x.2.2.2.2.2.2.2.2.2.2.2.2.2.2)⟩], ⟨0, 0⟩⟩]
def qd_6_out : qd_6_ω → Ex × List Slot := (Sum.elim (fun x => (.ret, [⟨.bx 32 [⟨.int .i64, .sh, TC.i (x.1)⟩, ⟨.int .i64, .sh, TC.i (x.2.1)⟩, ⟨.bool, .sh, TC.b (x.2.2.1)⟩, ⟨.bool, .sh, TC.b (x.2.2.2.1)⟩, ⟨.slice 9, .sh, TC.l (x.2.2.2.2.1)⟩, ⟨.slice 2, .sh, TC.l (x.2.2.2.2.2.1)⟩, ⟨.slice 71, .sh, TC.l (x.2.2.2.2.2.2.1)⟩, ⟨.slice 32, .sh, TC.l (x.2.2.2.2.2.2.2.1)⟩, ⟨.int .i64, .sh, TC.i (x.2.2.2.2.2.2.2.2.1)⟩], ⟨0, 0⟩⟩, ⟨.val false [⟨.bool, .sh, TC.b false⟩], ⟨0, 0⟩⟩, ⟨.val false [⟨.int .i64, .sh, TC.i (x.2.2.2.2.2.2.2.2.2.1)⟩], ⟨0, 0⟩⟩, ⟨.val false [⟨.slice 9, .own true, TC.l (x.2.2.2.2.2.2.2.2.2.2)⟩], ⟨0, 0⟩⟩])) (fun x => (.exit 0, [⟨.bx 32 [⟨.int .i64, .sh, TC.i (x.1)⟩, ⟨.int .i64, .sh, TC.i (x.2.1)⟩, ⟨.bool, .sh, TC.b (x.2.2.1)⟩, ⟨.bool, .sh, TC.b (x.2.2.2.1)⟩, ⟨.slice 9, .sh, TC.l (x.2.2.2.2.1)⟩, ⟨.slice 2, .sh, TC.l (x.2.2.2.2.2.1)⟩, ⟨.slice 71, .sh, TC.l (x.2.2.2.2.2.2.1)⟩, ⟨.slice 32, .sh, TC.l (x.2.2.2.2.2.2.2.1)⟩, ⟨.int .i64, .sh, TC.i (x.2.2.2.2.2.2.2.2.1)⟩], ⟨0, 0⟩⟩, Slot.none, ⟨.val false [⟨.int .i64, .sh, TC.i (x.2.2.2.2.2.2.2.2.2.1)⟩], ⟨0, 0⟩⟩, ⟨.val false [⟨.slice 9, .own true, TC.l (x.2.2.2.2.2.2.2.2.2.2)⟩], ⟨0, 0⟩⟩])))
noncomputable def qd_lo6 : List Slot → Option (Told (Ex × List Slot)) := fun s => match s with
  | [⟨.val false [⟨.int .i64, .sh, TC.i d⟩], ⟨0, 0⟩⟩, ⟨.bx 32 [⟨.int .i64, .sh, TC.i k⟩, ⟨.int .i64, .sh, TC.i s⟩, ⟨.bool, .sh, TC.b sg⟩, ⟨.bool, .sh, TC.b bg⟩, ⟨.slice 9, .sh, TC.l NA⟩, ⟨.slice 2, .sh, TC.l NU⟩, ⟨.slice 71, .sh, TC.l ME⟩, ⟨.slice 32, .sh, TC.l BA⟩, ⟨.int .i64, .sh, TC.i ct⟩], ⟨0, 0⟩⟩, ⟨.val false [⟨.int .i64, .sh, TC.i en⟩], ⟨0, 0⟩⟩, ⟨.val false [⟨.slice 9, .own true, TC.l NM⟩], ⟨0, 0⟩⟩, ⟨.val false [⟨.slice 71, .sh, TC.l X⟩], ⟨0, 0⟩⟩, ⟨.val false [⟨.int .i64, .sh, TC.i m⟩], ⟨0, 0⟩⟩, ⟨.val false [⟨.int .i64, .sh, TC.i i⟩], ⟨0, 0⟩⟩] => some (((qd_6_fin d k s sg bg NA NU ME BA ct en NM X m i)).map qd_6_out)
  | _ => .none
noncomputable def qd_lo : LoopTeller := fun r s => bif Nat.beq r 6 then qd_lo6 s else .none
theorem qd_6_r (d k s : Int) (sg bg : Bool) (NA NU ME BA : LL) (ct en : Int) (NM X : LL) (m i : Int) (fuel : Nat) : rounds (rnd tab FT D50 live 107 qd_lo 0 6) leave (fuel + 1) (qd_6_sl (d, k, s, sg, bg, NA, NU, ME, BA, ct, en, NM, X, m, i)) = ((qd_6_step d k s sg bg NA NU ME BA ct en NM X m i)).run (goOn (fun s => rounds (rnd tab FT D50 live 107 qd_lo 0 6) leave fuel (qd_6_sl s)) fun w => some (qd_6_out w)) := by kernel_rfl
theorem qd_f6_eq (d : Int) (k s : Int) (sg bg : Bool) (NA NU ME BA : LL) (ct : Int) (m i : Int) (e : Int) (NM : LL) : qd_f6 d k s sg bg NA NU ME BA ct ME m i e NM = bif (validV (nth (row ME i) 2).int (nth (row ME i) 3).int (nth (row ME i) 4).bool (nth (row ME i) 5).bool (nth (row ME i) 6).list (nth (row ME i) 7).list (nth (row ME i) 8).list (nth (row ME i) 9).list (nth (row ME i) 10).int d && (!decide ((nth (row ME i) 1).int < e) && !decide ((nth (row ME i) 1).int > 24))) then Sum.inl (IntKind.wrap .i64 ((nth (row ME i) 1).int + isizeV (nth (row ME i) 2).int (nth (row ME i) 3).int (nth (row ME i) 9).list (nth (row ME i) 10).int), NM ++ [[TC.s (nth (row ME i) 0).str]]) else Sum.inr (Sum.inl (k, s, sg, bg, NA, NU, ME, BA, ct, e, NM)) := by
  unfold qd_f6
  rw [show qt_rv (nth (row ME i) 2).int (nth (row ME i) 3).int (nth (row ME i) 4).bool (nth (row ME i) 5).bool (nth (row ME i) 6).list (nth (row ME i) 7).list (nth (row ME i) 8).list (nth (row ME i) 9).list (nth (row ME i) 10).int d = validV (nth (row ME i) 2).int (nth (row ME i) 3).int (nth (row ME i) 4).bool (nth (row ME i) 5).bool (nth (row ME i) 6).list (nth (row ME i) 7).list (nth (row ME i) 8).list (nth (row ME i) 9).list (nth (row ME i) 10).int d from rfl]
  generalize validV (nth (row ME i) 2).int (nth (row ME i) 3).int (nth (row ME i) 4).bool (nth (row ME i) 5).bool (nth (row ME i) 6).list (nth (row ME i) 7).list (nth (row ME i) 8).list (nth (row ME i) 9).list (nth (row ME i) 10).int d = p0, decide ((nth (row ME i) 1).int < e) = p1, decide ((nth (row ME i) 1).int > 24) = p2
  cases p0 <;> cases p1 <;> cases p2 <;> rfl
theorem qd_R6_eq (d : Int) (k s : Int) (sg bg : Bool) (NA NU ME BA : LL) (ct m : Int) : ∃ a : Int × LL, qd_R6 d k s sg bg NA NU ME BA ct 0 [] ME m 0 = bif (allI (memI ME) ME.length && ME.all fun x => validV (nth x 2).int (nth x 3).int (nth x 4).bool (nth x 5).bool (nth x 6).list (nth x 7).list (nth x 8).list (nth x 9).list (nth x 10).int d) then Sum.inr (k, s, sg, bg, NA, NU, ME, BA, ct, endI ME ME.length, nmAt ME ME.length) else Sum.inl (k, s, sg, bg, NA, NU, ME, BA, ct, a.1, a.2) := by
  unfold qd_R6
  obtain ⟨a, ha⟩ := iter_along (f := fun i a => qd_f6 d k s sg bg NA NU ME BA ct ME m (i : Int) a.1 a.2) (fin := fun a => qd_e6 d k s sg bg NA NU ME BA ct ME m a.1 a.2) (P := fun i : Nat => validV (nth (row ME (i : Int)) 2).int (nth (row ME (i : Int)) 3).int (nth (row ME (i : Int)) 4).bool (nth (row ME (i : Int)) 5).bool (nth (row ME (i : Int)) 6).list (nth (row ME (i : Int)) 7).list (nth (row ME (i : Int)) 8).list (nth (row ME (i : Int)) 9).list (nth (row ME (i : Int)) 10).int d && (!decide ((nth (row ME (i : Int)) 1).int < endI ME i) && !decide ((nth (row ME (i : Int)) 1).int > 24))) (A := fun j => (endI ME j, nmAt ME j)) (w := fun a => Sum.inl (k, s, sg, bg, NA, NU, ME, BA, ct, a.1, a.2)) (N := ME.length) (fun j _ => qd_f6_eq d k s sg bg NA NU ME BA ct m (j : Int) (endI ME j) (nmAt ME j))
  refine ⟨a, ha.trans ?_⟩
  rw [show allI (fun i : Nat => validV (nth (row ME (i : Int)) 2).int (nth (row ME (i : Int)) 3).int (nth (row ME (i : Int)) 4).bool (nth (row ME (i : Int)) 5).bool (nth (row ME (i : Int)) 6).list (nth (row ME (i : Int)) 7).list (nth (row ME (i : Int)) 8).list (nth (row ME (i : Int)) 9).list (nth (row ME (i : Int)) 10).int d && (!decide ((nth (row ME (i : Int)) 1).int < endI ME i) && !decide ((nth (row ME (i : Int)) 1).int > 24))) ME.length = (allI (memI ME) ME.length && ME.all fun x => validV (nth x 2).int (nth x 3).int (nth x 4).bool (nth x 5).bool (nth x 6).list (nth x 7).list (nth x 8).list (nth x 9).list (nth x 10).int d) from by
    rw [← allI_rows, Bool.and_comm, ← allI_and]
    rfl]
  rfl
theorem qd_6_h (d k s : Int) (sg bg : Bool) (NA NU ME BA : LL) (ct en : Int) (NM X : LL) (m i : Int) (ow : qd_6_ω) : ((qd_6_fin d k s sg bg NA NU ME BA ct en NM X m i)).val = some ow → ∃ fuel, loopN qd_6_st fuel (d, k, s, sg, bg, NA, NU, ME, BA, ct, en, NM, X, m, i) = some ow := by
  refine auto_sum (R := (qd_R6 d k s sg bg NA NU ME BA ct en NM X m i)) rfl rfl rfl ?_
  intro ho
  have ho : is (i = 0 ∧ ME = X ∧ m = (ME.length : Int) ∧ en = 0 ∧ NM = [] ∧ Typed tab (.slice 71) (.l ME) ∧ (∀ x : List TC, x ∈ ME → qt_rc (nth x 2).int (nth x 3).int (nth x 4).bool (nth x 5).bool (nth x 6).list (nth x 7).list (nth x 8).list (nth x 9).list (nth x 10).int d = true) ∧ (∀ x : List TC, x ∈ ME → (!(qt_rv (nth x 2).int (nth x 3).int (nth x 4).bool (nth x 5).bool (nth x 6).list (nth x 7).list (nth x 8).list (nth x 9).list (nth x 10).int d)) = false → qx_rc (nth x 2).int (nth x 3).int (nth x 4).bool (nth x 5).bool (nth x 6).list (nth x 7).list (nth x 8).list (nth x 9).list (nth x 10).int = true)) = true := ho.elim id id
  obtain ⟨rfl, rfl, rfl, rfl, rfl, ht, hr, hz⟩ := is_iff.1 ho
  have hlen : ME.length ≤ 140737488351232 := by have := typed_room ht; simp only [show (tab 71).bytes = 152 from rfl] at this; omega
  have hroom := typed_room ht
  simp only [show (tab 71).bytes = 152 from rfl] at hroom
  refine ⟨(ME.length) + 1, ?_⟩
  refine iter_loop (step := qd_6_st) (a := ((0 : Int), ([] : LL))) (ME.length) (fun i a => (qd_f6 d k s sg bg NA NU ME BA ct ME (ME.length : Int) (i : Int) (a.1) (a.2))) (fun a => (qd_e6 d k s sg bg NA NU ME BA ct ME (ME.length : Int) (a.1) (a.2))) (fun i a => (d, k, s, sg, bg, NA, NU, ME, BA, ct, a.1, a.2, ME, (ME.length : Int), (i : Int))) (fun i (a : Int × LL) => a.2.length = i) rfl (fun i a hi hI => ⟨?_, fun a' h => by
    unfold qd_f6 at h
    generalize (!(qt_rv (nth (row ME (i : Int)) 2).int (nth (row ME (i : Int)) 3).int (nth (row ME (i : Int)) 4).bool (nth (row ME (i : Int)) 5).bool (nth (row ME (i : Int)) 6).list (nth (row ME (i : Int)) 7).list (nth (row ME (i : Int)) 8).list (nth (row ME (i : Int)) 9).list (nth (row ME (i : Int)) 10).int d)) = q0, decide ((nth (row ME (i : Int)) 1).int < a.1) = q1, decide ((nth (row ME (i : Int)) 1).int > 24) = q2 at h
    cases q0 <;> cases q1 <;> cases q2 <;> first | (cases h; done) | (cases h; show (a.2 ++ _).length = i + 1; rw [List.length_append, hI]; rfl)⟩) (fun a hI => ?_)
  · show (qd_6_step d k s sg bg NA NU ME BA ct (a.1) (a.2) ME (ME.length : Int) (i : Int)).val = _
    unfold qd_6_step qd_f6
    have c0 : Typed tab (.str) (.s (nth (ME.getD i []) 0).str) := typed_s (typed_cell ht (ME.getD i []) (mem_getD hi) 0 (by decide))
    have c6 : Typed tab (.slice 9) (.l (nth (ME.getD i []) 6).list) := typed_list (typed_cell ht (ME.getD i []) (mem_getD hi) 6 (by decide))
    have c7 : Typed tab (.slice 2) (.l (nth (ME.getD i []) 7).list) := typed_list (typed_cell ht (ME.getD i []) (mem_getD hi) 7 (by decide))
    have c8 : Typed tab (.slice 71) (.l (nth (ME.getD i []) 8).list) := typed_list (typed_cell ht (ME.getD i []) (mem_getD hi) 8 (by decide))
    have c9 : Typed tab (.slice 32) (.l (nth (ME.getD i []) 9).list) := typed_list (typed_cell ht (ME.getD i []) (mem_getD hi) 9 (by decide))
    refine Tr.t (by simp; omega) ?_
    exact (Tr.t (by first | omega | (constructor <;> omega) | (exact hr _ (mem_getD (by omega))) | (exact hz _ (mem_getD (by omega)) (by assumption)) | ((unfold roomFor; simp only [show (tab 9).bytes = 16 from rfl, List.length_append, List.length_singleton]; omega))) (Tr.t (by first | omega | (constructor <;> omega) | (exact hr _ (mem_getD (by omega))) | (exact hz _ (mem_getD (by omega)) (by assumption)) | ((unfold roomFor; simp only [show (tab 9).bytes = 16 from rfl, List.length_append, List.length_singleton]; omega))) (Tr.bh (fun _ => rfl) (fun _ => (Tr.bh (fun _ => rfl) (fun _ => (Tr.bh (fun _ => rfl) (fun _ => (Tr.t (by first | omega | (constructor <;> omega) | (exact hr _ (mem_getD (by omega))) | (exact hz _ (mem_getD (by omega)) (by assumption)) | ((unfold roomFor; simp only [show (tab 9).bytes = 16 from rfl, List.length_append, List.length_singleton]; omega))) (Tr.t (by first | omega | (constructor <;> omega) | (exact hr _ (mem_getD (by omega))) | (exact hz _ (mem_getD (by omega)) (by assumption)) | ((unfold roomFor; simp only [show (tab 9).bytes = 16 from rfl, List.length_append, List.length_singleton]; omega))) (by rw [Tr.val_ok, wrap64 (i := (i : Int) + 1) (by omega) (by omega)]; rfl)))))))))))
  · show (qd_6_step d k s sg bg NA NU ME BA ct (a.1) (a.2) ME (ME.length : Int) (ME.length : Int)).val = _
    refine Tr.n (by first | (simp; done) | (simp; omega) | omega) ?_
    rfl
theorem qd_is6 : LoopIs tab FT D50 live 107 qd_lo 0 6 := by
  refine loop_told (sl := qd_6_sl) (step := qd_6_st) (out := qd_6_out) (lor := qd_lo6) (fin := fun x => (qd_6_fin (x.1) (x.2.1) (x.2.2.1) (x.2.2.2.1) (x.2.2.2.2.1) (x.2.2.2.2.2.1) (x.2.2.2.2.2.2.1) (x.2.2.2.2.2.2.2.1) (x.2.2.2.2.2.2.2.2.1) (x.2.2.2.2.2.2.2.2.2.1) (x.2.2.2.2.2.2.2.2.2.2.1) (x.2.2.2.2.2.2.2.2.2.2.2.1) (x.2.2.2.2.2.2.2.2.2.2.2.2.1) (x.2.2.2.2.2.2.2.2.2.2.2.2.2.1) (x.2.2.2.2.2.2.2.2.2.2.2.2.2.2))) (fun _ => rfl) ?_ (fun x n => qd_6_r x.1 x.2.1 x.2.2.1 x.2.2.2.1 x.2.2.2.2.1 x.2.2.2.2.2.1 x.2.2.2.2.2.2.1 x.2.2.2.2.2.2.2.1 x.2.2.2.2.2.2.2.2.1 x.2.2.2.2.2.2.2.2.2.1 x.2.2.2.2.2.2.2.2.2.2.1 x.2.2.2.2.2.2.2.2.2.2.2.1 x.2.2.2.2.2.2.2.2.2.2.2.2.1 x.2.2.2.2.2.2.2.2.2.2.2.2.2.1 x.2.2.2.2.2.2.2.2.2.2.2.2.2.2 n) (fun x ow => qd_6_h x.1 x.2.1 x.2.2.1 x.2.2.2.1 x.2.2.2.2.1 x.2.2.2.2.2.1 x.2.2.2.2.2.2.1 x.2.2.2.2.2.2.2.1 x.2.2.2.2.2.2.2.2.1 x.2.2.2.2.2.2.2.2.2.1 x.2.2.2.2.2.2.2.2.2.2.1 x.2.2.2.2.2.2.2.2.2.2.2.1 x.2.2.2.2.2.2.2.2.2.2.2.2.1 x.2.2.2.2.2.2.2.2.2.2.2.2.2.1 x.2.2.2.2.2.2.2.2.2.2.2.2.2.2 ow)
  intro s t h
  unfold qd_lo6 at h
  split at h
  · cases h; exact ⟨(_, _, _, _, _, _, _, _, _, _, _, _, _, _, _), rfl, rfl⟩
  · cases h
noncomputable def qd_t (k s : Int) (sg bg : Bool) (NA NU ME BA : LL) (ct d : Int) : Tr (Bool) := (.ite ((!(qce_v s (1 : Int) (24 : Int))) = true) (.ok false)
  (.ite ((!(qce_v (ME.length : Int) (1 : Int) (4 : Int))) = true) (.ok false)
   (.ite ((qd_k6_1 d k s sg bg NA NU ME BA ct (0 : Int) [] ME (ME.length : Int) (0 : Int)) = true) (.ite ((qd_o6_2 d k s sg bg NA NU ME BA ct (0 : Int) [] ME (ME.length : Int) (0 : Int)) = true) (.ok false)
     .no)
    (.ite ((qd_o6_3 d k s sg bg NA NU ME BA ct (0 : Int) [] ME (ME.length : Int) (0 : Int)) = true) (.ite ((decide ((qd_u6_3_9 d k s sg bg NA NU ME BA ct (0 : Int) [] ME (ME.length : Int) (0 : Int)) ≤ (qd_u6_3_1 d k s sg bg NA NU ME BA ct (0 : Int) [] ME (ME.length : Int) (0 : Int)))) = true) (.ite ((ql_c (qd_u6_3_10 d k s sg bg NA NU ME BA ct (0 : Int) [] ME (ME.length : Int) (0 : Int))) = true) (.ok (ql_v (qd_u6_3_10 d k s sg bg NA NU ME BA ct (0 : Int) [] ME (ME.length : Int) (0 : Int))))
       .no)
      (.ok false))
     .no))))
def qd_mk (p : Bool) : Res := [(false, [⟨.bool, .sh, TC.b p⟩])]
noncomputable def qd_c (k s : Int) (sg bg : Bool) (NA NU ME BA : LL) (ct d : Int) : Bool := (bif (!(qce_v s (1 : Int) (24 : Int))) then true else (bif (!(qce_v (ME.length : Int) (1 : Int) (4 : Int))) then true else (bif (qd_k6_1 d k s sg bg NA NU ME BA ct (0 : Int) [] ME (ME.length : Int) (0 : Int)) then ((qd_o6_2 d k s sg bg NA NU ME BA ct (0 : Int) [] ME (ME.length : Int) (0 : Int)) && true) else ((qd_o6_3 d k s sg bg NA NU ME BA ct (0 : Int) [] ME (ME.length : Int) (0 : Int)) && (bif (decide ((qd_u6_3_9 d k s sg bg NA NU ME BA ct (0 : Int) [] ME (ME.length : Int) (0 : Int)) ≤ (qd_u6_3_1 d k s sg bg NA NU ME BA ct (0 : Int) [] ME (ME.length : Int) (0 : Int)))) then ((ql_c (qd_u6_3_10 d k s sg bg NA NU ME BA ct (0 : Int) [] ME (ME.length : Int) (0 : Int))) && true) else true)))))
noncomputable def qd_v (k s : Int) (sg bg : Bool) (NA NU ME BA : LL) (ct d : Int) : Bool := (bif (!(qce_v s (1 : Int) (24 : Int))) then false else (bif (!(qce_v (ME.length : Int) (1 : Int) (4 : Int))) then false else (bif (qd_k6_1 d k s sg bg NA NU ME BA ct (0 : Int) [] ME (ME.length : Int) (0 : Int)) then false else (bif (decide ((qd_u6_3_9 d k s sg bg NA NU ME BA ct (0 : Int) [] ME (ME.length : Int) (0 : Int)) ≤ (qd_u6_3_1 d k s sg bg NA NU ME BA ct (0 : Int) [] ME (ME.length : Int) (0 : Int)))) then (ql_v (qd_u6_3_10 d k s sg bg NA NU ME BA ct (0 : Int) [] ME (ME.length : Int) (0 : Int))) else false))))
theorem qd_l (k s : Int) (sg bg : Bool) (NA NU ME BA : LL) (ct d : Int) : (qd_c k s sg bg NA NU ME BA ct d) = true → (qd_t k s sg bg NA NU ME BA ct d).val = some (qd_v k s sg bg NA NU ME BA ct d) := by
  unfold qd_t qd_v qd_c
  exact fun h => (Tr.ss h (fun h => rfl) (fun h => (Tr.ss h (fun h => rfl) (fun h => (Tr.ss h (fun h => (Tr.gb h fun h => rfl)) (fun h => (Tr.gb h fun h => (Tr.ss h (fun h => (Tr.gb h fun h => rfl)) (fun h => rfl)))))))))
noncomputable def qd_S : List Arg → Option (Bool × Res) := fun xs => match xs with
  | [(true, [(.int .i64, TC.i k), (.int .i64, TC.i s), (.bool, TC.b sg), (.bool, TC.b bg), (.slice 9, TC.l NA), (.slice 2, TC.l NU), (.slice 71, TC.l ME), (.slice 32, TC.l BA), (.int .i64, TC.i ct)]), (false, [(.int .i64, TC.i d)])] => some ((qd_c k s sg bg NA NU ME BA ct d), qd_mk (qd_v k s sg bg NA NU ME BA ct d))
  | _ => .none
theorem qd_e (k s : Int) (sg bg : Bool) (NA NU ME BA : LL) (ct d : Int) : runF tab FT D50 live 107 qd_lo [(true, [(.int .i64, TC.i k), (.int .i64, TC.i s), (.bool, TC.b sg), (.bool, TC.b bg), (.slice 9, TC.l NA), (.slice 2, TC.l NU), (.slice 71, TC.l ME), (.slice 32, TC.l BA), (.int .i64, TC.i ct)]), (false, [(.int .i64, TC.i d)])] = (qd_t k s sg bg NA NU ME BA ct d).run fun p => some (qd_mk p) := by kernel_rfl
theorem qd_s : ∀ xs r, qd_S xs = some (true, r) → runF tab FT D50 live 107 qd_lo xs = some r := by
  intro xs r h
  unfold qd_S at h
  split at h
  · simp only [Option.some.injEq, Prod.mk.injEq] at h
    obtain ⟨h1, rfl⟩ := h
    exact fun_told (qd_e _ _ _ _ _ _ _ _ _ _) (qd_l _ _ _ _ _ _ _ _ _ _) h1
  · cases h
noncomputable def D51 : Dt := also D50 107 qd_S
theorem d51 : DOk Go.Proofs.Try.prog tab D51 := d50.also mixed_ok tab_ok names_ok (fnLoops_one (by kernel_rfl) qd_is6) qd_s
theorem nm_typed {ME : LL} (ht : Typed tab (.slice 71) (.l ME)) : Typed tab (.slice 9) (.l (nmAt ME ME.length)) := by
  have hroom := typed_room ht
  simp only [show (tab 71).bytes = 152 from rfl] at hroom
  have hm : (140737488351232 : Nat) ≤ maxLen := by unfold maxLen; omega
  rw [nmAt_all]
  refine .slice _ _ (by rw [List.length_map, show (tab 9).bytes = 16 from rfl]; show _ ≤ 140737488351232; omega) (by rw [List.length_map]; omega) (fun x hx => ?_) (fun x hx k hk => ?_)
  · obtain ⟨y, _, rfl⟩ := List.mem_map.1 hx; rfl
  · obtain ⟨y, hy, rfl⟩ := List.mem_map.1 hx
    have hk : k = 0 := by have : k < 1 := hk; omega
    subst hk
    exact typed_s ((typed_elem ht hy).2 0 (by decide))
theorem comp_u {d : Int} {k s : Int} {sg bg : Bool} {NA NU ME BA : LL} {ct : Int} {m : Int} (h : qd_k6_1 d k s sg bg NA NU ME BA ct 0 [] ME m 0 = false) : qd_u6_3_10 d k s sg bg NA NU ME BA ct 0 [] ME m 0 = nmAt ME ME.length := by
  unfold qd_u6_3_10
  unfold qd_k6_1 at h
  obtain ⟨a, ha⟩ := qd_R6_eq d k s sg bg NA NU ME BA ct m
  rw [ha] at h ⊢
  generalize (allI (memI ME) ME.length && ME.all fun x => validV (nth x 2).int (nth x 3).int (nth x 4).bool (nth x 5).bool (nth x 6).list (nth x 7).list (nth x 8).list (nth x 9).list (nth x 10).int d) = q at h ⊢
  cases q
  · cases h
  · rfl
theorem qd_cc {k : Int} {s : Int} {sg : Bool} {bg : Bool} {NA : LL} {NU : LL} {ME : LL} {BA : LL} {ct : Int} {d : Int} (ht : Typed tab (.slice 71) (.l ME)) (hr : (∀ x : List TC, x ∈ ME → qt_rc (nth x 2).int (nth x 3).int (nth x 4).bool (nth x 5).bool (nth x 6).list (nth x 7).list (nth x 8).list (nth x 9).list (nth x 10).int d = true)) (hz : (∀ x : List TC, x ∈ ME → (!(qt_rv (nth x 2).int (nth x 3).int (nth x 4).bool (nth x 5).bool (nth x 6).list (nth x 7).list (nth x 8).list (nth x 9).list (nth x 10).int d)) = false → qx_rc (nth x 2).int (nth x 3).int (nth x 4).bool (nth x 5).bool (nth x 6).list (nth x 7).list (nth x 8).list (nth x 9).list (nth x 10).int = true)) : (qd_c k s sg bg NA NU ME BA ct d) = true := by
  unfold qd_c
  refine bifT (fun b1 => ?_) (fun b1 => ?_)
  · skip
    rfl
  · skip
    refine bifT (fun b2 => ?_) (fun b2 => ?_)
    · skip
      rfl
    · skip
      refine bifT (fun b3 => ?_) (fun b3 => ?_)
      · skip
        refine andT (by exact is_true ⟨rfl, rfl, rfl, rfl, rfl, ht, hr, hz⟩) ?_
        rfl
      · skip
        refine andT (by exact is_true ⟨rfl, rfl, rfl, rfl, rfl, ht, hr, hz⟩) ?_
        refine bifT (fun b4 => ?_) (fun b4 => ?_)
        · skip
          refine andT (by rw [comp_u b3]; exact ql_cc (nm_typed ht)) ?_
          rfl
        · skip
          rfl
theorem qd_vv (k s : Int) (sg bg : Bool) (NA NU ME BA : LL) (ct d : Int) : qd_v k s sg bg NA NU ME BA ct d = (inB s 1 24 && (inB (ME.length : Int) 1 4 && ((allI (memI ME) ME.length && ME.all fun x => validV (nth x 2).int (nth x 3).int (nth x 4).bool (nth x 5).bool (nth x 6).list (nth x 7).list (nth x 8).list (nth x 9).list (nth x 10).int d) && (decide (endI ME ME.length ≤ s) && allI (fun i : Nat => dnP ME (i : Int)) ME.length)))) := by
  unfold qd_v
  obtain ⟨a, ha⟩ := qd_R6_eq d k s sg bg NA NU ME BA ct (ME.length : Int)
  unfold qd_k6_1 qd_u6_3_9 qd_u6_3_1 qd_u6_3_10
  rw [ha, show qce_v s 1 24 = inB s 1 24 from rfl, show qce_v (ME.length : Int) 1 4 = inB (ME.length : Int) 1 4 from rfl]
  have hn : allI (fun i : Nat => dnP (nmAt ME ME.length) (i : Int)) (nmAt ME ME.length).length = allI (fun i : Nat => dnP ME (i : Int)) ME.length := by
    rw [nmAt_len]
    exact allI_congr fun i hi => by unfold dnP; rw [nm_str hi, nm_dup hi]
  generalize (allI (memI ME) ME.length && ME.all fun x => validV (nth x 2).int (nth x 3).int (nth x 4).bool (nth x 5).bool (nth x 6).list (nth x 7).list (nth x 8).list (nth x 9).list (nth x 10).int d) = q
  cases q
  · simp only [bif_nf, bif_tf, bif_ft, Bool.not_not, Bool.false_and, Bool.and_false]
    show (inB s 1 24 && (inB (ME.length : Int) 1 4 && false)) = false
    simp only [Bool.and_false]
  · show (bif !(inB s 1 24) then false else bif !(inB (ME.length : Int) 1 4) then false else bif false then false else bif decide (endI ME ME.length ≤ s) then ql_v (nmAt ME ME.length) else false) = _
    rw [ql_vv, hn]
    simp only [bif_nf, bif_tf, bif_ft, Bool.not_not, Bool.true_and, Bool.not_false]
noncomputable def qt_t (k s : Int) (sg bg : Bool) (NA NU ME BA : LL) (ct d : Int) : Tr (Bool) := (.ite ((decide (d < (1 : Int))) = true) (.ok false)
  (.ite ((qz_rc k s sg bg NA NU ME BA ct ((qbl_v k s sg bg NA NU ME BA ct).1) ((qbl_v k s sg bg NA NU ME BA ct).2.1) ((qbl_v k s sg bg NA NU ME BA ct).2.2.1) ((qbl_v k s sg bg NA NU ME BA ct).2.2.2.1) ((qbl_v k s sg bg NA NU ME BA ct).2.2.2.2.1) ((qbl_v k s sg bg NA NU ME BA ct).2.2.2.2.2.1) ((qbl_v k s sg bg NA NU ME BA ct).2.2.2.2.2.2.1) ((qbl_v k s sg bg NA NU ME BA ct).2.2.2.2.2.2.2.1) ((qbl_v k s sg bg NA NU ME BA ct).2.2.2.2.2.2.2.2)) = true) (.ite ((!(qz_rv k s sg bg NA NU ME BA ct ((qbl_v k s sg bg NA NU ME BA ct).1) ((qbl_v k s sg bg NA NU ME BA ct).2.1) ((qbl_v k s sg bg NA NU ME BA ct).2.2.1) ((qbl_v k s sg bg NA NU ME BA ct).2.2.2.1) ((qbl_v k s sg bg NA NU ME BA ct).2.2.2.2.1) ((qbl_v k s sg bg NA NU ME BA ct).2.2.2.2.2.1) ((qbl_v k s sg bg NA NU ME BA ct).2.2.2.2.2.2.1) ((qbl_v k s sg bg NA NU ME BA ct).2.2.2.2.2.2.2.1) ((qbl_v k s sg bg NA NU ME BA ct).2.2.2.2.2.2.2.2))) = true) (.ok false)
    (.ite ((k == (1 : Int)) = true) (.ite ((qca_c k s sg bg NA NU ME BA ct) = true) (.ok (qca_v k s sg bg NA NU ME BA ct))
      .no)
     (.ite ((k == (2 : Int)) = true) (.ok (qce_v s (1 : Int) (16 : Int)))
      (.ite ((k == (3 : Int)) = true) (.ite ((qs_c k s sg bg NA NU ME BA ct) = true) (.ok (qs_v k s sg bg NA NU ME BA ct))
        .no)
       (.ite ((k == (4 : Int)) = true) (.ite ((qd_c k s sg bg NA NU ME BA ct (IntKind.wrap .i64 (d - (1 : Int)))) = true) (.ok (qd_v k s sg bg NA NU ME BA ct (IntKind.wrap .i64 (d - (1 : Int)))))
         .no)
        (.ite ((k == (5 : Int)) = true) (.ite ((qce_v ct (1 : Int) (4 : Int)) = true) (.ite (((BA.length : Int) == (1 : Int)) = true) (.ite ((0 : Int) ≤ (0 : Int) ∧ (0 : Int) < (BA.length : Int)) (.ite ((qt_rc ((nth (row BA (0 : Int)) 0).int) ((nth (row BA (0 : Int)) 1).int) ((nth (row BA (0 : Int)) 2).bool) ((nth (row BA (0 : Int)) 3).bool) ((nth (row BA (0 : Int)) 4).list) ((nth (row BA (0 : Int)) 5).list) ((nth (row BA (0 : Int)) 6).list) ((nth (row BA (0 : Int)) 7).list) ((nth (row BA (0 : Int)) 8).int) (IntKind.wrap .i64 (d - (1 : Int)))) = true) (.ite ((qt_rv ((nth (row BA (0 : Int)) 0).int) ((nth (row BA (0 : Int)) 1).int) ((nth (row BA (0 : Int)) 2).bool) ((nth (row BA (0 : Int)) 3).bool) ((nth (row BA (0 : Int)) 4).list) ((nth (row BA (0 : Int)) 5).list) ((nth (row BA (0 : Int)) 6).list) ((nth (row BA (0 : Int)) 7).list) ((nth (row BA (0 : Int)) 8).int) (IntKind.wrap .i64 (d - (1 : Int)))) = true) (.ite ((qx_rc k s sg bg NA NU ME BA ct) = true) (.ok (decide ((qx_rv k s sg bg NA NU ME BA ct) ≤ (24 : Int))))
               .no)
              (.ok false))
             .no)
            .no)
           (.ok false))
          (.ok false))
         (.ite ((k == (6 : Int)) = true) (.ok (s == (2 : Int)))
          (.ok false))))))))
   .no))
def qt_mk (p : Bool) : Res := [(false, [⟨.bool, .sh, TC.b p⟩])]
noncomputable def qt_c (k s : Int) (sg bg : Bool) (NA NU ME BA : LL) (ct d : Int) : Bool := (bif (decide (d < (1 : Int))) then true else ((qz_rc k s sg bg NA NU ME BA ct ((qbl_v k s sg bg NA NU ME BA ct).1) ((qbl_v k s sg bg NA NU ME BA ct).2.1) ((qbl_v k s sg bg NA NU ME BA ct).2.2.1) ((qbl_v k s sg bg NA NU ME BA ct).2.2.2.1) ((qbl_v k s sg bg NA NU ME BA ct).2.2.2.2.1) ((qbl_v k s sg bg NA NU ME BA ct).2.2.2.2.2.1) ((qbl_v k s sg bg NA NU ME BA ct).2.2.2.2.2.2.1) ((qbl_v k s sg bg NA NU ME BA ct).2.2.2.2.2.2.2.1) ((qbl_v k s sg bg NA NU ME BA ct).2.2.2.2.2.2.2.2)) && (bif (!(qz_rv k s sg bg NA NU ME BA ct ((qbl_v k s sg bg NA NU ME BA ct).1) ((qbl_v k s sg bg NA NU ME BA ct).2.1) ((qbl_v k s sg bg NA NU ME BA ct).2.2.1) ((qbl_v k s sg bg NA NU ME BA ct).2.2.2.1) ((qbl_v k s sg bg NA NU ME BA ct).2.2.2.2.1) ((qbl_v k s sg bg NA NU ME BA ct).2.2.2.2.2.1) ((qbl_v k s sg bg NA NU ME BA ct).2.2.2.2.2.2.1) ((qbl_v k s sg bg NA NU ME BA ct).2.2.2.2.2.2.2.1) ((qbl_v k s sg bg NA NU ME BA ct).2.2.2.2.2.2.2.2))) then true else (bif (k == (1 : Int)) then ((qca_c k s sg bg NA NU ME BA ct) && true) else (bif (k == (2 : Int)) then true else (bif (k == (3 : Int)) then ((qs_c k s sg bg NA NU ME BA ct) && true) else (bif (k == (4 : Int)) then ((qd_c k s sg bg NA NU ME BA ct (IntKind.wrap .i64 (d - (1 : Int)))) && true) else (bif (k == (5 : Int)) then (bif (qce_v ct (1 : Int) (4 : Int)) then (bif ((BA.length : Int) == (1 : Int)) then (is ((0 : Int) ≤ (0 : Int) ∧ (0 : Int) < (BA.length : Int)) && ((qt_rc ((nth (row BA (0 : Int)) 0).int) ((nth (row BA (0 : Int)) 1).int) ((nth (row BA (0 : Int)) 2).bool) ((nth (row BA (0 : Int)) 3).bool) ((nth (row BA (0 : Int)) 4).list) ((nth (row BA (0 : Int)) 5).list) ((nth (row BA (0 : Int)) 6).list) ((nth (row BA (0 : Int)) 7).list) ((nth (row BA (0 : Int)) 8).int) (IntKind.wrap .i64 (d - (1 : Int)))) && (bif (qt_rv ((nth (row BA (0 : Int)) 0).int) ((nth (row BA (0 : Int)) 1).int) ((nth (row BA (0 : Int)) 2).bool) ((nth (row BA (0 : Int)) 3).bool) ((nth (row BA (0 : Int)) 4).list) ((nth (row BA (0 : Int)) 5).list) ((nth (row BA (0 : Int)) 6).list) ((nth (row BA (0 : Int)) 7).list) ((nth (row BA (0 : Int)) 8).int) (IntKind.wrap .i64 (d - (1 : Int)))) then ((qx_rc k s sg bg NA NU ME BA ct) && true) else true))) else true) else true) else (bif (k == (6 : Int)) then true else true)))))))))
noncomputable def qt_v (k s : Int) (sg bg : Bool) (NA NU ME BA : LL) (ct d : Int) : Bool := (bif (decide (d < (1 : Int))) then false else (bif (!(qz_rv k s sg bg NA NU ME BA ct ((qbl_v k s sg bg NA NU ME BA ct).1) ((qbl_v k s sg bg NA NU ME BA ct).2.1) ((qbl_v k s sg bg NA NU ME BA ct).2.2.1) ((qbl_v k s sg bg NA NU ME BA ct).2.2.2.1) ((qbl_v k s sg bg NA NU ME BA ct).2.2.2.2.1) ((qbl_v k s sg bg NA NU ME BA ct).2.2.2.2.2.1) ((qbl_v k s sg bg NA NU ME BA ct).2.2.2.2.2.2.1) ((qbl_v k s sg bg NA NU ME BA ct).2.2.2.2.2.2.2.1) ((qbl_v k s sg bg NA NU ME BA ct).2.2.2.2.2.2.2.2))) then false else (bif (k == (1 : Int)) then (qca_v k s sg bg NA NU ME BA ct) else (bif (k == (2 : Int)) then (qce_v s (1 : Int) (16 : Int)) else (bif (k == (3 : Int)) then (qs_v k s sg bg NA NU ME BA ct) else (bif (k == (4 : Int)) then (qd_v k s sg bg NA NU ME BA ct (IntKind.wrap .i64 (d - (1 : Int)))) else (bif (k == (5 : Int)) then (bif (qce_v ct (1 : Int) (4 : Int)) then (bif ((BA.length : Int) == (1 : Int)) then (bif (qt_rv ((nth (row BA (0 : Int)) 0).int) ((nth (row BA (0 : Int)) 1).int) ((nth (row BA (0 : Int)) 2).bool) ((nth (row BA (0 : Int)) 3).bool) ((nth (row BA (0 : Int)) 4).list) ((nth (row BA (0 : Int)) 5).list) ((nth (row BA (0 : Int)) 6).list) ((nth (row BA (0 : Int)) 7).list) ((nth (row BA (0 : Int)) 8).int) (IntKind.wrap .i64 (d - (1 : Int)))) then (decide ((qx_rv k s sg bg NA NU ME BA ct) ≤ (24 : Int))) else false) else false) else false) else (bif (k == (6 : Int)) then (s == (2 : Int)) else false))))))))
theorem qt_l (k s : Int) (sg bg : Bool) (NA NU ME BA : LL) (ct d : Int) : (qt_c k s sg bg NA NU ME BA ct d) = true → (qt_t k s sg bg NA NU ME BA ct d).val = some (qt_v k s sg bg NA NU ME BA ct d) := by
  unfold qt_t qt_v qt_c
  exact fun h => (Tr.ss h (fun h => rfl) (fun h => (Tr.gb h fun h => (Tr.ss h (fun h => rfl) (fun h => (Tr.ss h (fun h => (Tr.gb h fun h => rfl)) (fun h => (Tr.ss h (fun h => rfl) (fun h => (Tr.ss h (fun h => (Tr.gb h fun h => rfl)) (fun h => (Tr.ss h (fun h => (Tr.gb h fun h => rfl)) (fun h => (Tr.ss h (fun h => (Tr.ss h (fun h => (Tr.ss h (fun h => (Tr.gs h fun h => (Tr.gb h fun h => (Tr.ss h (fun h => (Tr.gb h fun h => rfl)) (fun h => rfl))))) (fun h => rfl))) (fun h => rfl))) (fun h => (Tr.ss h (fun h => rfl) (fun h => rfl)))))))))))))))))
noncomputable def qt_S : List Arg → Option (Bool × Res) := fun xs => match xs with
  | [(true, [(.int .i64, TC.i k), (.int .i64, TC.i s), (.bool, TC.b sg), (.bool, TC.b bg), (.slice 9, TC.l NA), (.slice 2, TC.l NU), (.slice 71, TC.l ME), (.slice 32, TC.l BA), (.int .i64, TC.i ct)]), (false, [(.int .i64, TC.i d)])] => some ((qt_c k s sg bg NA NU ME BA ct d), qt_mk (qt_v k s sg bg NA NU ME BA ct d))
  | _ => .none
theorem qt_e (k s : Int) (sg bg : Bool) (NA NU ME BA : LL) (ct d : Int) : runF tab FT D51 live 73 noLoops [(true, [(.int .i64, TC.i k), (.int .i64, TC.i s), (.bool, TC.b sg), (.bool, TC.b bg), (.slice 9, TC.l NA), (.slice 2, TC.l NU), (.slice 71, TC.l ME), (.slice 32, TC.l BA), (.int .i64, TC.i ct)]), (false, [(.int .i64, TC.i d)])] = (qt_t k s sg bg NA NU ME BA ct d).run fun p => some (qt_mk p) := by kernel_rfl
theorem qt_s : ∀ xs r, qt_S xs = some (true, r) → runF tab FT D51 live 73 noLoops xs = some r := by
  intro xs r h
  unfold qt_S at h
  split at h
  · simp only [Option.some.injEq, Prod.mk.injEq] at h
    obtain ⟨h1, rfl⟩ := h
    exact fun_told (qt_e _ _ _ _ _ _ _ _ _ _) (qt_l _ _ _ _ _ _ _ _ _ _) h1
  · cases h
theorem qt_nx (k s : Int) (sg bg : Bool) (NA NU ME BA : LL) (ct d : Int) : is (max (rowsDep ME) (rowsDep BA) < qt_O.n + 1 ∧ d ≤ 3 ∧ max (rowsDep ME) (rowsDep BA) < qz_O.n ∧ max (rowsDep ME) (rowsDep BA) < qx_O.n ∧ Typed tab (.slice 9) (.l NA) ∧ Typed tab (.slice 2) (.l NU) ∧ Typed tab (.slice 71) (.l ME) ∧ Typed tab (.slice 32) (.l BA)) = true → (qt_c k s sg bg NA NU ME BA ct d) = true ∧ (qt_v k s sg bg NA NU ME BA ct d) = validV k s sg bg NA NU ME BA ct d := by
  intro h
  obtain ⟨hM, hd, hS, hZ, t4, t5, t6, t7⟩ := is_iff.1 h
  by_cases hd1 : d < 1
  · refine ⟨by unfold qt_c; rw [decide_eq_true hd1]; rfl, ?_⟩
    unfold qt_v validV
    rw [decide_eq_true hd1]
    show false = _
    cases hk : okV k s sg bg NA NU ME BA ct with
    | false => rfl
    | true => have := okV_pos hk; rw [decide_eq_false (by omega)]; rfl
  have hsame : ∀ (k' s' : Int) (sg' bg' : Bool) (A B C D : LL) (ct' : Int), Typed tab (.slice 9) (.l A) → Typed tab (.slice 2) (.l B) → Typed tab (.slice 71) (.l C) → Typed tab (.slice 32) (.l D) → qz_rc k s sg bg NA NU ME BA ct k' s' sg' bg' A B C D ct' = true :=
    fun _ _ _ _ _ _ _ _ _ a b c e => is_true ⟨by omega, t4, t5, t6, t7, a, b, c, e⟩
  have hv : ∀ (k' s' : Int) (sg' bg' : Bool) (A B C D : LL) (ct' : Int), qz_rv k s sg bg NA NU ME BA ct k' s' sg' bg' A B C D ct' = sameV k s sg bg NA NU ME BA ct k' s' sg' bg' A B C D ct' := fun _ _ _ _ _ _ _ _ _ => rfl
  have z4 : Typed tab (.slice 9) (.l []) := typed_none
  have z5 : Typed tab (.slice 2) (.l []) := typed_none
  have z6 : Typed tab (.slice 71) (.l []) := typed_none
  have z7 : Typed tab (.slice 32) (.l []) := typed_none
  have w1 : IntKind.wrap .i64 (d - 1) = d - 1 := wrap64 (by omega) (by omega)
  have e0 : decide (d < 1) = false := decide_eq_false hd1
  have hbase : ∀ d', d' ≤ 3 → 0 < BA.length → qt_rc (nth (row BA (0 : Int)) 0).int (nth (row BA (0 : Int)) 1).int (nth (row BA (0 : Int)) 2).bool (nth (row BA (0 : Int)) 3).bool (nth (row BA (0 : Int)) 4).list (nth (row BA (0 : Int)) 5).list (nth (row BA (0 : Int)) 6).list (nth (row BA (0 : Int)) 7).list (nth (row BA (0 : Int)) 8).int d' = true := fun d' hd' hb => by
    have := dep_base (ME := ME) hb 6 7
    exact is_true ⟨by omega, hd', by omega, by omega, typed_list ((typed_elem t7 (mem_getD (i := 0) hb)).2 4 (by decide)), typed_list ((typed_elem t7 (mem_getD (i := 0) hb)).2 5 (by decide)), typed_list ((typed_elem t7 (mem_getD (i := 0) hb)).2 6 (by decide)), typed_list ((typed_elem t7 (mem_getD (i := 0) hb)).2 7 (by decide))⟩
  unfold qt_c qt_v
  rw [e0, w1]
  by_cases k1 : k = 1
  · subst k1
    rw [show qbl_v 1 s sg bg NA NU ME BA ct = (1, s, sg, bg, [], [], [], [], 0) from rfl]
    refine ⟨?_, ?_⟩
    · simp only [hsame _ _ _ _ _ _ _ _ _ z4 z5 z6 z7, qca_cc1, Int.reduceBEq, cond_true, cond_false, Bool.true_and, Bool.and_true, bif_same]
    · rw [← pure1 (by omega)]
      simp only [hv, qca_vv, Int.reduceBEq, cond_true, cond_false]
  by_cases k2 : k = 2
  · subst k2
    rw [show qbl_v 2 s sg bg NA NU ME BA ct = (2, s, false, false, [], [], [], [], 0) from rfl]
    refine ⟨?_, ?_⟩
    · simp only [hsame _ _ _ _ _ _ _ _ _ z4 z5 z6 z7, Int.reduceBEq, cond_true, cond_false, Bool.true_and, Bool.and_true, bif_same]
    · rw [valid_2 (by omega), ← pureB (k := 2) (s := s)]
      simp only [hv, Int.reduceBEq, cond_true, cond_false]
      rfl
  by_cases k6 : k = 6
  · subst k6
    rw [show qbl_v 6 s sg bg NA NU ME BA ct = (6, s, false, false, [], [], [], [], 0) from rfl]
    refine ⟨?_, ?_⟩
    · simp only [hsame _ _ _ _ _ _ _ _ _ z4 z5 z6 z7, Int.reduceBEq, cond_true, cond_false, Bool.true_and, Bool.and_true, bif_same]
    · rw [valid_6 (by omega), ← pureB (k := 6) (s := s)]
      simp only [hv, Int.reduceBEq, cond_true, cond_false]
  by_cases k3 : k = 3
  · subst k3
    rw [show qbl_v 3 s sg bg NA NU ME BA ct = (3, 0, false, false, NA, NU, [], BA, 0) from rfl]
    refine ⟨?_, ?_⟩
    · have hl : NU.length ≤ 140737488351232 := by have := typed_room t5; simp only [show (tab 2).bytes = 8 from rfl] at this; omega
      simp only [hsame _ _ _ _ _ _ _ _ _ t4 t5 z6 t7, qs_cc (hbase 1 (by omega)) t4 hl, Int.reduceBEq, cond_true, cond_false, Bool.true_and, Bool.and_true, bif_same]
    · rw [← pure3 (by omega)]
      simp only [hv, qs_vv, Int.reduceBEq, cond_true, cond_false]
  by_cases k4 : k = 4
  · subst k4
    rw [show qbl_v 4 s sg bg NA NU ME BA ct = (4, s, false, false, [], [], ME, [], 0) from rfl]
    refine ⟨?_, ?_⟩
    · have hr : ∀ x, x ∈ ME → qt_rc (nth x 2).int (nth x 3).int (nth x 4).bool (nth x 5).bool (nth x 6).list (nth x 7).list (nth x 8).list (nth x 9).list (nth x 10).int (d - 1) = true := fun x hx => by
        have := dep_max (BA := BA) hx 8 9
        exact is_true ⟨by omega, by omega, by omega, by omega, typed_list ((typed_elem t6 hx).2 6 (by decide)), typed_list ((typed_elem t6 hx).2 7 (by decide)), typed_list ((typed_elem t6 hx).2 8 (by decide)), typed_list ((typed_elem t6 hx).2 9 (by decide))⟩
      have hz : ∀ x, x ∈ ME → (!(qt_rv (nth x 2).int (nth x 3).int (nth x 4).bool (nth x 5).bool (nth x 6).list (nth x 7).list (nth x 8).list (nth x 9).list (nth x 10).int (d - 1))) = false → qx_rc (nth x 2).int (nth x 3).int (nth x 4).bool (nth x 5).bool (nth x 6).list (nth x 7).list (nth x 8).list (nth x 9).list (nth x 10).int = true := fun x hx hk => by
        have := dep_max (BA := BA) hx 8 9
        have hk : qt_rv (nth x 2).int (nth x 3).int (nth x 4).bool (nth x 5).bool (nth x 6).list (nth x 7).list (nth x 8).list (nth x 9).list (nth x 10).int (d - 1) = true := by simpa using hk
        have hk : (okV (nth x 2).int (nth x 3).int (nth x 4).bool (nth x 5).bool (nth x 6).list (nth x 7).list (nth x 8).list (nth x 9).list (nth x 10).int && decide (depthV (nth x 2).int (nth x 8).list (nth x 9).list ≤ d - 1)) = true := hk
        rw [Bool.and_eq_true] at hk
        exact is_true ⟨by omega, (okV_isize hk.1).2⟩
      simp only [hsame _ _ _ _ _ _ _ _ _ z4 z5 t6 z7, qd_cc t6 hr hz, Int.reduceBEq, cond_true, cond_false, Bool.true_and, Bool.and_true, bif_same]
    · rw [← pure4 (by omega) hd]
      simp only [hv, qd_vv, Int.reduceBEq, cond_true, cond_false]
  by_cases k5 : k = 5
  · subst k5
    rw [show qbl_v 5 s sg bg NA NU ME BA ct = (5, 0, false, false, [], [], [], BA, ct) from rfl]
    refine ⟨?_, ?_⟩
    · simp only [hsame _ _ _ _ _ _ _ _ _ z4 z5 z6 t7, Int.reduceBEq, cond_true, cond_false, Bool.true_and, Bool.and_true]
      cases hb : ((BA.length : Int) == 1) with
      | false => simp only [cond_false, bif_same]
      | true =>
        have hb0 : 0 < BA.length := by have := beq_iff_eq.1 hb; omega
        rw [hbase (d - 1) (by omega) hb0, show is ((0 : Int) ≤ (0 : Int) ∧ (0 : Int) < (BA.length : Int)) = true from is_true (by constructor <;> omega)]
        cases hk : qt_rv (nth (row BA (0 : Int)) 0).int (nth (row BA (0 : Int)) 1).int (nth (row BA (0 : Int)) 2).bool (nth (row BA (0 : Int)) 3).bool (nth (row BA (0 : Int)) 4).list (nth (row BA (0 : Int)) 5).list (nth (row BA (0 : Int)) 6).list (nth (row BA (0 : Int)) 7).list (nth (row BA (0 : Int)) 8).int (d - 1) with
        | false => simp only [cond_true, cond_false, Bool.true_and, bif_same]
        | true =>
          have hk' : (okV (nth (row BA (0 : Int)) 0).int (nth (row BA (0 : Int)) 1).int (nth (row BA (0 : Int)) 2).bool (nth (row BA (0 : Int)) 3).bool (nth (row BA (0 : Int)) 4).list (nth (row BA (0 : Int)) 5).list (nth (row BA (0 : Int)) 6).list (nth (row BA (0 : Int)) 7).list (nth (row BA (0 : Int)) 8).int && decide (depthV (nth (row BA (0 : Int)) 0).int (nth (row BA (0 : Int)) 6).list (nth (row BA (0 : Int)) 7).list ≤ d - 1)) = true := hk
          rw [Bool.and_eq_true] at hk'
          have hsz : qx_rc 5 s sg bg NA NU ME BA ct = true := is_true ⟨by omega, by
            rw [isizeC]
            show (if h : 0 < BA.length then isizeC (nth (row BA (0 : Int)) 0).int (nth (row BA (0 : Int)) 7).list else false) = true
            rw [dif_pos hb0]; exact (okV_isize hk'.1).2⟩
          simp only [hsz, cond_true, Bool.true_and, bif_same]
    · rw [← pure5 (by omega) hd]
      simp only [hv, Int.reduceBEq, cond_true, cond_false, show qce_v ct 1 4 = inB ct 1 4 from rfl, show qt_rv (nth (row BA (0 : Int)) 0).int (nth (row BA (0 : Int)) 1).int (nth (row BA (0 : Int)) 2).bool (nth (row BA (0 : Int)) 3).bool (nth (row BA (0 : Int)) 4).list (nth (row BA (0 : Int)) 5).list (nth (row BA (0 : Int)) 6).list (nth (row BA (0 : Int)) 7).list (nth (row BA (0 : Int)) 8).int (d - 1) = validV (nth (row BA (0 : Int)) 0).int (nth (row BA (0 : Int)) 1).int (nth (row BA (0 : Int)) 2).bool (nth (row BA (0 : Int)) 3).bool (nth (row BA (0 : Int)) 4).list (nth (row BA (0 : Int)) 5).list (nth (row BA (0 : Int)) 6).list (nth (row BA (0 : Int)) 7).list (nth (row BA (0 : Int)) 8).int (d - 1) from rfl, show qx_rv 5 s sg bg NA NU ME BA ct = isizeV 5 s BA ct from rfl, bif_ft]
  have e1 : (k == 1) = false := by simpa using k1
  have e2 : (k == 2) = false := by simpa using k2
  have e3 : (k == 3) = false := by simpa using k3
  have e4 : (k == 4) = false := by simpa using k4
  have e5 : (k == 5) = false := by simpa using k5
  have e6 : (k == 6) = false := by simpa using k6
  have ho : qbl_v k s sg bg NA NU ME BA ct = (k, 0, false, false, [], [], [], [], 0) := by
    unfold qbl_v
    simp only [e1, e2, e3, e4, e5, e6, cond_false]
  have hn : validV k s sg bg NA NU ME BA ct d = false := by
    unfold validV
    cases hk : okV k s sg bg NA NU ME BA ct with
    | false => rfl
    | true => have := okV_kind hk; omega
  rw [ho, hn]
  simp only [e1, e2, e3, e4, e5, e6, hsame _ _ _ _ _ _ _ _ _ z4 z5 z6 z7, cond_false, Bool.true_and, bif_same, and_self]
theorem qt_nxr (k s : Int) (sg bg : Bool) (NA NU ME BA : LL) (ct d : Int) : qt_rc (i_impl_Type_valid := ⟨qt_O.n + 1⟩) k s sg bg NA NU ME BA ct d = true → (qt_c k s sg bg NA NU ME BA ct d) = true ∧ (qt_v k s sg bg NA NU ME BA ct d) = (qt_rv k s sg bg NA NU ME BA ct d) := fun h => qt_nx k s sg bg NA NU ME BA ct d h
theorem qt_rs : ∀ xs r, qt_rS (i_impl_Type_valid := ⟨qt_O.n + 1⟩) xs = some (true, r) → runF tab FT D51 live 73 noLoops xs = some r := by
  intro xs r h
  unfold qt_rS at h
  split at h
  · simp only [Option.some.injEq, Prod.mk.injEq] at h
    obtain ⟨h1, rfl⟩ := h
    have hx := qt_nxr _ _ _ _ _ _ _ _ _ _ h1
    have ht := fun_told (qt_e _ _ _ _ _ _ _ _ _ _) (qt_l _ _ _ _ _ _ _ _ _ _) hx.1
    rw [hx.2] at ht
    exact ht
  · cases h
theorem qt_step : qt_G (i_impl_Type_valid := ⟨qt_O.n + 1⟩) := by
  have h := DOk.also2 (S := qt_rS (i_impl_Type_valid := ⟨qt_O.n + 1⟩)) mixed_ok tab_ok names_ok d43 d51 noLoops_ok qt_rs
  refine qt_G.mk (i_impl_Type_valid := ⟨qt_O.n + 1⟩) ?_
  exact h
noncomputable def qcb_t (k s : Int) (sg bg : Bool) (NA NU ME BA : LL) (ct : Int) : Tr (Bool) := (.ite ((qt_rc k s sg bg NA NU ME BA ct (3 : Int)) = true) (.ok (qt_rv k s sg bg NA NU ME BA ct (3 : Int)))
  .no)
def qcb_mk (p : Bool) : Res := [(false, [⟨.bool, .sh, TC.b p⟩])]
noncomputable def qcb_c (k s : Int) (sg bg : Bool) (NA NU ME BA : LL) (ct : Int) : Bool := ((qt_rc k s sg bg NA NU ME BA ct (3 : Int)) && true)
noncomputable def qcb_v (k s : Int) (sg bg : Bool) (NA NU ME BA : LL) (ct : Int) : Bool := (qt_rv k s sg bg NA NU ME BA ct (3 : Int))
theorem qcb_l (k s : Int) (sg bg : Bool) (NA NU ME BA : LL) (ct : Int) : (qcb_c k s sg bg NA NU ME BA ct) = true → (qcb_t k s sg bg NA NU ME BA ct).val = some (qcb_v k s sg bg NA NU ME BA ct) := by
  unfold qcb_t qcb_v qcb_c
  exact fun h => (Tr.gb h fun h => rfl)
noncomputable def qcb_S : List Arg → Option (Bool × Res) := fun xs => match xs with
  | [(true, [(.int .i64, TC.i k), (.int .i64, TC.i s), (.bool, TC.b sg), (.bool, TC.b bg), (.slice 9, TC.l NA), (.slice 2, TC.l NU), (.slice 71, TC.l ME), (.slice 32, TC.l BA), (.int .i64, TC.i ct)])] => some ((qcb_c k s sg bg NA NU ME BA ct), qcb_mk (qcb_v k s sg bg NA NU ME BA ct))
  | _ => .none
theorem qcb_e (k s : Int) (sg bg : Bool) (NA NU ME BA : LL) (ct : Int) : runF tab FT D51 live 36 noLoops [(true, [(.int .i64, TC.i k), (.int .i64, TC.i s), (.bool, TC.b sg), (.bool, TC.b bg), (.slice 9, TC.l NA), (.slice 2, TC.l NU), (.slice 71, TC.l ME), (.slice 32, TC.l BA), (.int .i64, TC.i ct)])] = (qcb_t k s sg bg NA NU ME BA ct).run fun p => some (qcb_mk p) := by kernel_rfl
theorem qcb_s : ∀ xs r, qcb_S xs = some (true, r) → runF tab FT D51 live 36 noLoops xs = some r := by
  intro xs r h
  unfold qcb_S at h
  split at h
  · simp only [Option.some.injEq, Prod.mk.injEq] at h
    obtain ⟨h1, rfl⟩ := h
    exact fun_told (qcb_e _ _ _ _ _ _ _ _ _) (qcb_l _ _ _ _ _ _ _ _ _) h1
  · cases h
noncomputable def D52 : Dt := also D51 36 qcb_S
theorem d52 : DOk Go.Proofs.Try.prog tab D52 := d51.also mixed_ok tab_ok names_ok noLoops_ok qcb_s
theorem qcb_cc {k : Int} {s : Int} {sg : Bool} {bg : Bool} {NA : LL} {NU : LL} {ME : LL} {BA : LL} {ct : Int} (h : qt_rc k s sg bg NA NU ME BA ct 3 = true) : (qcb_c k s sg bg NA NU ME BA ct) = true := by
  unfold qcb_c
  refine andT (by exact h) ?_
  rfl
theorem qcb_vv (k s : Int) (sg bg : Bool) (NA NU ME BA : LL) (ct : Int) : qcb_v k s sg bg NA NU ME BA ct = okV k s sg bg NA NU ME BA ct := by
  show (okV k s sg bg NA NU ME BA ct && decide (depthV k ME BA ≤ 3)) = _
  cases h : okV k s sg bg NA NU ME BA ct with
  | false => rfl
  | true => rw [decide_eq_true (okV_top h).2]; rfl
noncomputable def qbt_t (k s : Int) (sg bg : Bool) (NA NU ME BA : LL) (ct : Int) : Tr (Bool) := (.ite ((k == (1 : Int)) = true) (.ok true)
  (.ite ((k == (3 : Int)) = true) (.ok true)
   (.ok (k == (6 : Int)))))
def qbt_mk (p : Bool) : Res := [(false, [⟨.bool, .sh, TC.b p⟩])]
noncomputable def qbt_c (k s : Int) (sg bg : Bool) (NA NU ME BA : LL) (ct : Int) : Bool := (bif (k == (1 : Int)) then true else (bif (k == (3 : Int)) then true else true))
noncomputable def qbt_v (k s : Int) (sg bg : Bool) (NA NU ME BA : LL) (ct : Int) : Bool := (bif (k == (1 : Int)) then true else (bif (k == (3 : Int)) then true else (k == (6 : Int))))
theorem qbt_l (k s : Int) (sg bg : Bool) (NA NU ME BA : LL) (ct : Int) : (qbt_c k s sg bg NA NU ME BA ct) = true → (qbt_t k s sg bg NA NU ME BA ct).val = some (qbt_v k s sg bg NA NU ME BA ct) := by
  unfold qbt_t qbt_v qbt_c
  exact fun h => (Tr.ss h (fun h => rfl) (fun h => (Tr.ss h (fun h => rfl) (fun h => rfl))))
noncomputable def qbt_S : List Arg → Option (Bool × Res) := fun xs => match xs with
  | [(true, [(.int .i64, TC.i k), (.int .i64, TC.i s), (.bool, TC.b sg), (.bool, TC.b bg), (.slice 9, TC.l NA), (.slice 2, TC.l NU), (.slice 71, TC.l ME), (.slice 32, TC.l BA), (.int .i64, TC.i ct)])] => some ((qbt_c k s sg bg NA NU ME BA ct), qbt_mk (qbt_v k s sg bg NA NU ME BA ct))
  | _ => .none
theorem qbt_e (k s : Int) (sg bg : Bool) (NA NU ME BA : LL) (ct : Int) : runF tab FT D52 live 56 noLoops [(true, [(.int .i64, TC.i k), (.int .i64, TC.i s), (.bool, TC.b sg), (.bool, TC.b bg), (.slice 9, TC.l NA), (.slice 2, TC.l NU), (.slice 71, TC.l ME), (.slice 32, TC.l BA), (.int .i64, TC.i ct)])] = (qbt_t k s sg bg NA NU ME BA ct).run fun p => some (qbt_mk p) := by kernel_rfl
theorem qbt_s : ∀ xs r, qbt_S xs = some (true, r) → runF tab FT D52 live 56 noLoops xs = some r := by
  intro xs r h
  unfold qbt_S at h
  split at h
  · simp only [Option.some.injEq, Prod.mk.injEq] at h
    obtain ⟨h1, rfl⟩ := h
    exact fun_told (qbt_e _ _ _ _ _ _ _ _ _) (qbt_l _ _ _ _ _ _ _ _ _) h1
  · cases h
noncomputable def D53 : Dt := also D52 56 qbt_S
theorem d53 : DOk Go.Proofs.Try.prog tab D53 := d52.also mixed_ok tab_ok names_ok noLoops_ok qbt_s
theorem qbt_vv (k s : Int) (sg bg : Bool) (NA NU ME BA : LL) (ct : Int) : qbt_v k s sg bg NA NU ME BA ct = numK k := rfl
noncomputable def qbq_t (k s : Int) (sg bg : Bool) (NA NU ME BA : LL) (ct : Int) : Tr (Int × Int) := (.ite ((k == (3 : Int)) = true) (.ite ((0 : Int) ≤ (0 : Int) ∧ (0 : Int) < (NU.length : Int)) (.ite ((0 : Int) ≤ (IntKind.wrap .i64 ((NU.length : Int) - (1 : Int))) ∧ (IntKind.wrap .i64 ((NU.length : Int) - (1 : Int))) < (NU.length : Int)) (.ok ((nth (row NU (0 : Int)) 0).int, (nth (row NU (IntKind.wrap .i64 ((NU.length : Int) - (1 : Int)))) 0).int))
    .no)
   .no)
  (.ite ((k == (6 : Int)) = true) (.ok ((0 : Int), (65535 : Int)))
   (.ite ((qbn_c k s sg bg NA NU ME BA ct) = true) (.ok ((qbn_v k s sg bg NA NU ME BA ct).1, (qbn_v k s sg bg NA NU ME BA ct).2))
    .no)))
def qbq_mk (p : Int × Int) : Res := [(false, [⟨.int .i64, .sh, TC.i (p.1)⟩]), (false, [⟨.int .i64, .sh, TC.i (p.2)⟩])]
noncomputable def qbq_c (k s : Int) (sg bg : Bool) (NA NU ME BA : LL) (ct : Int) : Bool := (bif (k == (3 : Int)) then (is ((0 : Int) ≤ (0 : Int) ∧ (0 : Int) < (NU.length : Int)) && (is ((0 : Int) ≤ (IntKind.wrap .i64 ((NU.length : Int) - (1 : Int))) ∧ (IntKind.wrap .i64 ((NU.length : Int) - (1 : Int))) < (NU.length : Int)) && true)) else (bif (k == (6 : Int)) then true else ((qbn_c k s sg bg NA NU ME BA ct) && true)))
noncomputable def qbq_v (k s : Int) (sg bg : Bool) (NA NU ME BA : LL) (ct : Int) : Int × Int := (bif (k == (3 : Int)) then ((nth (row NU (0 : Int)) 0).int, (nth (row NU (IntKind.wrap .i64 ((NU.length : Int) - (1 : Int)))) 0).int) else (bif (k == (6 : Int)) then ((0 : Int), (65535 : Int)) else ((qbn_v k s sg bg NA NU ME BA ct).1, (qbn_v k s sg bg NA NU ME BA ct).2)))
theorem qbq_l (k s : Int) (sg bg : Bool) (NA NU ME BA : LL) (ct : Int) : (qbq_c k s sg bg NA NU ME BA ct) = true → (qbq_t k s sg bg NA NU ME BA ct).val = some (qbq_v k s sg bg NA NU ME BA ct) := by
  unfold qbq_t qbq_v qbq_c
  exact fun h => (Tr.ss h (fun h => (Tr.gs h fun h => (Tr.gs h fun h => rfl))) (fun h => (Tr.ss h (fun h => rfl) (fun h => (Tr.gb h fun h => rfl)))))
noncomputable def qbq_S : List Arg → Option (Bool × Res) := fun xs => match xs with
  | [(true, [(.int .i64, TC.i k), (.int .i64, TC.i s), (.bool, TC.b sg), (.bool, TC.b bg), (.slice 9, TC.l NA), (.slice 2, TC.l NU), (.slice 71, TC.l ME), (.slice 32, TC.l BA), (.int .i64, TC.i ct)])] => some ((qbq_c k s sg bg NA NU ME BA ct), qbq_mk (qbq_v k s sg bg NA NU ME BA ct))
  | _ => .none
theorem qbq_e (k s : Int) (sg bg : Bool) (NA NU ME BA : LL) (ct : Int) : runF tab FT D53 live 89 noLoops [(true, [(.int .i64, TC.i k), (.int .i64, TC.i s), (.bool, TC.b sg), (.bool, TC.b bg), (.slice 9, TC.l NA), (.slice 2, TC.l NU), (.slice 71, TC.l ME), (.slice 32, TC.l BA), (.int .i64, TC.i ct)])] = (qbq_t k s sg bg NA NU ME BA ct).run fun p => some (qbq_mk p) := by kernel_rfl
theorem qbq_s : ∀ xs r, qbq_S xs = some (true, r) → runF tab FT D53 live 89 noLoops xs = some r := by
  intro xs r h
  unfold qbq_S at h
  split at h
  · simp only [Option.some.injEq, Prod.mk.injEq] at h
    obtain ⟨h1, rfl⟩ := h
    exact fun_told (qbq_e _ _ _ _ _ _ _ _ _) (qbq_l _ _ _ _ _ _ _ _ _) h1
  · cases h
noncomputable def D54 : Dt := also D53 89 qbq_S
theorem d54 : DOk Go.Proofs.Try.prog tab D54 := d53.also mixed_ok tab_ok names_ok noLoops_ok qbq_s
theorem qbq_ok {k s : Int} {sg bg : Bool} {NA NU ME BA : LL} {ct : Int} (h : okV k s sg bg NA NU ME BA ct = true) (hn : numK k = true) : qbq_c k s sg bg NA NU ME BA ct = true ∧ qbq_v k s sg bg NA NU ME BA ct = rangeT k s sg NU := by
  rcases okV_kind h with rfl | rfl | rfl | rfl | rfl | rfl
  · obtain ⟨q1, q2, q3⟩ := irange (k := 1) (okV_int h)
    refine ⟨?_, ?_⟩
    · show (qbn_c 1 s sg bg NA NU ME BA ct && true) = true
      rw [q1]; rfl
    · show ((qbn_v 1 s sg bg NA NU ME BA ct).1, (qbn_v 1 s sg bg NA NU ME BA ct).2) = (loV s sg, hiV s sg)
      rw [q2, q3]
  · cases hn
  · obtain ⟨e1, e2, -⟩ := okV_enum h
    have hw : IntKind.wrap .i64 ((NU.length : Int) - (1 : Int)) = (NU.length : Int) - 1 := wrap64 (by omega) (by omega)
    refine ⟨?_, rfl⟩
    show (is ((0 : Int) ≤ (0 : Int) ∧ (0 : Int) < (NU.length : Int)) && (is ((0 : Int) ≤ (IntKind.wrap .i64 ((NU.length : Int) - (1 : Int))) ∧ (IntKind.wrap .i64 ((NU.length : Int) - (1 : Int))) < (NU.length : Int)) && true)) = true
    rw [hw]
    exact andT (is_true ⟨by omega, by omega⟩) (andT (is_true ⟨by omega, by omega⟩) rfl)
  · cases hn
  · cases hn
  · exact ⟨rfl, rfl⟩
noncomputable def qcm_t (a0 : Int) : Tr (Bool) := .ok (!(a0 == a0))
def qcm_mk (p : Bool) : Res := [(false, [⟨.bool, .sh, TC.b p⟩])]
noncomputable def qcm_c (a0 : Int) : Bool := true
noncomputable def qcm_v (a0 : Int) : Bool := (!(a0 == a0))
theorem qcm_l (a0 : Int) : (qcm_c a0) = true → (qcm_t a0).val = some (qcm_v a0) := by
  intro h
  skip
  unfold qcm_t qcm_v
  exact rfl
noncomputable def qcm_S : List Arg → Option (Bool × Res) := fun xs => match xs with
  | [(false, [(.int .i64, TC.i a0)])] => some (true, qcm_mk (qcm_v a0))
  | _ => .none
theorem qcm_e (a0 : Int) : runF tab FT D54 live 140 noLoops [(false, [(.int .i64, TC.i a0)])] = (qcm_t a0).run fun p => some (qcm_mk p) := by kernel_rfl
theorem qcm_s : ∀ xs r, qcm_S xs = some (true, r) → runF tab FT D54 live 140 noLoops xs = some r := by
  intro xs r h
  unfold qcm_S at h
  split at h
  · simp only [Option.some.injEq, Prod.mk.injEq] at h
    obtain ⟨h1, rfl⟩ := h
    exact fun_told (qcm_e _) (qcm_l _) rfl
  · cases h
noncomputable def D55 : Dt := also D54 140 qcm_S
theorem d55 : DOk Go.Proofs.Try.prog tab D55 := d54.also mixed_ok tab_ok names_ok noLoops_ok qcm_s
noncomputable def qck_t (a0 a1 : Int) : Tr (Bool) := (.ite ((!(a0 == a0)) = true) (.ite ((!(!(a1 == a1))) = true) (.ok true)
   (.ok (decide (a0 < a1))))
  (.ok (decide (a0 < a1))))
def qck_mk (p : Bool) : Res := [(false, [⟨.bool, .sh, TC.b p⟩])]
noncomputable def qck_c (a0 a1 : Int) : Bool := true
noncomputable def qck_v (a0 a1 : Int) : Bool := (bif (!(a0 == a0)) then (bif (!(!(a1 == a1))) then true else (decide (a0 < a1))) else (decide (a0 < a1)))
theorem qck_l (a0 a1 : Int) : (qck_c a0 a1) = true → (qck_t a0 a1).val = some (qck_v a0 a1) := by
  intro h
  skip
  unfold qck_t qck_v
  exact (Tr.s (Tr.s rfl rfl) rfl)
noncomputable def qck_S : List Arg → Option (Bool × Res) := fun xs => match xs with
  | [(false, [(.int .i64, TC.i a0)]), (false, [(.int .i64, TC.i a1)])] => some (true, qck_mk (qck_v a0 a1))
  | _ => .none
theorem qck_e (a0 a1 : Int) : runF tab FT D55 live 114 noLoops [(false, [(.int .i64, TC.i a0)]), (false, [(.int .i64, TC.i a1)])] = (qck_t a0 a1).run fun p => some (qck_mk p) := by kernel_rfl
theorem qck_s : ∀ xs r, qck_S xs = some (true, r) → runF tab FT D55 live 114 noLoops xs = some r := by
  intro xs r h
  unfold qck_S at h
  split at h
  · simp only [Option.some.injEq, Prod.mk.injEq] at h
    obtain ⟨h1, rfl⟩ := h
    exact fun_told (qck_e _ _) (qck_l _ _) rfl
  · cases h
noncomputable def D56 : Dt := also D55 114 qck_S
theorem d56 : DOk Go.Proofs.Try.prog tab D56 := d55.also mixed_ok tab_ok names_ok noLoops_ok qck_s
noncomputable def qci_t (a0 : Int) : Tr (Bool) := .ok (!(a0 == a0))
def qci_mk (p : Bool) : Res := [(false, [⟨.bool, .sh, TC.b p⟩])]
noncomputable def qci_c (a0 : Int) : Bool := true
noncomputable def qci_v (a0 : Int) : Bool := (!(a0 == a0))
theorem qci_l (a0 : Int) : (qci_c a0) = true → (qci_t a0).val = some (qci_v a0) := by
  intro h
  skip
  unfold qci_t qci_v
  exact rfl
noncomputable def qci_S : List Arg → Option (Bool × Res) := fun xs => match xs with
  | [(false, [(.int .i64, TC.i a0)])] => some (true, qci_mk (qci_v a0))
  | _ => .none
theorem qci_e (a0 : Int) : runF tab FT D56 live 115 noLoops [(false, [(.int .i64, TC.i a0)])] = (qci_t a0).run fun p => some (qci_mk p) := by kernel_rfl
theorem qci_s : ∀ xs r, qci_S xs = some (true, r) → runF tab FT D56 live 115 noLoops xs = some r := by
  intro xs r h
  unfold qci_S at h
  split at h
  · simp only [Option.some.injEq, Prod.mk.injEq] at h
    obtain ⟨h1, rfl⟩ := h
    exact fun_told (qci_e _) (qci_l _) rfl
  · cases h
noncomputable def D57 : Dt := also D56 115 qci_S
theorem d57 : DOk Go.Proofs.Try.prog tab D57 := d56.also mixed_ok tab_ok names_ok noLoops_ok qci_s
abbrev qe_3_σ := LL × Int × Int × Int × Int
abbrev qe_3_ω := (LL × Int × Int × Int)
noncomputable def qe_3_step (A : LL) (t m i j : Int) : Tr (qe_3_σ ⊕ qe_3_ω) := (.ite ((decide (i < j)) = true) (.ite ((0 : Int) ≤ (IntKind.wrap .i64 (Int.fdiv (IntKind.wrap .u64 (IntKind.wrap .i64 (i + j))) 2)) ∧ (IntKind.wrap .i64 (Int.fdiv (IntKind.wrap .u64 (IntKind.wrap .i64 (i + j))) 2)) < (A.length : Int)) (.ite ((qck_v ((nth (row A (IntKind.wrap .i64 (Int.fdiv (IntKind.wrap .u64 (IntKind.wrap .i64 (i + j))) 2))) 0).int) t) = true) (.ok (.inl (A, t, m, (IntKind.wrap .i64 ((IntKind.wrap .i64 (Int.fdiv (IntKind.wrap .u64 (IntKind.wrap .i64 (i + j))) 2)) + (1 : Int))), j)))
    (.ok (.inl (A, t, m, i, (IntKind.wrap .i64 (Int.fdiv (IntKind.wrap .u64 (IntKind.wrap .i64 (i + j))) 2))))))
   .no)
  (.ok (.inr (A, t, m, i))))
noncomputable def qe_3_st : qe_3_σ → Tr (qe_3_σ ⊕ qe_3_ω) := fun x => (qe_3_step (x.1) (x.2.1) (x.2.2.1) (x.2.2.2.1) (x.2.2.2.2))
noncomputable def qe_o3_1 (A : LL) (t m i j : Int) : Bool := is ((∀ p q : Nat, p ≤ q → q < A.length → intAt A (q : Int) < t → intAt A (p : Int) < t) ∧ A.length ≤ 1000 ∧ m = (A.length : Int) ∧ i = 0 ∧ j = (A.length : Int))
noncomputable def qe_u3_1_2 (A : LL) (t m i j : Int) : Int := (A.length : Int)
noncomputable def qe_u3_1_3 (A : LL) (t m i j : Int) : Int := ((idxI (fun i : Nat => decide (intAt A (i : Int) < t)) A.length : Nat) : Int)
noncomputable def qe_3_fin (A : LL) (t m i j : Int) : Told qe_3_ω := (.leaf (qe_o3_1 A t m i j) (A, t, (qe_u3_1_2 A t m i j), (qe_u3_1_3 A t m i j)))
def qe_3_sl (x : qe_3_σ) : List Slot := [⟨.val false [⟨.slice 2, .sh, TC.l (x.1)⟩], ⟨0, 0⟩⟩, ⟨.val false [⟨.int .i64, .sh, TC.i (x.2.1)⟩], ⟨0, 0⟩⟩, ⟨.val false [⟨.int .i64, .sh, TC.i (x.2.2.1)⟩], ⟨0, 0⟩⟩, ⟨.val false [⟨.int .i64, .sh, TC.i (x.2.2.2.1)⟩], ⟨0, 0⟩⟩, ⟨.val false [⟨.int .i64, .sh, TC.i (x.2.2.2.2)⟩], ⟨0, 0⟩⟩]
def qe_3_out : qe_3_ω → Ex × List Slot := (fun x => (.exit 0, [⟨.val false [⟨.slice 2, .sh, TC.l (x.1)⟩], ⟨0, 0⟩⟩, ⟨.val false [⟨.int .i64, .sh, TC.i (x.2.1)⟩], ⟨0, 0⟩⟩, Slot.none, Slot.none, ⟨.val false [⟨.int .i64, .sh, TC.i (x.2.2.1)⟩], ⟨0, 0⟩⟩, ⟨.val false [⟨.int .i64, .sh, TC.i (x.2.2.2)⟩], ⟨0, 0⟩⟩]))
noncomputable def qe_lo3 : List Slot → Option (Told (Ex × List Slot)) := fun s => match s with
  | [⟨.val false [⟨.slice 2, .sh, TC.l A⟩], ⟨0, 0⟩⟩, ⟨.val false [⟨.int .i64, .sh, TC.i t⟩], ⟨0, 0⟩⟩, ⟨.val false [⟨.int .i64, .sh, TC.i m⟩], ⟨0, 0⟩⟩, ⟨.val false [⟨.int .i64, .sh, TC.i i⟩], ⟨0, 0⟩⟩, ⟨.val false [⟨.int .i64, .sh, TC.i j⟩], ⟨0, 0⟩⟩] => some (((qe_3_fin A t m i j)).map qe_3_out)
  | _ => .none
noncomputable def qe_lo : LoopTeller := fun r s => bif Nat.beq r 3 then qe_lo3 s else .none
theorem qe_3_r (A : LL) (t m i j : Int) (fuel : Nat) : rounds (rnd tab FT D57 live 90 qe_lo 0 3) leave (fuel + 1) (qe_3_sl (A, t, m, i, j)) = ((qe_3_step A t m i j)).run (goOn (fun s => rounds (rnd tab FT D57 live 90 qe_lo 0 3) leave fuel (qe_3_sl s)) fun w => some (qe_3_out w)) := by kernel_rfl
theorem qe_3_h (A : LL) (t m i j : Int) (ow : qe_3_ω) : ((qe_3_fin A t m i j)).val = some ow → ∃ fuel, loopN qe_3_st fuel (A, t, m, i, j) = some ow := by
  intro h
  refine auto_leaf (R := (A, t, (A.length : Int), ((idxI (fun i : Nat => decide (intAt A (i : Int) < t)) A.length : Nat) : Int))) (fun ho => ?_) h
  obtain ⟨hm, hl, rfl, rfl, rfl⟩ := is_iff.1 ho
  obtain ⟨k, a1, a2, a3, a4⟩ := idx_split (fun i : Nat => decide (intAt A (i : Int) < t)) A.length
  rw [a4]
  have a2 : ∀ j : Nat, j < k → intAt A (j : Int) < t := fun j hj => of_decide_eq_true (a2 j hj)
  have a3 : k < A.length → ¬ intAt A (k : Int) < t := fun hk => of_decide_eq_false (a3 hk)
  have key : ∀ d i j : Nat, j - i ≤ d → i ≤ k → k ≤ j → j ≤ A.length → ∃ fuel, loopN qe_3_st fuel (A, t, (A.length : Int), (i : Int), (j : Int)) = some (A, t, (A.length : Int), (k : Int)) := by
    intro d
    induction d with
    | zero =>
      intro i j hd hi hj hjl
      refine ⟨1, loopN_end ?_⟩
      show (qe_3_step A t (A.length : Int) (i : Int) (j : Int)).val = _
      unfold qe_3_step
      refine Tr.n (by simp; omega) ?_
      rw [show i = k by omega]; rfl
    | succ d ih =>
      intro i j hd hi hj hjl
      by_cases hij : i < j
      · have hh : IntKind.wrap .i64 (Int.fdiv (IntKind.wrap .u64 (IntKind.wrap .i64 ((i : Int) + (j : Int)))) 2) = (((i + j) / 2 : Nat) : Int) := by
          rw [wrap64 (i := (i : Int) + (j : Int)) (by omega) (by omega), IntKind.wrap_u64]
          have e1 : ((i : Int) + (j : Int)) % 18446744073709551616 = ((i + j : Nat) : Int) := by omega
          rw [e1]
          have e2 : Int.fdiv ((i + j : Nat) : Int) 2 = (((i + j) / 2 : Nat) : Int) := by
            rw [Int.fdiv_eq_ediv_of_nonneg _ (by omega)]; omega
          rw [e2, wrap64 (by omega) (by omega)]
        have hhb : i ≤ (i + j) / 2 ∧ (i + j) / 2 < j := by omega
        have hcl : ∀ x : Int, qck_v x t = decide (x < t) := fun x => by
          unfold qck_v
          simp
        by_cases hx : intAt A (((i + j) / 2 : Nat) : Int) < t
        · have hik : (i + j) / 2 + 1 ≤ k := by
            rcases Nat.lt_or_ge ((i + j) / 2) k with h | h
            · omega
            · exact absurd (hm k ((i + j) / 2) h (by omega) hx) (a3 (by omega))
          obtain ⟨fuel, hf⟩ := ih ((i + j) / 2 + 1) j (by omega) hik hj hjl
          refine ⟨fuel + 1, (loopN_next ?_).trans hf⟩
          show (qe_3_step A t (A.length : Int) (i : Int) (j : Int)).val = _
          unfold qe_3_step
          rw [hh, hcl]
          refine Tr.t (by simp; omega) (Tr.t (by constructor <;> omega) (Tr.t (decide_eq_true hx) ?_))
          rw [wrap64 (i := (((i + j) / 2 : Nat) : Int) + 1) (by omega) (by omega)]
          rfl
        · have hik : k ≤ (i + j) / 2 := by
            rcases Nat.lt_or_ge ((i + j) / 2) k with h | h
            · exact absurd (a2 _ h) hx
            · exact h
          obtain ⟨fuel, hf⟩ := ih i ((i + j) / 2) (by omega) hi hik (by omega)
          refine ⟨fuel + 1, (loopN_next ?_).trans hf⟩
          show (qe_3_step A t (A.length : Int) (i : Int) (j : Int)).val = _
          unfold qe_3_step
          rw [hh, hcl]
          refine Tr.t (by simp; omega) (Tr.t (by constructor <;> omega) (Tr.n (by rw [show decide ((nth (row A (((i + j) / 2 : Nat) : Int)) 0).int < t) = false from decide_eq_false hx]; simp) ?_))
          rfl
      · refine ⟨1, loopN_end ?_⟩
        show (qe_3_step A t (A.length : Int) (i : Int) (j : Int)).val = _
        unfold qe_3_step
        refine Tr.n (by simp; omega) ?_
        rw [show i = k by omega]; rfl
  exact key A.length 0 A.length (by omega) (by omega) a1 (Nat.le_refl _)
theorem qe_is3 : LoopIs tab FT D57 live 90 qe_lo 0 3 := by
  refine loop_told (sl := qe_3_sl) (step := qe_3_st) (out := qe_3_out) (lor := qe_lo3) (fin := fun x => (qe_3_fin (x.1) (x.2.1) (x.2.2.1) (x.2.2.2.1) (x.2.2.2.2))) (fun _ => rfl) ?_ (fun x n => qe_3_r x.1 x.2.1 x.2.2.1 x.2.2.2.1 x.2.2.2.2 n) (fun x ow => qe_3_h x.1 x.2.1 x.2.2.1 x.2.2.2.1 x.2.2.2.2 ow)
  intro s t h
  unfold qe_lo3 at h
  split at h
  · cases h; exact ⟨(_, _, _, _, _), rfl, rfl⟩
  · cases h
noncomputable def qe_t (A : LL) (t : Int) : Tr (Int × Bool) := (.ite ((qe_o3_1 A t (A.length : Int) (0 : Int) (A.length : Int)) = true) (.ite ((decide ((qe_u3_1_3 A t (A.length : Int) (0 : Int) (A.length : Int)) < (qe_u3_1_2 A t (A.length : Int) (0 : Int) (A.length : Int)))) = true) (.ite ((0 : Int) ≤ (qe_u3_1_3 A t (A.length : Int) (0 : Int) (A.length : Int)) ∧ (qe_u3_1_3 A t (A.length : Int) (0 : Int) (A.length : Int)) < (A.length : Int)) (.ite (((nth (row A (qe_u3_1_3 A t (A.length : Int) (0 : Int) (A.length : Int))) 0).int == t) = true) (.ok ((qe_u3_1_3 A t (A.length : Int) (0 : Int) (A.length : Int)), true))
     (.ite ((0 : Int) ≤ (qe_u3_1_3 A t (A.length : Int) (0 : Int) (A.length : Int)) ∧ (qe_u3_1_3 A t (A.length : Int) (0 : Int) (A.length : Int)) < (A.length : Int)) (.ite ((!((nth (row A (qe_u3_1_3 A t (A.length : Int) (0 : Int) (A.length : Int))) 0).int == (nth (row A (qe_u3_1_3 A t (A.length : Int) (0 : Int) (A.length : Int))) 0).int)) = true) (.ok ((qe_u3_1_3 A t (A.length : Int) (0 : Int) (A.length : Int)), (!(t == t))))
       (.ok ((qe_u3_1_3 A t (A.length : Int) (0 : Int) (A.length : Int)), false)))
      .no))
    .no)
   (.ok ((qe_u3_1_3 A t (A.length : Int) (0 : Int) (A.length : Int)), false)))
  .no)
def qe_mk (p : Int × Bool) : Res := [(false, [⟨.int .i64, .sh, TC.i (p.1)⟩]), (false, [⟨.bool, .sh, TC.b (p.2)⟩])]
noncomputable def qe_c (A : LL) (t : Int) : Bool := is ((∀ p q : Nat, p ≤ q → q < A.length → intAt A (q : Int) < t → intAt A (p : Int) < t) ∧ A.length ≤ 1000)
noncomputable def qe_v (A : LL) (t : Int) : Int × Bool := (((idxI (fun i : Nat => decide (intAt A (i : Int) < t)) A.length : Nat) : Int), bif decide (((idxI (fun i : Nat => decide (intAt A (i : Int) < t)) A.length : Nat) : Int) < (A.length : Int)) then intAt A ((idxI (fun i : Nat => decide (intAt A (i : Int) < t)) A.length : Nat) : Int) == t else false)
theorem qe_l (A : LL) (t : Int) : (qe_c A t) = true → (qe_t A t).val = some (qe_v A t) := by
  intro h
  obtain ⟨hm, hl⟩ := is_iff.1 h
  obtain ⟨k, a1, a2, a3, a4⟩ := idx_split (fun i : Nat => decide (intAt A (i : Int) < t)) A.length
  unfold qe_t qe_v
  rw [show qe_u3_1_3 A t (A.length : Int) (0 : Int) (A.length : Int) = (k : Int) from congrArg Int.ofNat a4, show qe_u3_1_2 A t (A.length : Int) (0 : Int) (A.length : Int) = (A.length : Int) from rfl, a4]
  refine Tr.t (is_true ⟨hm, hl, rfl, rfl, rfl⟩) ?_
  by_cases hk : k < A.length
  · rw [decide_eq_true (show (k : Int) < (A.length : Int) by omega)]
    refine Tr.t rfl (Tr.t ⟨by omega, by omega⟩ ?_)
    by_cases he : intAt A (k : Int) = t
    · refine Tr.t (by show (intAt A (k : Int) == t) = true; rw [he]; simp) ?_
      show _ = some ((k : Int), intAt A (k : Int) == t)
      rw [he]; simp
    · refine Tr.n (by show ¬ (intAt A (k : Int) == t) = true; simpa using he) (Tr.t ⟨by omega, by omega⟩ (Tr.n (by simp) ?_))
      show _ = some ((k : Int), intAt A (k : Int) == t)
      rw [show (intAt A (k : Int) == t) = false by simpa using he]; rfl
  · rw [decide_eq_false (show ¬ (k : Int) < (A.length : Int) by omega)]
    refine Tr.n (by simp) ?_
    rfl
noncomputable def qe_S : List Arg → Option (Bool × Res) := fun xs => match xs with
  | [(false, [(.slice 2, TC.l A)]), (false, [(.int .i64, TC.i t)])] => some ((qe_c A t), qe_mk (qe_v A t))
  | _ => .none
theorem qe_e (A : LL) (t : Int) : runF tab FT D57 live 90 qe_lo [(false, [(.slice 2, TC.l A)]), (false, [(.int .i64, TC.i t)])] = (qe_t A t).run fun p => some (qe_mk p) := by kernel_rfl
theorem qe_s : ∀ xs r, qe_S xs = some (true, r) → runF tab FT D57 live 90 qe_lo xs = some r := by
  intro xs r h
  unfold qe_S at h
  split at h
  · simp only [Option.some.injEq, Prod.mk.injEq] at h
    obtain ⟨h1, rfl⟩ := h
    exact fun_told (qe_e _ _) (qe_l _ _) h1
  · cases h
noncomputable def D58 : Dt := also D57 90 qe_S
theorem d58 : DOk Go.Proofs.Try.prog tab D58 := d57.also mixed_ok tab_ok names_ok (fnLoops_one (by kernel_rfl) qe_is3) qe_s
noncomputable def qby_t (k s : Int) (sg bg : Bool) (NA NU ME BA : LL) (ct n : Int) : Tr (Int) := (.ite ((qbq_c k s sg bg NA NU ME BA ct) = true) (.ite ((decide (n ≤ (qbq_v k s sg bg NA NU ME BA ct).1)) = true) (.ok ((qbq_v k s sg bg NA NU ME BA ct).1))
   (.ite ((decide (n ≥ (qbq_v k s sg bg NA NU ME BA ct).2)) = true) (.ok ((qbq_v k s sg bg NA NU ME BA ct).2))
    (.ite ((!(k == (3 : Int))) = true) (.ok n)
     (.ite ((qe_c NU n) = true) (.ite ((0 : Int) ≤ (IntKind.wrap .i64 ((qe_v NU n).1 - (1 : Int))) ∧ (IntKind.wrap .i64 ((qe_v NU n).1 - (1 : Int))) < (NU.length : Int)) (.ite ((0 : Int) ≤ (qe_v NU n).1 ∧ (qe_v NU n).1 < (NU.length : Int)) (.ite ((decide ((IntKind.wrap .u64 ((IntKind.wrap .u64 ((nth (row NU ((qe_v NU n).1)) 0).int)) - (IntKind.wrap .u64 n))) ≥ (IntKind.wrap .u64 ((IntKind.wrap .u64 n) - (IntKind.wrap .u64 ((nth (row NU (IntKind.wrap .i64 ((qe_v NU n).1 - (1 : Int)))) 0).int)))))) = true) (.ok ((nth (row NU (IntKind.wrap .i64 ((qe_v NU n).1 - (1 : Int)))) 0).int))
         (.ite ((0 : Int) ≤ (qe_v NU n).1 ∧ (qe_v NU n).1 < (NU.length : Int)) (.ok ((nth (row NU ((qe_v NU n).1)) 0).int))
          .no))
        .no)
       .no)
      .no))))
  .no)
def qby_mk (p : Int) : Res := [(false, [⟨.int .i64, .sh, TC.i p⟩])]
noncomputable def qby_c (k s : Int) (sg bg : Bool) (NA NU ME BA : LL) (ct n : Int) : Bool := ((qbq_c k s sg bg NA NU ME BA ct) && (bif (decide (n ≤ (qbq_v k s sg bg NA NU ME BA ct).1)) then true else (bif (decide (n ≥ (qbq_v k s sg bg NA NU ME BA ct).2)) then true else (bif (!(k == (3 : Int))) then true else ((qe_c NU n) && (is ((0 : Int) ≤ (IntKind.wrap .i64 ((qe_v NU n).1 - (1 : Int))) ∧ (IntKind.wrap .i64 ((qe_v NU n).1 - (1 : Int))) < (NU.length : Int)) && (is ((0 : Int) ≤ (qe_v NU n).1 ∧ (qe_v NU n).1 < (NU.length : Int)) && (bif (decide ((IntKind.wrap .u64 ((IntKind.wrap .u64 ((nth (row NU ((qe_v NU n).1)) 0).int)) - (IntKind.wrap .u64 n))) ≥ (IntKind.wrap .u64 ((IntKind.wrap .u64 n) - (IntKind.wrap .u64 ((nth (row NU (IntKind.wrap .i64 ((qe_v NU n).1 - (1 : Int)))) 0).int)))))) then true else (is ((0 : Int) ≤ (qe_v NU n).1 ∧ (qe_v NU n).1 < (NU.length : Int)) && true)))))))))
noncomputable def qby_v (k s : Int) (sg bg : Bool) (NA NU ME BA : LL) (ct n : Int) : Int := (bif (decide (n ≤ (qbq_v k s sg bg NA NU ME BA ct).1)) then (qbq_v k s sg bg NA NU ME BA ct).1 else (bif (decide (n ≥ (qbq_v k s sg bg NA NU ME BA ct).2)) then (qbq_v k s sg bg NA NU ME BA ct).2 else (bif (!(k == (3 : Int))) then n else (bif (decide ((IntKind.wrap .u64 ((IntKind.wrap .u64 ((nth (row NU ((qe_v NU n).1)) 0).int)) - (IntKind.wrap .u64 n))) ≥ (IntKind.wrap .u64 ((IntKind.wrap .u64 n) - (IntKind.wrap .u64 ((nth (row NU (IntKind.wrap .i64 ((qe_v NU n).1 - (1 : Int)))) 0).int)))))) then (nth (row NU (IntKind.wrap .i64 ((qe_v NU n).1 - (1 : Int)))) 0).int else (nth (row NU ((qe_v NU n).1)) 0).int))))
theorem qby_l (k s : Int) (sg bg : Bool) (NA NU ME BA : LL) (ct n : Int) : (qby_c k s sg bg NA NU ME BA ct n) = true → (qby_t k s sg bg NA NU ME BA ct n).val = some (qby_v k s sg bg NA NU ME BA ct n) := by
  unfold qby_t qby_v qby_c
  exact fun h => (Tr.gb h fun h => (Tr.ss h (fun h => rfl) (fun h => (Tr.ss h (fun h => rfl) (fun h => (Tr.ss h (fun h => rfl) (fun h => (Tr.gb h fun h => (Tr.gs h fun h => (Tr.gs h fun h => (Tr.ss h (fun h => rfl) (fun h => (Tr.gs h fun h => rfl)))))))))))))
noncomputable def qby_S : List Arg → Option (Bool × Res) := fun xs => match xs with
  | [(true, [(.int .i64, TC.i k), (.int .i64, TC.i s), (.bool, TC.b sg), (.bool, TC.b bg), (.slice 9, TC.l NA), (.slice 2, TC.l NU), (.slice 71, TC.l ME), (.slice 32, TC.l BA), (.int .i64, TC.i ct)]), (false, [(.int .i64, TC.i n)])] => some ((qby_c k s sg bg NA NU ME BA ct n), qby_mk (qby_v k s sg bg NA NU ME BA ct n))
  | _ => .none
theorem qby_e (k s : Int) (sg bg : Bool) (NA NU ME BA : LL) (ct n : Int) : runF tab FT D58 live 57 noLoops [(true, [(.int .i64, TC.i k), (.int .i64, TC.i s), (.bool, TC.b sg), (.bool, TC.b bg), (.slice 9, TC.l NA), (.slice 2, TC.l NU), (.slice 71, TC.l ME), (.slice 32, TC.l BA), (.int .i64, TC.i ct)]), (false, [(.int .i64, TC.i n)])] = (qby_t k s sg bg NA NU ME BA ct n).run fun p => some (qby_mk p) := by kernel_rfl
theorem qby_s : ∀ xs r, qby_S xs = some (true, r) → runF tab FT D58 live 57 noLoops xs = some r := by
  intro xs r h
  unfold qby_S at h
  split at h
  · simp only [Option.some.injEq, Prod.mk.injEq] at h
    obtain ⟨h1, rfl⟩ := h
    exact fun_told (qby_e _ _ _ _ _ _ _ _ _ _) (qby_l _ _ _ _ _ _ _ _ _ _) h1
  · cases h
noncomputable def D59 : Dt := also D58 57 qby_S
theorem d59 : DOk Go.Proofs.Try.prog tab D59 := d58.also mixed_ok tab_ok names_ok noLoops_ok qby_s
theorem range_le {k s : Int} {sg bg : Bool} {NA NU ME BA : LL} {ct : Int} (h : okV k s sg bg NA NU ME BA ct = true) (hn : numK k = true) : (rangeT k s sg NU).1 ≤ (rangeT k s sg NU).2 := by
  rcases okV_kind h with rfl | rfl | rfl | rfl | rfl | rfl
  · exact (lo_hi (okV_int h)).1
  · cases hn
  · obtain ⟨e1, e2, -⟩ := okV_enum h
    obtain ⟨ha, -⟩ := enum_asc h
    show intAt NU (0 : Int) ≤ intAt NU (IntKind.wrap .i64 ((NU.length : Int) - (1 : Int)))
    rw [wrap64 (by omega) (by omega), show (NU.length : Int) - 1 = ((NU.length - 1 : Nat) : Int) by omega]
    rcases Nat.eq_zero_or_pos (NU.length - 1) with hz | hz
    · rw [hz]; exact Int.le_refl _
    · exact Int.le_of_lt (ha 0 (NU.length - 1) hz (by omega))
  · cases hn
  · cases hn
  · show (0 : Int) ≤ 65535
    decide
theorem range_enum {s : Int} {sg bg : Bool} {NA NU ME BA : LL} {ct : Int} (h : okV 3 s sg bg NA NU ME BA ct = true) : rangeT 3 s sg NU = (intAt NU ((0 : Nat) : Int), intAt NU ((NU.length - 1 : Nat) : Int)) := by
  obtain ⟨e1, e2, -⟩ := okV_enum h
  show (intAt NU 0, intAt NU (IntKind.wrap .i64 ((NU.length : Int) - (1 : Int)))) = _
  rw [wrap64 (by omega) (by omega), show (NU.length : Int) - 1 = ((NU.length - 1 : Nat) : Int) by omega]
  rfl
theorem clamped_ok {k s : Int} {sg bg : Bool} {NA NU ME BA : LL} {ct : Int} (h : okV k s sg bg NA NU ME BA ct = true) (hn : numK k = true) (n : Int) : qby_c k s sg bg NA NU ME BA ct n = true ∧ qby_v k s sg bg NA NU ME BA ct n = clampV k s sg NU n := by
  obtain ⟨rc, rv⟩ := qbq_ok h hn
  unfold qby_c qby_v clampV
  rw [rc, rv]
  by_cases h1 : n ≤ (rangeT k s sg NU).1
  · rw [decide_eq_true h1, if_pos h1]; exact ⟨rfl, rfl⟩
  rw [decide_eq_false h1, if_neg h1]
  by_cases h2 : n ≥ (rangeT k s sg NU).2
  · rw [decide_eq_true h2, if_pos h2]; exact ⟨rfl, rfl⟩
  rw [decide_eq_false h2, if_neg h2]
  cases h3 : (k == 3) with
  | false => exact ⟨rfl, rfl⟩
  | true =>
    have hk : k = 3 := eq_of_beq h3
    subst hk
    obtain ⟨e1, e2, -⟩ := okV_enum h
    obtain ⟨ha, hb⟩ := enum_asc h
    rw [range_enum h] at h1 h2
    dsimp only at h1 h2
    have le : ∀ p q : Nat, p ≤ q → q < NU.length → intAt NU (p : Int) ≤ intAt NU (q : Int) := fun p q hpq hq => by
      rcases Nat.lt_or_ge p q with h | h
      · exact Int.le_of_lt (ha p q h hq)
      · rw [show p = q by omega]; exact Int.le_refl _
    have hc : qe_c NU n = true := is_true ⟨fun p q hpq hq hlt => by have := le p q hpq hq; omega, by omega⟩
    obtain ⟨b, a1, a2, a3, a4⟩ := idx_split (fun i : Nat => decide (intAt NU (i : Int) < n)) NU.length
    have a2 : ∀ j : Nat, j < b → intAt NU (j : Int) < n := fun j hj => of_decide_eq_true (a2 j hj)
    have a3 : b < NU.length → ¬ intAt NU (b : Int) < n := fun hk => of_decide_eq_false (a3 hk)
    have hb0 : 0 < b := by
      rcases Nat.eq_zero_or_pos b with h | h
      · subst h; have := a3 (by omega); omega
      · exact h
    have hbl : b < NU.length := by
      rcases Nat.lt_or_ge b NU.length with h | h
      · exact h
      · have := a2 (NU.length - 1) (by omega); omega
    have q3 := a3 hbl
    have hbb := hb b hbl
    have hb1 := hb (b - 1) (by omega)
    have hlt := a2 (b - 1) (by omega)
    have hv : (qe_v NU n).1 = (b : Int) := congrArg Int.ofNat a4
    have hw : IntKind.wrap .i64 ((b : Int) - 1) = ((b - 1 : Nat) : Int) := by rw [wrap64 (by omega) (by omega)]; omega
    have hup := hb (NU.length - 1) (by omega)
    have hlo := hb 0 (by omega)
    rw [hc, hv, hw]
    have e1' : (nth (row NU (b : Int)) 0).int = intAt NU (b : Int) := rfl
    have e2' : (nth (row NU ((b - 1 : Nat) : Int)) 0).int = intAt NU ((b - 1 : Nat) : Int) := rfl
    rw [e1', e2', u64_sub (x := intAt NU (b : Int)) (by omega) (by omega), u64_sub (n := intAt NU ((b - 1 : Nat) : Int)) (by omega) (by omega)]
    rw [show is ((0 : Int) ≤ ((b - 1 : Nat) : Int) ∧ ((b - 1 : Nat) : Int) < (NU.length : Int)) = true from is_true ⟨by omega, by omega⟩, show is ((0 : Int) ≤ (b : Int) ∧ (b : Int) < (NU.length : Int)) = true from is_true ⟨by omega, by omega⟩]
    refine ⟨by cases decide (intAt NU (b : Int) - n ≥ n - intAt NU ((b - 1 : Nat) : Int)) <;> rfl, ?_⟩
    show (bif decide (intAt NU (b : Int) - n ≥ n - intAt NU ((b - 1 : Nat) : Int)) then intAt NU ((b - 1 : Nat) : Int) else intAt NU (b : Int)) = nearE NU n
    by_cases he : intAt NU (b : Int) = n
    · have near := near_eq (A := NU) (n := n) (k := b + 1) (by omega) (fun j hj => by
        rcases Nat.lt_or_ge j b with h | h
        · exact Int.le_of_lt (a2 j h)
        · rw [show j = b by omega]; omega) (fun hk => by have := ha b (b + 1) (by omega) hk; omega)
      rw [near, decide_eq_false (by omega)]
      simp only [cond_false, Nat.add_sub_cancel]
      by_cases hl : b + 1 = NU.length
      · rw [if_pos hl]
      · rw [if_neg hl, if_neg (by have := ha b (b + 1) (by omega) (by omega); omega)]
    · have near := near_eq (A := NU) (n := n) (k := b) a1 (fun j hj => Int.le_of_lt (a2 j hj)) (fun hk => by omega)
      rw [near, if_neg (by omega)]
      by_cases hd : intAt NU (b : Int) - n < n - intAt NU ((b - 1 : Nat) : Int)
      · rw [if_pos hd, decide_eq_false (by omega)]; rfl
      · rw [if_neg hd, decide_eq_true (by omega)]; rfl
noncomputable def qbw_t (k s : Int) (sg bg : Bool) (NA NU ME BA : LL) (ct n : Int) : Tr (Int × Bool) := (.ite ((qcb_c k s sg bg NA NU ME BA ct) = true) (.ite ((!(qcb_v k s sg bg NA NU ME BA ct)) = true) (.ok ((0 : Int), false))
   (.ite ((qbt_c k s sg bg NA NU ME BA ct) = true) (.ite ((!(qbt_v k s sg bg NA NU ME BA ct)) = true) (.ok ((0 : Int), false))
     (.ite ((qby_c k s sg bg NA NU ME BA ct n) = true) (.ok ((qby_v k s sg bg NA NU ME BA ct n), true))
      .no))
    .no))
  .no)
def qbw_mk (p : Int × Bool) : Res := [(false, [⟨.int .i64, .sh, TC.i (p.1)⟩]), (false, [⟨.bool, .sh, TC.b (p.2)⟩])]
noncomputable def qbw_c (k s : Int) (sg bg : Bool) (NA NU ME BA : LL) (ct n : Int) : Bool := ((qcb_c k s sg bg NA NU ME BA ct) && (bif (!(qcb_v k s sg bg NA NU ME BA ct)) then true else ((qbt_c k s sg bg NA NU ME BA ct) && (bif (!(qbt_v k s sg bg NA NU ME BA ct)) then true else ((qby_c k s sg bg NA NU ME BA ct n) && true)))))
noncomputable def qbw_v (k s : Int) (sg bg : Bool) (NA NU ME BA : LL) (ct n : Int) : Int × Bool := (bif (!(qcb_v k s sg bg NA NU ME BA ct)) then ((0 : Int), false) else (bif (!(qbt_v k s sg bg NA NU ME BA ct)) then ((0 : Int), false) else ((qby_v k s sg bg NA NU ME BA ct n), true)))
theorem qbw_l (k s : Int) (sg bg : Bool) (NA NU ME BA : LL) (ct n : Int) : (qbw_c k s sg bg NA NU ME BA ct n) = true → (qbw_t k s sg bg NA NU ME BA ct n).val = some (qbw_v k s sg bg NA NU ME BA ct n) := by
  unfold qbw_t qbw_v qbw_c
  exact fun h => (Tr.gb h fun h => (Tr.ss h (fun h => rfl) (fun h => (Tr.gb h fun h => (Tr.ss h (fun h => rfl) (fun h => (Tr.gb h fun h => rfl)))))))
noncomputable def qbw_S : List Arg → Option (Bool × Res) := fun xs => match xs with
  | [(true, [(.int .i64, TC.i k), (.int .i64, TC.i s), (.bool, TC.b sg), (.bool, TC.b bg), (.slice 9, TC.l NA), (.slice 2, TC.l NU), (.slice 71, TC.l ME), (.slice 32, TC.l BA), (.int .i64, TC.i ct)]), (false, [(.int .i64, TC.i n)])] => some ((qbw_c k s sg bg NA NU ME BA ct n), qbw_mk (qbw_v k s sg bg NA NU ME BA ct n))
  | _ => .none
theorem qbw_e (k s : Int) (sg bg : Bool) (NA NU ME BA : LL) (ct n : Int) : runF tab FT D59 live 21 noLoops [(true, [(.int .i64, TC.i k), (.int .i64, TC.i s), (.bool, TC.b sg), (.bool, TC.b bg), (.slice 9, TC.l NA), (.slice 2, TC.l NU), (.slice 71, TC.l ME), (.slice 32, TC.l BA), (.int .i64, TC.i ct)]), (false, [(.int .i64, TC.i n)])] = (qbw_t k s sg bg NA NU ME BA ct n).run fun p => some (qbw_mk p) := by kernel_rfl
theorem qbw_s : ∀ xs r, qbw_S xs = some (true, r) → runF tab FT D59 live 21 noLoops xs = some r := by
  intro xs r h
  unfold qbw_S at h
  split at h
  · simp only [Option.some.injEq, Prod.mk.injEq] at h
    obtain ⟨h1, rfl⟩ := h
    exact fun_told (qbw_e _ _ _ _ _ _ _ _ _ _) (qbw_l _ _ _ _ _ _ _ _ _ _) h1
  · cases h
noncomputable def D60 : Dt := also D59 21 qbw_S
theorem d60 : DOk Go.Proofs.Try.prog tab D60 := d59.also mixed_ok tab_ok names_ok noLoops_ok qbw_s
theorem qbx_cc {k s : Int} {sg bg : Bool} {NA NU ME BA : LL} {ct : Int} {n : Int} (okc : qbf_rc k s sg bg NA NU ME BA ct = true) : qbx_c k s sg bg NA NU ME BA ct n = true := by
  unfold qbx_c
  rw [okc, show qbf_rv k s sg bg NA NU ME BA ct = okV k s sg bg NA NU ME BA ct from rfl]
  cases h : okV k s sg bg NA NU ME BA ct with
  | false => rfl
  | true =>
    cases hn : numK k with
    | false => rw [(qbj_no hn).1, (qbj_no hn).2]; rfl
    | true => obtain ⟨a, b, c, -⟩ := spec_clamp_ok h hn (range_le h hn) n; rw [a, b, c]; rfl
theorem qbx_vv {k s : Int} {sg bg : Bool} {NA NU ME BA : LL} {ct : Int} {n : Int} : qbx_v k s sg bg NA NU ME BA ct n = bif okV k s sg bg NA NU ME BA ct && numK k then (clampV k s sg NU n, true) else (0, false) := by
  unfold qbx_v
  rw [show qbf_rv k s sg bg NA NU ME BA ct = okV k s sg bg NA NU ME BA ct from rfl]
  cases h : okV k s sg bg NA NU ME BA ct with
  | false => rfl
  | true =>
    cases hn : numK k with
    | false => rw [(qbj_no hn).2]; rfl
    | true => obtain ⟨a, b, c, d⟩ := spec_clamp_ok h hn (range_le h hn) n; rw [b, d]; rfl
theorem qbw_cc {k s : Int} {sg bg : Bool} {NA NU ME BA : LL} {ct : Int} {n : Int} (vac : qt_rc k s sg bg NA NU ME BA ct 3 = true) : qbw_c k s sg bg NA NU ME BA ct n = true := by
  unfold qbw_c
  rw [qcb_cc vac, qcb_vv, qbt_vv]
  cases h : okV k s sg bg NA NU ME BA ct with
  | false => first | rfl | simp [qbt_c]
  | true =>
    cases hn : numK k with
    | false => first | rfl | simp [qbt_c]
    | true => rw [(clamped_ok h hn n).1]; first | rfl | simp [qbt_c]
theorem qbw_vv {k s : Int} {sg bg : Bool} {NA NU ME BA : LL} {ct : Int} {n : Int} : qbw_v k s sg bg NA NU ME BA ct n = bif okV k s sg bg NA NU ME BA ct && numK k then (clampV k s sg NU n, true) else (0, false) := by
  unfold qbw_v
  rw [qcb_vv, qbt_vv]
  cases h : okV k s sg bg NA NU ME BA ct with
  | false => rfl
  | true =>
    cases hn : numK k with
    | false => rfl
    | true => rw [(clamped_ok h hn n).2]; rfl
abbrev qbg_4_σ := LL × LL × Int
abbrev qbg_4_ω := (Unit) ⊕ (Unit)
noncomputable def qbg_4_step (A C : LL) (i : Int) : Tr (qbg_4_σ ⊕ qbg_4_ω) := (.ite ((decide (i < (A.length : Int))) = true) (.ite ((0 : Int) ≤ i ∧ i < (A.length : Int)) (.ite ((0 : Int) ≤ i ∧ i < (C.length : Int)) (.ite ((!((nth (row A i) 0).str == (nth (row C i) 0).str)) = true) (.ok (.inr (.inl ())))
     (.ok (.inl (A, C, (IntKind.wrap .i64 (i + (1 : Int)))))))
    .no)
   .no)
  (.ok (.inr (.inr ()))))
noncomputable def qbg_4_st : qbg_4_σ → Tr (qbg_4_σ ⊕ qbg_4_ω) := fun x => (qbg_4_step (x.1) (x.2.1) (x.2.2))
noncomputable def qbg_o4_1 (A C : LL) (i : Int) : Bool := is (A = C ∧ Typed tab (.slice 9) (.l A) ∧ i = 0)
noncomputable def qbg_4_fin (A C : LL) (i : Int) : Told qbg_4_ω := (.leaf (qbg_o4_1 A C i) (.inr ()))
def qbg_4_sl (x : qbg_4_σ) : List Slot := [⟨.val false [⟨.slice 9, .sh, TC.l (x.1)⟩], ⟨0, 0⟩⟩, ⟨.val false [⟨.slice 9, .sh, TC.l (x.2.1)⟩], ⟨0, 0⟩⟩, ⟨.val false [⟨.int .i64, .sh, TC.i (x.2.2)⟩], ⟨0, 0⟩⟩]
def qbg_4_out : qbg_4_ω → Ex × List Slot := (Sum.elim (fun x => (.ret, [⟨.val false [⟨.bool, .sh, TC.b false⟩], ⟨0, 0⟩⟩])) (fun x => (.exit 0, [Slot.none])))
noncomputable def qbg_lo4 : List Slot → Option (Told (Ex × List Slot)) := fun s => match s with
  | [⟨.val false [⟨.slice 9, .sh, TC.l A⟩], ⟨0, 0⟩⟩, ⟨.val false [⟨.slice 9, .sh, TC.l C⟩], ⟨0, 0⟩⟩, ⟨.val false [⟨.int .i64, .sh, TC.i i⟩], ⟨0, 0⟩⟩] => some (((qbg_4_fin A C i)).map qbg_4_out)
  | _ => .none
noncomputable def qbg_lo : LoopTeller := fun r s => bif Nat.beq r 4 then qbg_lo4 s else .none
theorem qbg_4_r (A C : LL) (i : Int) (fuel : Nat) : rounds (rnd tab FT D60 live 38 qbg_lo 0 4) leave (fuel + 1) (qbg_4_sl (A, C, i)) = ((qbg_4_step A C i)).run (goOn (fun s => rounds (rnd tab FT D60 live 38 qbg_lo 0 4) leave fuel (qbg_4_sl s)) fun w => some (qbg_4_out w)) := by kernel_rfl
theorem qbg_4_h (A C : LL) (i : Int) (ow : qbg_4_ω) : ((qbg_4_fin A C i)).val = some ow → ∃ fuel, loopN qbg_4_st fuel (A, C, i) = some ow := by
  intro h
  refine auto_leaf (R := Sum.inr ()) (fun ho => ?_) h
  obtain ⟨rfl, ht, rfl⟩ := is_iff.1 ho
  have hlen : A.length ≤ 140737488351232 := by have := typed_room ht; simp only [show (tab 9).bytes = 16 from rfl] at this; omega
  refine ⟨_, loopN_run (N := A.length) (fun i => (A, A, (i : Int))) (fun i hi => ?_) ?_ A.length 0 (by omega)⟩
  · have c0 : Typed tab (.str) (.s (nth (A.getD i []) 0).str) := typed_s (typed_cell ht (A.getD i []) (mem_getD hi) 0 (by decide))
    show (qbg_4_step A A (i : Int)).val = _
    unfold qbg_4_step
    refine Tr.t (by simp; omega) ?_
    refine Tr.t (by first | omega | (constructor <;> omega)) ?_
    refine Tr.t (by first | omega | (constructor <;> omega)) ?_
    refine Tr.n (by simp [qz_rv, qx_rv, qt_rv, qba_rv, qj_rv, qf_rv, qbf_rv, qn_rv]) ?_
    rw [Tr.val_ok, wrap64 (i := (i : Int) + 1) (by omega) (by omega)]; rfl
  · show (qbg_4_step A A (A.length : Int)).val = _
    refine Tr.n (by simp) ?_
    rfl
theorem qbg_is4 : LoopIs tab FT D60 live 38 qbg_lo 0 4 := by
  refine loop_told (sl := qbg_4_sl) (step := qbg_4_st) (out := qbg_4_out) (lor := qbg_lo4) (fin := fun x => (qbg_4_fin (x.1) (x.2.1) (x.2.2))) (fun _ => rfl) ?_ (fun x n => qbg_4_r x.1 x.2.1 x.2.2 n) (fun x ow => qbg_4_h x.1 x.2.1 x.2.2 ow)
  intro s t h
  unfold qbg_lo4 at h
  split at h
  · cases h; exact ⟨(_, _, _), rfl, rfl⟩
  · cases h
noncomputable def qbg_t (A C : LL) : Tr (Bool) := (.ite ((!((A.length : Int) == (C.length : Int))) = true) (.ok false)
  (.ite ((qbg_o4_1 A C (0 : Int)) = true) (.ok true)
   .no))
def qbg_mk (p : Bool) : Res := [(false, [⟨.bool, .sh, TC.b p⟩])]
noncomputable def qbg_c (A C : LL) : Bool := is (A = C ∧ Typed tab (.slice 9) (.l A))
noncomputable def qbg_v (A C : LL) : Bool := true
theorem qbg_l (A C : LL) : (qbg_c A C) = true → (qbg_t A C).val = some (qbg_v A C) := by
  intro h
  obtain ⟨rfl, ht⟩ := is_iff.1 h
  unfold qbg_t
  refine Tr.n (by simp) ?_
  refine Tr.t (is_true ⟨rfl, ht, rfl⟩) ?_
  rfl
noncomputable def qbg_S : List Arg → Option (Bool × Res) := fun xs => match xs with
  | [(false, [(.slice 9, TC.l A)]), (false, [(.slice 9, TC.l C)])] => some ((qbg_c A C), qbg_mk (qbg_v A C))
  | _ => .none
theorem qbg_e (A C : LL) : runF tab FT D60 live 38 qbg_lo [(false, [(.slice 9, TC.l A)]), (false, [(.slice 9, TC.l C)])] = (qbg_t A C).run fun p => some (qbg_mk p) := by kernel_rfl
theorem qbg_s : ∀ xs r, qbg_S xs = some (true, r) → runF tab FT D60 live 38 qbg_lo xs = some r := by
  intro xs r h
  unfold qbg_S at h
  split at h
  · simp only [Option.some.injEq, Prod.mk.injEq] at h
    obtain ⟨h1, rfl⟩ := h
    exact fun_told (qbg_e _ _) (qbg_l _ _) h1
  · cases h
noncomputable def D61 : Dt := also D60 38 qbg_S
theorem d61 : DOk Go.Proofs.Try.prog tab D61 := d60.also mixed_ok tab_ok names_ok (fnLoops_one (by kernel_rfl) qbg_is4) qbg_s
abbrev qbk_4_σ := LL × LL × Int
abbrev qbk_4_ω := (Unit) ⊕ (Unit)
noncomputable def qbk_4_step (A C : LL) (i : Int) : Tr (qbk_4_σ ⊕ qbk_4_ω) := (.ite ((decide (i < (A.length : Int))) = true) (.ite ((0 : Int) ≤ i ∧ i < (A.length : Int)) (.ite ((0 : Int) ≤ i ∧ i < (C.length : Int)) (.ite ((!((nth (row A i) 0).int == (nth (row C i) 0).int)) = true) (.ok (.inr (.inl ())))
     (.ok (.inl (A, C, (IntKind.wrap .i64 (i + (1 : Int)))))))
    .no)
   .no)
  (.ok (.inr (.inr ()))))
noncomputable def qbk_4_st : qbk_4_σ → Tr (qbk_4_σ ⊕ qbk_4_ω) := fun x => (qbk_4_step (x.1) (x.2.1) (x.2.2))
noncomputable def qbk_o4_1 (A C : LL) (i : Int) : Bool := is (A = C ∧ Typed tab (.slice 2) (.l A) ∧ i = 0)
noncomputable def qbk_4_fin (A C : LL) (i : Int) : Told qbk_4_ω := (.leaf (qbk_o4_1 A C i) (.inr ()))
def qbk_4_sl (x : qbk_4_σ) : List Slot := [⟨.val false [⟨.slice 2, .sh, TC.l (x.1)⟩], ⟨0, 0⟩⟩, ⟨.val false [⟨.slice 2, .sh, TC.l (x.2.1)⟩], ⟨0, 0⟩⟩, ⟨.val false [⟨.int .i64, .sh, TC.i (x.2.2)⟩], ⟨0, 0⟩⟩]
def qbk_4_out : qbk_4_ω → Ex × List Slot := (Sum.elim (fun x => (.ret, [⟨.val false [⟨.bool, .sh, TC.b false⟩], ⟨0, 0⟩⟩])) (fun x => (.exit 0, [Slot.none])))
noncomputable def qbk_lo4 : List Slot → Option (Told (Ex × List Slot)) := fun s => match s with
  | [⟨.val false [⟨.slice 2, .sh, TC.l A⟩], ⟨0, 0⟩⟩, ⟨.val false [⟨.slice 2, .sh, TC.l C⟩], ⟨0, 0⟩⟩, ⟨.val false [⟨.int .i64, .sh, TC.i i⟩], ⟨0, 0⟩⟩] => some (((qbk_4_fin A C i)).map qbk_4_out)
  | _ => .none
noncomputable def qbk_lo : LoopTeller := fun r s => bif Nat.beq r 4 then qbk_lo4 s else .none
theorem qbk_4_r (A C : LL) (i : Int) (fuel : Nat) : rounds (rnd tab FT D61 live 39 qbk_lo 0 4) leave (fuel + 1) (qbk_4_sl (A, C, i)) = ((qbk_4_step A C i)).run (goOn (fun s => rounds (rnd tab FT D61 live 39 qbk_lo 0 4) leave fuel (qbk_4_sl s)) fun w => some (qbk_4_out w)) := by kernel_rfl
theorem qbk_4_h (A C : LL) (i : Int) (ow : qbk_4_ω) : ((qbk_4_fin A C i)).val = some ow → ∃ fuel, loopN qbk_4_st fuel (A, C, i) = some ow := by
  intro h
  refine auto_leaf (R := Sum.inr ()) (fun ho => ?_) h
  obtain ⟨rfl, ht, rfl⟩ := is_iff.1 ho
  have hlen : A.length ≤ 140737488351232 := by have := typed_room ht; simp only [show (tab 2).bytes = 8 from rfl] at this; omega
  refine ⟨_, loopN_run (N := A.length) (fun i => (A, A, (i : Int))) (fun i hi => ?_) ?_ A.length 0 (by omega)⟩
  · skip
    show (qbk_4_step A A (i : Int)).val = _
    unfold qbk_4_step
    refine Tr.t (by simp; omega) ?_
    refine Tr.t (by first | omega | (constructor <;> omega)) ?_
    refine Tr.t (by first | omega | (constructor <;> omega)) ?_
    refine Tr.n (by simp [qz_rv, qx_rv, qt_rv, qba_rv, qj_rv, qf_rv, qbf_rv, qn_rv]) ?_
    rw [Tr.val_ok, wrap64 (i := (i : Int) + 1) (by omega) (by omega)]; rfl
  · show (qbk_4_step A A (A.length : Int)).val = _
    refine Tr.n (by simp) ?_
    rfl
theorem qbk_is4 : LoopIs tab FT D61 live 39 qbk_lo 0 4 := by
  refine loop_told (sl := qbk_4_sl) (step := qbk_4_st) (out := qbk_4_out) (lor := qbk_lo4) (fin := fun x => (qbk_4_fin (x.1) (x.2.1) (x.2.2))) (fun _ => rfl) ?_ (fun x n => qbk_4_r x.1 x.2.1 x.2.2 n) (fun x ow => qbk_4_h x.1 x.2.1 x.2.2 ow)
  intro s t h
  unfold qbk_lo4 at h
  split at h
  · cases h; exact ⟨(_, _, _), rfl, rfl⟩
  · cases h
noncomputable def qbk_t (A C : LL) : Tr (Bool) := (.ite ((!((A.length : Int) == (C.length : Int))) = true) (.ok false)
  (.ite ((qbk_o4_1 A C (0 : Int)) = true) (.ok true)
   .no))
def qbk_mk (p : Bool) : Res := [(false, [⟨.bool, .sh, TC.b p⟩])]
noncomputable def qbk_c (A C : LL) : Bool := is (A = C ∧ Typed tab (.slice 2) (.l A))
noncomputable def qbk_v (A C : LL) : Bool := true
theorem qbk_l (A C : LL) : (qbk_c A C) = true → (qbk_t A C).val = some (qbk_v A C) := by
  intro h
  obtain ⟨rfl, ht⟩ := is_iff.1 h
  unfold qbk_t
  refine Tr.n (by simp) ?_
  refine Tr.t (is_true ⟨rfl, ht, rfl⟩) ?_
  rfl
noncomputable def qbk_S : List Arg → Option (Bool × Res) := fun xs => match xs with
  | [(false, [(.slice 2, TC.l A)]), (false, [(.slice 2, TC.l C)])] => some ((qbk_c A C), qbk_mk (qbk_v A C))
  | _ => .none
theorem qbk_e (A C : LL) : runF tab FT D61 live 39 qbk_lo [(false, [(.slice 2, TC.l A)]), (false, [(.slice 2, TC.l C)])] = (qbk_t A C).run fun p => some (qbk_mk p) := by kernel_rfl
theorem qbk_s : ∀ xs r, qbk_S xs = some (true, r) → runF tab FT D61 live 39 qbk_lo xs = some r := by
  intro xs r h
  unfold qbk_S at h
  split at h
  · simp only [Option.some.injEq, Prod.mk.injEq] at h
    obtain ⟨h1, rfl⟩ := h
    exact fun_told (qbk_e _ _) (qbk_l _ _) h1
  · cases h
noncomputable def D62 : Dt := also D61 39 qbk_S
theorem d62 : DOk Go.Proofs.Try.prog tab D62 := d61.also mixed_ok tab_ok names_ok (fnLoops_one (by kernel_rfl) qbk_is4) qbk_s
section
class qbm_O where n : Nat
variable [i_laws_eqType : qbm_O]
noncomputable def qbm_rc (x0 x1 : Int) (x2 x3 : Bool) (x4 x5 x6 x7 : LL) (x8 y0 y1 : Int) (y2 y3 : Bool) (y4 y5 y6 y7 : LL) (y8 : Int) : Bool := is (max (rowsDep x6) (rowsDep x7) < qbm_O.n ∧ x0 = y0 ∧ x1 = y1 ∧ x2 = y2 ∧ x3 = y3 ∧ x4 = y4 ∧ x5 = y5 ∧ x6 = y6 ∧ x7 = y7 ∧ x8 = y8 ∧ Typed tab (.slice 9) (.l x4) ∧ Typed tab (.slice 2) (.l x5) ∧ Typed tab (.slice 71) (.l x6) ∧ Typed tab (.slice 32) (.l x7))
noncomputable def qbm_rv (x0 x1 : Int) (x2 x3 : Bool) (x4 x5 x6 x7 : LL) (x8 y0 y1 : Int) (y2 y3 : Bool) (y4 y5 y6 y7 : LL) (y8 : Int) : Bool := true
def qbm_rmk (p : Bool) : Res := [(false, [⟨.bool, .sh, TC.b p⟩])]
noncomputable def qbm_rS : List Arg → Option (Bool × Res) := fun xs => match xs with
  | [(true, [(.int .i64, TC.i x0), (.int .i64, TC.i x1), (.bool, TC.b x2), (.bool, TC.b x3), (.slice 9, TC.l x4), (.slice 2, TC.l x5), (.slice 71, TC.l x6), (.slice 32, TC.l x7), (.int .i64, TC.i x8)]), (true, [(.int .i64, TC.i y0), (.int .i64, TC.i y1), (.bool, TC.b y2), (.bool, TC.b y3), (.slice 9, TC.l y4), (.slice 2, TC.l y5), (.slice 71, TC.l y6), (.slice 32, TC.l y7), (.int .i64, TC.i y8)])] => some ((qbm_rc x0 x1 x2 x3 x4 x5 x6 x7 x8 y0 y1 y2 y3 y4 y5 y6 y7 y8), qbm_rmk (qbm_rv x0 x1 x2 x3 x4 x5 x6 x7 x8 y0 y1 y2 y3 y4 y5 y6 y7 y8))
  | _ => .none
noncomputable def D63 : Dt := also D62 13 qbm_rS
class qbm_G : Prop where ok : DOk Go.Proofs.Try.prog tab D63
variable [g_laws_eqType : qbm_G]
theorem d63 : DOk Go.Proofs.Try.prog tab D63 := qbm_G.ok
noncomputable def qcf_t (x0 : BS) (x1 x2 x3 : Int) (x4 x5 : Bool) (x6 x7 x8 x9 : LL) (x10 : Int) (y0 : BS) (y1 y2 y3 : Int) (y4 y5 : Bool) (y6 y7 y8 y9 : LL) (y10 : Int) : Tr (Bool) := (.ite ((!(x0 == y0)) = true) (.ok false)
  (.ite ((!(x1 == y1)) = true) (.ok false)
   (.ite ((qbm_rc x2 x3 x4 x5 x6 x7 x8 x9 x10 y2 y3 y4 y5 y6 y7 y8 y9 y10) = true) (.ite ((!(qbm_rv x2 x3 x4 x5 x6 x7 x8 x9 x10 y2 y3 y4 y5 y6 y7 y8 y9 y10)) = true) (.ok false)
     (.ok true))
    .no)))
def qcf_mk (p : Bool) : Res := [(false, [⟨.bool, .sh, TC.b p⟩])]
noncomputable def qcf_c (x0 : BS) (x1 x2 x3 : Int) (x4 x5 : Bool) (x6 x7 x8 x9 : LL) (x10 : Int) (y0 : BS) (y1 y2 y3 : Int) (y4 y5 : Bool) (y6 y7 y8 y9 : LL) (y10 : Int) : Bool := (bif (!(x0 == y0)) then true else (bif (!(x1 == y1)) then true else ((qbm_rc x2 x3 x4 x5 x6 x7 x8 x9 x10 y2 y3 y4 y5 y6 y7 y8 y9 y10) && (bif (!(qbm_rv x2 x3 x4 x5 x6 x7 x8 x9 x10 y2 y3 y4 y5 y6 y7 y8 y9 y10)) then true else true))))
noncomputable def qcf_v (x0 : BS) (x1 x2 x3 : Int) (x4 x5 : Bool) (x6 x7 x8 x9 : LL) (x10 : Int) (y0 : BS) (y1 y2 y3 : Int) (y4 y5 : Bool) (y6 y7 y8 y9 : LL) (y10 : Int) : Bool := (bif (!(x0 == y0)) then false else (bif (!(x1 == y1)) then false else (bif (!(qbm_rv x2 x3 x4 x5 x6 x7 x8 x9 x10 y2 y3 y4 y5 y6 y7 y8 y9 y10)) then false else true)))
theorem qcf_l (x0 : BS) (x1 x2 x3 : Int) (x4 x5 : Bool) (x6 x7 x8 x9 : LL) (x10 : Int) (y0 : BS) (y1 y2 y3 : Int) (y4 y5 : Bool) (y6 y7 y8 y9 : LL) (y10 : Int) : (qcf_c x0 x1 x2 x3 x4 x5 x6 x7 x8 x9 x10 y0 y1 y2 y3 y4 y5 y6 y7 y8 y9 y10) = true → (qcf_t x0 x1 x2 x3 x4 x5 x6 x7 x8 x9 x10 y0 y1 y2 y3 y4 y5 y6 y7 y8 y9 y10).val = some (qcf_v x0 x1 x2 x3 x4 x5 x6 x7 x8 x9 x10 y0 y1 y2 y3 y4 y5 y6 y7 y8 y9 y10) := by
  unfold qcf_t qcf_v qcf_c
  exact fun h => (Tr.ss h (fun h => rfl) (fun h => (Tr.ss h (fun h => rfl) (fun h => (Tr.gb h fun h => (Tr.ss h (fun h => rfl) (fun h => rfl)))))))
noncomputable def qcf_S : List Arg → Option (Bool × Res) := fun xs => match xs with
  | [(true, [(.str, TC.s x0), (.int .i64, TC.i x1), (.int .i64, TC.i x2), (.int .i64, TC.i x3), (.bool, TC.b x4), (.bool, TC.b x5), (.slice 9, TC.l x6), (.slice 2, TC.l x7), (.slice 71, TC.l x8), (.slice 32, TC.l x9), (.int .i64, TC.i x10)]), (true, [(.str, TC.s y0), (.int .i64, TC.i y1), (.int .i64, TC.i y2), (.int .i64, TC.i y3), (.bool, TC.b y4), (.bool, TC.b y5), (.slice 9, TC.l y6), (.slice 2, TC.l y7), (.slice 71, TC.l y8), (.slice 32, TC.l y9), (.int .i64, TC.i y10)])] => some ((qcf_c x0 x1 x2 x3 x4 x5 x6 x7 x8 x9 x10 y0 y1 y2 y3 y4 y5 y6 y7 y8 y9 y10), qcf_mk (qcf_v x0 x1 x2 x3 x4 x5 x6 x7 x8 x9 x10 y0 y1 y2 y3 y4 y5 y6 y7 y8 y9 y10))
  | _ => .none
theorem qcf_e (x0 : BS) (x1 x2 x3 : Int) (x4 x5 : Bool) (x6 x7 x8 x9 : LL) (x10 : Int) (y0 : BS) (y1 y2 y3 : Int) (y4 y5 : Bool) (y6 y7 y8 y9 : LL) (y10 : Int) : runF tab FT D63 live 76 noLoops [(true, [(.str, TC.s x0), (.int .i64, TC.i x1), (.int .i64, TC.i x2), (.int .i64, TC.i x3), (.bool, TC.b x4), (.bool, TC.b x5), (.slice 9, TC.l x6), (.slice 2, TC.l x7), (.slice 71, TC.l x8), (.slice 32, TC.l x9), (.int .i64, TC.i x10)]), (true, [(.str, TC.s y0), (.int .i64, TC.i y1), (.int .i64, TC.i y2), (.int .i64, TC.i y3), (.bool, TC.b y4), (.bool, TC.b y5), (.slice 9, TC.l y6), (.slice 2, TC.l y7), (.slice 71, TC.l y8), (.slice 32, TC.l y9), (.int .i64, TC.i y10)])] = (qcf_t x0 x1 x2 x3 x4 x5 x6 x7 x8 x9 x10 y0 y1 y2 y3 y4 y5 y6 y7 y8 y9 y10).run fun p => some (qcf_mk p) := by kernel_rfl
theorem qcf_s : ∀ xs r, qcf_S xs = some (true, r) → runF tab FT D63 live 76 noLoops xs = some r := by
  intro xs r h
  unfold qcf_S at h
  split at h
  · simp only [Option.some.injEq, Prod.mk.injEq] at h
    obtain ⟨h1, rfl⟩ := h
    exact fun_told (qcf_e _ _ _ _ _ _ _ _ _ _ _ _ _ _ _ _ _ _ _ _ _ _) (qcf_l _ _ _ _ _ _ _ _ _ _ _ _ _ _ _ _ _ _ _ _ _ _) h1
  · cases h
noncomputable def D64 : Dt := also D63 76 qcf_S
theorem d64 : DOk Go.Proofs.Try.prog tab D64 := d63.also mixed_ok tab_ok names_ok noLoops_ok qcf_s
theorem qcf_cc {x0 : BS} {x1 : Int} {x2 : Int} {x3 : Int} {x4 : Bool} {x5 : Bool} {x6 : LL} {x7 : LL} {x8 : LL} {x9 : LL} {x10 : Int} (h0 : (qbm_rc x2 x3 x4 x5 x6 x7 x8 x9 x10 x2 x3 x4 x5 x6 x7 x8 x9 x10) = true) : (qcf_c x0 x1 x2 x3 x4 x5 x6 x7 x8 x9 x10 x0 x1 x2 x3 x4 x5 x6 x7 x8 x9 x10) = true := by
  unfold qcf_c
  simp [h0, qba_rv, qj_rv, qn_rv, qf_rv, qbf_rv, qx_rv, qz_rv, qt_rv, qbm_rv]
abbrev qbh_4_σ := LL × LL × Int
abbrev qbh_4_ω := (Unit) ⊕ (Unit)
noncomputable def qbh_4_step (A C : LL) (i : Int) : Tr (qbh_4_σ ⊕ qbh_4_ω) := (.ite ((decide (i < (A.length : Int))) = true) (.ite ((0 : Int) ≤ i ∧ i < (A.length : Int)) (.ite ((0 : Int) ≤ i ∧ i < (C.length : Int)) (.ite ((qcf_c ((nth (row A i) 0).str) ((nth (row A i) 1).int) ((nth (row A i) 2).int) ((nth (row A i) 3).int) ((nth (row A i) 4).bool) ((nth (row A i) 5).bool) ((nth (row A i) 6).list) ((nth (row A i) 7).list) ((nth (row A i) 8).list) ((nth (row A i) 9).list) ((nth (row A i) 10).int) ((nth (row C i) 0).str) ((nth (row C i) 1).int) ((nth (row C i) 2).int) ((nth (row C i) 3).int) ((nth (row C i) 4).bool) ((nth (row C i) 5).bool) ((nth (row C i) 6).list) ((nth (row C i) 7).list) ((nth (row C i) 8).list) ((nth (row C i) 9).list) ((nth (row C i) 10).int)) = true) (.ite ((!(qcf_v ((nth (row A i) 0).str) ((nth (row A i) 1).int) ((nth (row A i) 2).int) ((nth (row A i) 3).int) ((nth (row A i) 4).bool) ((nth (row A i) 5).bool) ((nth (row A i) 6).list) ((nth (row A i) 7).list) ((nth (row A i) 8).list) ((nth (row A i) 9).list) ((nth (row A i) 10).int) ((nth (row C i) 0).str) ((nth (row C i) 1).int) ((nth (row C i) 2).int) ((nth (row C i) 3).int) ((nth (row C i) 4).bool) ((nth (row C i) 5).bool) ((nth (row C i) 6).list) ((nth (row C i) 7).list) ((nth (row C i) 8).list) ((nth (row C i) 9).list) ((nth (row C i) 10).int))) = true) (.ok (.inr (.inl ())))
      (.ok (.inl (A, C, (IntKind.wrap .i64 (i + (1 : Int)))))))
     .no)
    .no)
   .no)
  (.ok (.inr (.inr ()))))
noncomputable def qbh_4_st : qbh_4_σ → Tr (qbh_4_σ ⊕ qbh_4_ω) := fun x => (qbh_4_step (x.1) (x.2.1) (x.2.2))
noncomputable def qbh_o4_1 (A C : LL) (i : Int) : Bool := is (A = C ∧ Typed tab (.slice 71) (.l A) ∧ (∀ x : List TC, x ∈ A → (qcf_c ((nth x 0).str) ((nth x 1).int) ((nth x 2).int) ((nth x 3).int) ((nth x 4).bool) ((nth x 5).bool) ((nth x 6).list) ((nth x 7).list) ((nth x 8).list) ((nth x 9).list) ((nth x 10).int) ((nth x 0).str) ((nth x 1).int) ((nth x 2).int) ((nth x 3).int) ((nth x 4).bool) ((nth x 5).bool) ((nth x 6).list) ((nth x 7).list) ((nth x 8).list) ((nth x 9).list) ((nth x 10).int)) = true) ∧ i = 0)
noncomputable def qbh_4_fin (A C : LL) (i : Int) : Told qbh_4_ω := (.leaf (qbh_o4_1 A C i) (.inr ()))
def qbh_4_sl (x : qbh_4_σ) : List Slot := [⟨.val false [⟨.slice 71, .sh, TC.l (x.1)⟩], ⟨0, 0⟩⟩, ⟨.val false [⟨.slice 71, .sh, TC.l (x.2.1)⟩], ⟨0, 0⟩⟩, ⟨.val false [⟨.int .i64, .sh, TC.i (x.2.2)⟩], ⟨0, 0⟩⟩]
def qbh_4_out : qbh_4_ω → Ex × List Slot := (Sum.elim (fun x => (.ret, [⟨.val false [⟨.bool, .sh, TC.b false⟩], ⟨0, 0⟩⟩])) (fun x => (.exit 0, [Slot.none])))
noncomputable def qbh_lo4 : List Slot → Option (Told (Ex × List Slot)) := fun s => match s with
  | [⟨.val false [⟨.slice 71, .sh, TC.l A⟩], ⟨0, 0⟩⟩, ⟨.val false [⟨.slice 71, .sh, TC.l C⟩], ⟨0, 0⟩⟩, ⟨.val false [⟨.int .i64, .sh, TC.i i⟩], ⟨0, 0⟩⟩] => some (((qbh_4_fin A C i)).map qbh_4_out)
  | _ => .none
noncomputable def qbh_lo : LoopTeller := fun r s => bif Nat.beq r 4 then qbh_lo4 s else .none
theorem qbh_4_r (A C : LL) (i : Int) (fuel : Nat) : rounds (rnd tab FT D64 live 40 qbh_lo 0 4) leave (fuel + 1) (qbh_4_sl (A, C, i)) = ((qbh_4_step A C i)).run (goOn (fun s => rounds (rnd tab FT D64 live 40 qbh_lo 0 4) leave fuel (qbh_4_sl s)) fun w => some (qbh_4_out w)) := by kernel_rfl
theorem qbh_4_h (A C : LL) (i : Int) (ow : qbh_4_ω) : ((qbh_4_fin A C i)).val = some ow → ∃ fuel, loopN qbh_4_st fuel (A, C, i) = some ow := by
  intro h
  refine auto_leaf (R := Sum.inr ()) (fun ho => ?_) h
  obtain ⟨rfl, ht, hr0, rfl⟩ := is_iff.1 ho
  have hlen : A.length ≤ 140737488351232 := by have := typed_room ht; simp only [show (tab 71).bytes = 152 from rfl] at this; omega
  refine ⟨_, loopN_run (N := A.length) (fun i => (A, A, (i : Int))) (fun i hi => ?_) ?_ A.length 0 (by omega)⟩
  · have c0 : Typed tab (.str) (.s (nth (A.getD i []) 0).str) := typed_s (typed_cell ht (A.getD i []) (mem_getD hi) 0 (by decide))
    have c6 : Typed tab (.slice 9) (.l (nth (A.getD i []) 6).list) := typed_list (typed_cell ht (A.getD i []) (mem_getD hi) 6 (by decide))
    have c7 : Typed tab (.slice 2) (.l (nth (A.getD i []) 7).list) := typed_list (typed_cell ht (A.getD i []) (mem_getD hi) 7 (by decide))
    have c8 : Typed tab (.slice 71) (.l (nth (A.getD i []) 8).list) := typed_list (typed_cell ht (A.getD i []) (mem_getD hi) 8 (by decide))
    have c9 : Typed tab (.slice 32) (.l (nth (A.getD i []) 9).list) := typed_list (typed_cell ht (A.getD i []) (mem_getD hi) 9 (by decide))
    show (qbh_4_step A A (i : Int)).val = _
    unfold qbh_4_step
    refine Tr.t (by simp; omega) ?_
    refine Tr.t (by first | omega | (constructor <;> omega)) ?_
    refine Tr.t (by first | omega | (constructor <;> omega)) ?_
    refine Tr.t (hr0 (A.getD i []) (mem_getD hi)) ?_
    refine Tr.n (by simp [qz_rv, qx_rv, qt_rv, qcf_v, qbm_rv, qba_rv, qj_rv, qf_rv, qbf_rv, qn_rv]) ?_
    rw [Tr.val_ok, wrap64 (i := (i : Int) + 1) (by omega) (by omega)]; rfl
  · show (qbh_4_step A A (A.length : Int)).val = _
    refine Tr.n (by simp) ?_
    rfl
theorem qbh_is4 : LoopIs tab FT D64 live 40 qbh_lo 0 4 := by
  refine loop_told (sl := qbh_4_sl) (step := qbh_4_st) (out := qbh_4_out) (lor := qbh_lo4) (fin := fun x => (qbh_4_fin (x.1) (x.2.1) (x.2.2))) (fun _ => rfl) ?_ (fun x n => qbh_4_r x.1 x.2.1 x.2.2 n) (fun x ow => qbh_4_h x.1 x.2.1 x.2.2 ow)
  intro s t h
  unfold qbh_lo4 at h
  split at h
  · cases h; exact ⟨(_, _, _), rfl, rfl⟩
  · cases h
noncomputable def qbh_t (A C : LL) : Tr (Bool) := (.ite ((!((A.length : Int) == (C.length : Int))) = true) (.ok false)
  (.ite ((qbh_o4_1 A C (0 : Int)) = true) (.ok true)
   .no))
def qbh_mk (p : Bool) : Res := [(false, [⟨.bool, .sh, TC.b p⟩])]
noncomputable def qbh_c (A C : LL) : Bool := is (A = C ∧ Typed tab (.slice 71) (.l A) ∧ (∀ x : List TC, x ∈ A → (qcf_c ((nth x 0).str) ((nth x 1).int) ((nth x 2).int) ((nth x 3).int) ((nth x 4).bool) ((nth x 5).bool) ((nth x 6).list) ((nth x 7).list) ((nth x 8).list) ((nth x 9).list) ((nth x 10).int) ((nth x 0).str) ((nth x 1).int) ((nth x 2).int) ((nth x 3).int) ((nth x 4).bool) ((nth x 5).bool) ((nth x 6).list) ((nth x 7).list) ((nth x 8).list) ((nth x 9).list) ((nth x 10).int)) = true))
noncomputable def qbh_v (A C : LL) : Bool := true
theorem qbh_l (A C : LL) : (qbh_c A C) = true → (qbh_t A C).val = some (qbh_v A C) := by
  intro h
  obtain ⟨rfl, ht, hr0⟩ := is_iff.1 h
  unfold qbh_t
  refine Tr.n (by simp) ?_
  refine Tr.t (is_true ⟨rfl, ht, hr0, rfl⟩) ?_
  rfl
noncomputable def qbh_S : List Arg → Option (Bool × Res) := fun xs => match xs with
  | [(false, [(.slice 71, TC.l A)]), (false, [(.slice 71, TC.l C)])] => some ((qbh_c A C), qbh_mk (qbh_v A C))
  | _ => .none
theorem qbh_e (A C : LL) : runF tab FT D64 live 40 qbh_lo [(false, [(.slice 71, TC.l A)]), (false, [(.slice 71, TC.l C)])] = (qbh_t A C).run fun p => some (qbh_mk p) := by kernel_rfl
theorem qbh_s : ∀ xs r, qbh_S xs = some (true, r) → runF tab FT D64 live 40 qbh_lo xs = some r := by
  intro xs r h
  unfold qbh_S at h
  split at h
  · simp only [Option.some.injEq, Prod.mk.injEq] at h
    obtain ⟨h1, rfl⟩ := h
    exact fun_told (qbh_e _ _) (qbh_l _ _) h1
  · cases h
noncomputable def D65 : Dt := also D64 40 qbh_S
theorem d65 : DOk Go.Proofs.Try.prog tab D65 := d64.also mixed_ok tab_ok names_ok (fnLoops_one (by kernel_rfl) qbh_is4) qbh_s
abbrev qbp_4_σ := LL × LL × Int
abbrev qbp_4_ω := (Unit) ⊕ (Unit)
noncomputable def qbp_4_step (A C : LL) (i : Int) : Tr (qbp_4_σ ⊕ qbp_4_ω) := (.ite ((decide (i < (A.length : Int))) = true) (.ite ((0 : Int) ≤ i ∧ i < (A.length : Int)) (.ite ((0 : Int) ≤ i ∧ i < (C.length : Int)) (.ite ((qbm_rc ((nth (row A i) 0).int) ((nth (row A i) 1).int) ((nth (row A i) 2).bool) ((nth (row A i) 3).bool) ((nth (row A i) 4).list) ((nth (row A i) 5).list) ((nth (row A i) 6).list) ((nth (row A i) 7).list) ((nth (row A i) 8).int) ((nth (row C i) 0).int) ((nth (row C i) 1).int) ((nth (row C i) 2).bool) ((nth (row C i) 3).bool) ((nth (row C i) 4).list) ((nth (row C i) 5).list) ((nth (row C i) 6).list) ((nth (row C i) 7).list) ((nth (row C i) 8).int)) = true) (.ite ((!(qbm_rv ((nth (row A i) 0).int) ((nth (row A i) 1).int) ((nth (row A i) 2).bool) ((nth (row A i) 3).bool) ((nth (row A i) 4).list) ((nth (row A i) 5).list) ((nth (row A i) 6).list) ((nth (row A i) 7).list) ((nth (row A i) 8).int) ((nth (row C i) 0).int) ((nth (row C i) 1).int) ((nth (row C i) 2).bool) ((nth (row C i) 3).bool) ((nth (row C i) 4).list) ((nth (row C i) 5).list) ((nth (row C i) 6).list) ((nth (row C i) 7).list) ((nth (row C i) 8).int))) = true) (.ok (.inr (.inl ())))
      (.ok (.inl (A, C, (IntKind.wrap .i64 (i + (1 : Int)))))))
     .no)
    .no)
   .no)
  (.ok (.inr (.inr ()))))
noncomputable def qbp_4_st : qbp_4_σ → Tr (qbp_4_σ ⊕ qbp_4_ω) := fun x => (qbp_4_step (x.1) (x.2.1) (x.2.2))
noncomputable def qbp_o4_1 (A C : LL) (i : Int) : Bool := is (A = C ∧ Typed tab (.slice 32) (.l A) ∧ (∀ x : List TC, x ∈ A → (qbm_rc ((nth x 0).int) ((nth x 1).int) ((nth x 2).bool) ((nth x 3).bool) ((nth x 4).list) ((nth x 5).list) ((nth x 6).list) ((nth x 7).list) ((nth x 8).int) ((nth x 0).int) ((nth x 1).int) ((nth x 2).bool) ((nth x 3).bool) ((nth x 4).list) ((nth x 5).list) ((nth x 6).list) ((nth x 7).list) ((nth x 8).int)) = true) ∧ i = 0)
noncomputable def qbp_4_fin (A C : LL) (i : Int) : Told qbp_4_ω := (.leaf (qbp_o4_1 A C i) (.inr ()))
def qbp_4_sl (x : qbp_4_σ) : List Slot := [⟨.val false [⟨.slice 32, .sh, TC.l (x.1)⟩], ⟨0, 0⟩⟩, ⟨.val false [⟨.slice 32, .sh, TC.l (x.2.1)⟩], ⟨0, 0⟩⟩, ⟨.val false [⟨.int .i64, .sh, TC.i (x.2.2)⟩], ⟨0, 0⟩⟩]
def qbp_4_out : qbp_4_ω → Ex × List Slot := (Sum.elim (fun x => (.ret, [⟨.val false [⟨.bool, .sh, TC.b false⟩], ⟨0, 0⟩⟩])) (fun x => (.exit 0, [Slot.none])))
noncomputable def qbp_lo4 : List Slot → Option (Told (Ex × List Slot)) := fun s => match s with
  | [⟨.val false [⟨.slice 32, .sh, TC.l A⟩], ⟨0, 0⟩⟩, ⟨.val false [⟨.slice 32, .sh, TC.l C⟩], ⟨0, 0⟩⟩, ⟨.val false [⟨.int .i64, .sh, TC.i i⟩], ⟨0, 0⟩⟩] => some (((qbp_4_fin A C i)).map qbp_4_out)
  | _ => .none
noncomputable def qbp_lo : LoopTeller := fun r s => bif Nat.beq r 4 then qbp_lo4 s else .none
theorem qbp_4_r (A C : LL) (i : Int) (fuel : Nat) : rounds (rnd tab FT D65 live 41 qbp_lo 0 4) leave (fuel + 1) (qbp_4_sl (A, C, i)) = ((qbp_4_step A C i)).run (goOn (fun s => rounds (rnd tab FT D65 live 41 qbp_lo 0 4) leave fuel (qbp_4_sl s)) fun w => some (qbp_4_out w)) := by kernel_rfl
theorem qbp_4_h (A C : LL) (i : Int) (ow : qbp_4_ω) : ((qbp_4_fin A C i)).val = some ow → ∃ fuel, loopN qbp_4_st fuel (A, C, i) = some ow := by
  intro h
  refine auto_leaf (R := Sum.inr ()) (fun ho => ?_) h
  obtain ⟨rfl, ht, hr0, rfl⟩ := is_iff.1 ho
  have hlen : A.length ≤ 140737488351232 := by have := typed_room ht; simp only [show (tab 32).bytes = 128 from rfl] at this; omega
  refine ⟨_, loopN_run (N := A.length) (fun i => (A, A, (i : Int))) (fun i hi => ?_) ?_ A.length 0 (by omega)⟩
  · have c4 : Typed tab (.slice 9) (.l (nth (A.getD i []) 4).list) := typed_list (typed_cell ht (A.getD i []) (mem_getD hi) 4 (by decide))
    have c5 : Typed tab (.slice 2) (.l (nth (A.getD i []) 5).list) := typed_list (typed_cell ht (A.getD i []) (mem_getD hi) 5 (by decide))
    have c6 : Typed tab (.slice 71) (.l (nth (A.getD i []) 6).list) := typed_list (typed_cell ht (A.getD i []) (mem_getD hi) 6 (by decide))
    have c7 : Typed tab (.slice 32) (.l (nth (A.getD i []) 7).list) := typed_list (typed_cell ht (A.getD i []) (mem_getD hi) 7 (by decide))
    show (qbp_4_step A A (i : Int)).val = _
    unfold qbp_4_step
    refine Tr.t (by simp; omega) ?_
    refine Tr.t (by first | omega | (constructor <;> omega)) ?_
    refine Tr.t (by first | omega | (constructor <;> omega)) ?_
    refine Tr.t (hr0 (A.getD i []) (mem_getD hi)) ?_
    refine Tr.n (by simp [qz_rv, qx_rv, qt_rv, qbm_rv, qba_rv, qj_rv, qf_rv, qbf_rv, qn_rv]) ?_
    rw [Tr.val_ok, wrap64 (i := (i : Int) + 1) (by omega) (by omega)]; rfl
  · show (qbp_4_step A A (A.length : Int)).val = _
    refine Tr.n (by simp) ?_
    rfl
theorem qbp_is4 : LoopIs tab FT D65 live 41 qbp_lo 0 4 := by
  refine loop_told (sl := qbp_4_sl) (step := qbp_4_st) (out := qbp_4_out) (lor := qbp_lo4) (fin := fun x => (qbp_4_fin (x.1) (x.2.1) (x.2.2))) (fun _ => rfl) ?_ (fun x n => qbp_4_r x.1 x.2.1 x.2.2 n) (fun x ow => qbp_4_h x.1 x.2.1 x.2.2 ow)
  intro s t h
  unfold qbp_lo4 at h
  split at h
  · cases h; exact ⟨(_, _, _), rfl, rfl⟩
  · cases h
noncomputable def qbp_t (A C : LL) : Tr (Bool) := (.ite ((!((A.length : Int) == (C.length : Int))) = true) (.ok false)
  (.ite ((qbp_o4_1 A C (0 : Int)) = true) (.ok true)
   .no))
def qbp_mk (p : Bool) : Res := [(false, [⟨.bool, .sh, TC.b p⟩])]
noncomputable def qbp_c (A C : LL) : Bool := is (A = C ∧ Typed tab (.slice 32) (.l A) ∧ (∀ x : List TC, x ∈ A → (qbm_rc ((nth x 0).int) ((nth x 1).int) ((nth x 2).bool) ((nth x 3).bool) ((nth x 4).list) ((nth x 5).list) ((nth x 6).list) ((nth x 7).list) ((nth x 8).int) ((nth x 0).int) ((nth x 1).int) ((nth x 2).bool) ((nth x 3).bool) ((nth x 4).list) ((nth x 5).list) ((nth x 6).list) ((nth x 7).list) ((nth x 8).int)) = true))
noncomputable def qbp_v (A C : LL) : Bool := true
theorem qbp_l (A C : LL) : (qbp_c A C) = true → (qbp_t A C).val = some (qbp_v A C) := by
  intro h
  obtain ⟨rfl, ht, hr0⟩ := is_iff.1 h
  unfold qbp_t
  refine Tr.n (by simp) ?_
  refine Tr.t (is_true ⟨rfl, ht, hr0, rfl⟩) ?_
  rfl
noncomputable def qbp_S : List Arg → Option (Bool × Res) := fun xs => match xs with
  | [(false, [(.slice 32, TC.l A)]), (false, [(.slice 32, TC.l C)])] => some ((qbp_c A C), qbp_mk (qbp_v A C))
  | _ => .none
theorem qbp_e (A C : LL) : runF tab FT D65 live 41 qbp_lo [(false, [(.slice 32, TC.l A)]), (false, [(.slice 32, TC.l C)])] = (qbp_t A C).run fun p => some (qbp_mk p) := by kernel_rfl
theorem qbp_s : ∀ xs r, qbp_S xs = some (true, r) → runF tab FT D65 live 41 qbp_lo xs = some r := by
  intro xs r h
  unfold qbp_S at h
  split at h
  · simp only [Option.some.injEq, Prod.mk.injEq] at h
    obtain ⟨h1, rfl⟩ := h
    exact fun_told (qbp_e _ _) (qbp_l _ _) h1
  · cases h
noncomputable def D66 : Dt := also D65 41 qbp_S
theorem d66 : DOk Go.Proofs.Try.prog tab D66 := d65.also mixed_ok tab_ok names_ok (fnLoops_one (by kernel_rfl) qbp_is4) qbp_s
noncomputable def qbm_t (x0 x1 : Int) (x2 x3 : Bool) (x4 x5 x6 x7 : LL) (x8 y0 y1 : Int) (y2 y3 : Bool) (y4 y5 y6 y7 : LL) (y8 : Int) : Tr (Bool) := (.ite ((!(x0 == y0)) = true) (.ok false)
  (.ite ((!(x1 == y1)) = true) (.ok false)
   (.ite ((!(x2 == y2)) = true) (.ok false)
    (.ite ((!(x3 == y3)) = true) (.ok false)
     (.ite ((qbg_c x4 y4) = true) (.ite ((!(qbg_v x4 y4)) = true) (.ok false)
       (.ite ((qbk_c x5 y5) = true) (.ite ((!(qbk_v x5 y5)) = true) (.ok false)
         (.ite ((qbh_c x6 y6) = true) (.ite ((!(qbh_v x6 y6)) = true) (.ok false)
           (.ite ((qbp_c x7 y7) = true) (.ite ((!(qbp_v x7 y7)) = true) (.ok false)
             (.ite ((!(x8 == y8)) = true) (.ok false)
              (.ok true)))
            .no))
          .no))
        .no))
      .no)))))
def qbm_mk (p : Bool) : Res := [(false, [⟨.bool, .sh, TC.b p⟩])]
noncomputable def qbm_c (x0 x1 : Int) (x2 x3 : Bool) (x4 x5 x6 x7 : LL) (x8 y0 y1 : Int) (y2 y3 : Bool) (y4 y5 y6 y7 : LL) (y8 : Int) : Bool := (bif (!(x0 == y0)) then true else (bif (!(x1 == y1)) then true else (bif (!(x2 == y2)) then true else (bif (!(x3 == y3)) then true else ((qbg_c x4 y4) && (bif (!(qbg_v x4 y4)) then true else ((qbk_c x5 y5) && (bif (!(qbk_v x5 y5)) then true else ((qbh_c x6 y6) && (bif (!(qbh_v x6 y6)) then true else ((qbp_c x7 y7) && (bif (!(qbp_v x7 y7)) then true else (bif (!(x8 == y8)) then true else true)))))))))))))
noncomputable def qbm_v (x0 x1 : Int) (x2 x3 : Bool) (x4 x5 x6 x7 : LL) (x8 y0 y1 : Int) (y2 y3 : Bool) (y4 y5 y6 y7 : LL) (y8 : Int) : Bool := (bif (!(x0 == y0)) then false else (bif (!(x1 == y1)) then false else (bif (!(x2 == y2)) then false else (bif (!(x3 == y3)) then false else (bif (!(qbg_v x4 y4)) then false else (bif (!(qbk_v x5 y5)) then false else (bif (!(qbh_v x6 y6)) then false else (bif (!(qbp_v x7 y7)) then false else (bif (!(x8 == y8)) then false else true)))))))))
theorem qbm_l (x0 x1 : Int) (x2 x3 : Bool) (x4 x5 x6 x7 : LL) (x8 y0 y1 : Int) (y2 y3 : Bool) (y4 y5 y6 y7 : LL) (y8 : Int) : (qbm_c x0 x1 x2 x3 x4 x5 x6 x7 x8 y0 y1 y2 y3 y4 y5 y6 y7 y8) = true → (qbm_t x0 x1 x2 x3 x4 x5 x6 x7 x8 y0 y1 y2 y3 y4 y5 y6 y7 y8).val = some (qbm_v x0 x1 x2 x3 x4 x5 x6 x7 x8 y0 y1 y2 y3 y4 y5 y6 y7 y8) := by
  unfold qbm_t qbm_v qbm_c
  exact fun h => (Tr.ss h (fun h => rfl) (fun h => (Tr.ss h (fun h => rfl) (fun h => (Tr.ss h (fun h => rfl) (fun h => (Tr.ss h (fun h => rfl) (fun h => (Tr.gb h fun h => (Tr.ss h (fun h => rfl) (fun h => (Tr.gb h fun h => (Tr.ss h (fun h => rfl) (fun h => (Tr.gb h fun h => (Tr.ss h (fun h => rfl) (fun h => (Tr.gb h fun h => (Tr.ss h (fun h => rfl) (fun h => (Tr.ss h (fun h => rfl) (fun h => rfl))))))))))))))))))))))
noncomputable def qbm_S : List Arg → Option (Bool × Res) := fun xs => match xs with
  | [(true, [(.int .i64, TC.i x0), (.int .i64, TC.i x1), (.bool, TC.b x2), (.bool, TC.b x3), (.slice 9, TC.l x4), (.slice 2, TC.l x5), (.slice 71, TC.l x6), (.slice 32, TC.l x7), (.int .i64, TC.i x8)]), (true, [(.int .i64, TC.i y0), (.int .i64, TC.i y1), (.bool, TC.b y2), (.bool, TC.b y3), (.slice 9, TC.l y4), (.slice 2, TC.l y5), (.slice 71, TC.l y6), (.slice 32, TC.l y7), (.int .i64, TC.i y8)])] => some ((qbm_c x0 x1 x2 x3 x4 x5 x6 x7 x8 y0 y1 y2 y3 y4 y5 y6 y7 y8), qbm_mk (qbm_v x0 x1 x2 x3 x4 x5 x6 x7 x8 y0 y1 y2 y3 y4 y5 y6 y7 y8))
  | _ => .none
theorem qbm_e (x0 x1 : Int) (x2 x3 : Bool) (x4 x5 x6 x7 : LL) (x8 y0 y1 : Int) (y2 y3 : Bool) (y4 y5 y6 y7 : LL) (y8 : Int) : runF tab FT D66 live 13 noLoops [(true, [(.int .i64, TC.i x0), (.int .i64, TC.i x1), (.bool, TC.b x2), (.bool, TC.b x3), (.slice 9, TC.l x4), (.slice 2, TC.l x5), (.slice 71, TC.l x6), (.slice 32, TC.l x7), (.int .i64, TC.i x8)]), (true, [(.int .i64, TC.i y0), (.int .i64, TC.i y1), (.bool, TC.b y2), (.bool, TC.b y3), (.slice 9, TC.l y4), (.slice 2, TC.l y5), (.slice 71, TC.l y6), (.slice 32, TC.l y7), (.int .i64, TC.i y8)])] = (qbm_t x0 x1 x2 x3 x4 x5 x6 x7 x8 y0 y1 y2 y3 y4 y5 y6 y7 y8).run fun p => some (qbm_mk p) := by kernel_rfl
theorem qbm_s : ∀ xs r, qbm_S xs = some (true, r) → runF tab FT D66 live 13 noLoops xs = some r := by
  intro xs r h
  unfold qbm_S at h
  split at h
  · simp only [Option.some.injEq, Prod.mk.injEq] at h
    obtain ⟨h1, rfl⟩ := h
    exact fun_told (qbm_e _ _ _ _ _ _ _ _ _ _ _ _ _ _ _ _ _ _) (qbm_l _ _ _ _ _ _ _ _ _ _ _ _ _ _ _ _ _ _) h1
  · cases h
theorem qbm_nx (x0 x1 : Int) (x2 x3 : Bool) (x4 x5 x6 x7 : LL) (x8 y0 y1 : Int) (y2 y3 : Bool) (y4 y5 y6 y7 : LL) (y8 : Int) : is (max (rowsDep x6) (rowsDep x7) < qbm_O.n + 1 ∧ x0 = y0 ∧ x1 = y1 ∧ x2 = y2 ∧ x3 = y3 ∧ x4 = y4 ∧ x5 = y5 ∧ x6 = y6 ∧ x7 = y7 ∧ x8 = y8 ∧ Typed tab (.slice 9) (.l x4) ∧ Typed tab (.slice 2) (.l x5) ∧ Typed tab (.slice 71) (.l x6) ∧ Typed tab (.slice 32) (.l x7)) = true → (qbm_c x0 x1 x2 x3 x4 x5 x6 x7 x8 y0 y1 y2 y3 y4 y5 y6 y7 y8) = true ∧ (qbm_v x0 x1 x2 x3 x4 x5 x6 x7 x8 y0 y1 y2 y3 y4 y5 y6 y7 y8) = true := by
  intro h
  obtain ⟨hM, rfl, rfl, rfl, rfl, rfl, rfl, rfl, rfl, rfl, t4, t5, t6, t7⟩ := is_iff.1 h
  have c4 : qbg_c x4 x4 = true := is_true ⟨rfl, t4⟩
  have c5 : qbk_c x5 x5 = true := is_true ⟨rfl, t5⟩
  have c6 : qbh_c x6 x6 = true := is_true ⟨rfl, t6, fun x hx => qcf_cc (is_true ⟨by have a := dep_cell hx 8; have b := dep_cell hx 9; omega, rfl, rfl, rfl, rfl, rfl, rfl, rfl, rfl, rfl, typed_list ((typed_elem t6 hx).2 6 (by decide)), typed_list ((typed_elem t6 hx).2 7 (by decide)), typed_list ((typed_elem t6 hx).2 8 (by decide)), typed_list ((typed_elem t6 hx).2 9 (by decide))⟩)⟩
  have c7 : qbp_c x7 x7 = true := is_true ⟨rfl, t7, fun x hx => is_true ⟨by have a := dep_cell hx 6; have b := dep_cell hx 7; omega, rfl, rfl, rfl, rfl, rfl, rfl, rfl, rfl, rfl, typed_list ((typed_elem t7 hx).2 4 (by decide)), typed_list ((typed_elem t7 hx).2 5 (by decide)), typed_list ((typed_elem t7 hx).2 6 (by decide)), typed_list ((typed_elem t7 hx).2 7 (by decide))⟩⟩
  constructor
  · unfold qbm_c
    simp only [c4, c5, c6, c7, qbg_v, qbk_v, qbh_v, qbp_v, beq_self_eq_true, Bool.not_true, cond_false, Bool.and_self]
  · unfold qbm_v
    simp only [qbg_v, qbk_v, qbh_v, qbp_v, beq_self_eq_true, Bool.not_true, cond_false]
theorem qbm_nxr (x0 x1 : Int) (x2 x3 : Bool) (x4 x5 x6 x7 : LL) (x8 y0 y1 : Int) (y2 y3 : Bool) (y4 y5 y6 y7 : LL) (y8 : Int) : qbm_rc (i_laws_eqType := ⟨qbm_O.n + 1⟩) x0 x1 x2 x3 x4 x5 x6 x7 x8 y0 y1 y2 y3 y4 y5 y6 y7 y8 = true → (qbm_c x0 x1 x2 x3 x4 x5 x6 x7 x8 y0 y1 y2 y3 y4 y5 y6 y7 y8) = true ∧ (qbm_v x0 x1 x2 x3 x4 x5 x6 x7 x8 y0 y1 y2 y3 y4 y5 y6 y7 y8) = (qbm_rv x0 x1 x2 x3 x4 x5 x6 x7 x8 y0 y1 y2 y3 y4 y5 y6 y7 y8) := fun h => qbm_nx x0 x1 x2 x3 x4 x5 x6 x7 x8 y0 y1 y2 y3 y4 y5 y6 y7 y8 h
theorem qbm_rs : ∀ xs r, qbm_rS (i_laws_eqType := ⟨qbm_O.n + 1⟩) xs = some (true, r) → runF tab FT D66 live 13 noLoops xs = some r := by
  intro xs r h
  unfold qbm_rS at h
  split at h
  · simp only [Option.some.injEq, Prod.mk.injEq] at h
    obtain ⟨h1, rfl⟩ := h
    have hx := qbm_nxr _ _ _ _ _ _ _ _ _ _ _ _ _ _ _ _ _ _ h1
    have ht := fun_told (qbm_e _ _ _ _ _ _ _ _ _ _ _ _ _ _ _ _ _ _) (qbm_l _ _ _ _ _ _ _ _ _ _ _ _ _ _ _ _ _ _) hx.1
    rw [hx.2] at ht
    exact ht
  · cases h
theorem qbm_step : qbm_G (i_laws_eqType := ⟨qbm_O.n + 1⟩) := by
  have h := DOk.also2 (S := qbm_rS (i_laws_eqType := ⟨qbm_O.n + 1⟩)) mixed_ok tab_ok names_ok d62 d66 noLoops_ok qbm_rs
  refine qbm_G.mk (i_laws_eqType := ⟨qbm_O.n + 1⟩) ?_
  exact h
noncomputable def laws_FnExactClampNumber_t (x0 x1 : Int) (x2 x3 : Bool) (x4 x5 x6 x7 : LL) (x8 x9 : Int) : Tr Bool := (.ite ((qba_rc x0 x1 x2 x3 x4 x5 x6 x7 x8 (1048576 : Int)) = true) (.ite ((decide ((qba_rv x0 x1 x2 x3 x4 x5 x6 x7 x8 (1048576 : Int)) < (0 : Int))) = true) (.ok true)
   (.ite ((qj_rc x0 x1 x2 x3 x4 x5 x6 x7 x8) = true) (.ite ((qbx_c ((qj_rv x0 x1 x2 x3 x4 x5 x6 x7 x8).1) ((qj_rv x0 x1 x2 x3 x4 x5 x6 x7 x8).2.1) ((qj_rv x0 x1 x2 x3 x4 x5 x6 x7 x8).2.2.1) ((qj_rv x0 x1 x2 x3 x4 x5 x6 x7 x8).2.2.2.1) ((qj_rv x0 x1 x2 x3 x4 x5 x6 x7 x8).2.2.2.2.1) ((qj_rv x0 x1 x2 x3 x4 x5 x6 x7 x8).2.2.2.2.2.1) ((qj_rv x0 x1 x2 x3 x4 x5 x6 x7 x8).2.2.2.2.2.2.1) ((qj_rv x0 x1 x2 x3 x4 x5 x6 x7 x8).2.2.2.2.2.2.2.1) ((qj_rv x0 x1 x2 x3 x4 x5 x6 x7 x8).2.2.2.2.2.2.2.2) x9) = true) (.ite ((qj_rc x0 x1 x2 x3 x4 x5 x6 x7 x8) = true) (.ite ((qbw_c ((qj_rv x0 x1 x2 x3 x4 x5 x6 x7 x8).1) ((qj_rv x0 x1 x2 x3 x4 x5 x6 x7 x8).2.1) ((qj_rv x0 x1 x2 x3 x4 x5 x6 x7 x8).2.2.1) ((qj_rv x0 x1 x2 x3 x4 x5 x6 x7 x8).2.2.2.1) ((qj_rv x0 x1 x2 x3 x4 x5 x6 x7 x8).2.2.2.2.1) ((qj_rv x0 x1 x2 x3 x4 x5 x6 x7 x8).2.2.2.2.2.1) ((qj_rv x0 x1 x2 x3 x4 x5 x6 x7 x8).2.2.2.2.2.2.1) ((qj_rv x0 x1 x2 x3 x4 x5 x6 x7 x8).2.2.2.2.2.2.2.1) ((qj_rv x0 x1 x2 x3 x4 x5 x6 x7 x8).2.2.2.2.2.2.2.2) x9) = true) (.ite ((!((qbw_v ((qj_rv x0 x1 x2 x3 x4 x5 x6 x7 x8).1) ((qj_rv x0 x1 x2 x3 x4 x5 x6 x7 x8).2.1) ((qj_rv x0 x1 x2 x3 x4 x5 x6 x7 x8).2.2.1) ((qj_rv x0 x1 x2 x3 x4 x5 x6 x7 x8).2.2.2.1) ((qj_rv x0 x1 x2 x3 x4 x5 x6 x7 x8).2.2.2.2.1) ((qj_rv x0 x1 x2 x3 x4 x5 x6 x7 x8).2.2.2.2.2.1) ((qj_rv x0 x1 x2 x3 x4 x5 x6 x7 x8).2.2.2.2.2.2.1) ((qj_rv x0 x1 x2 x3 x4 x5 x6 x7 x8).2.2.2.2.2.2.2.1) ((qj_rv x0 x1 x2 x3 x4 x5 x6 x7 x8).2.2.2.2.2.2.2.2) x9).1 == (qbx_v ((qj_rv x0 x1 x2 x3 x4 x5 x6 x7 x8).1) ((qj_rv x0 x1 x2 x3 x4 x5 x6 x7 x8).2.1) ((qj_rv x0 x1 x2 x3 x4 x5 x6 x7 x8).2.2.1) ((qj_rv x0 x1 x2 x3 x4 x5 x6 x7 x8).2.2.2.1) ((qj_rv x0 x1 x2 x3 x4 x5 x6 x7 x8).2.2.2.2.1) ((qj_rv x0 x1 x2 x3 x4 x5 x6 x7 x8).2.2.2.2.2.1) ((qj_rv x0 x1 x2 x3 x4 x5 x6 x7 x8).2.2.2.2.2.2.1) ((qj_rv x0 x1 x2 x3 x4 x5 x6 x7 x8).2.2.2.2.2.2.2.1) ((qj_rv x0 x1 x2 x3 x4 x5 x6 x7 x8).2.2.2.2.2.2.2.2) x9).1)) = true) (.ok false)
        (.ite ((!((qbw_v ((qj_rv x0 x1 x2 x3 x4 x5 x6 x7 x8).1) ((qj_rv x0 x1 x2 x3 x4 x5 x6 x7 x8).2.1) ((qj_rv x0 x1 x2 x3 x4 x5 x6 x7 x8).2.2.1) ((qj_rv x0 x1 x2 x3 x4 x5 x6 x7 x8).2.2.2.1) ((qj_rv x0 x1 x2 x3 x4 x5 x6 x7 x8).2.2.2.2.1) ((qj_rv x0 x1 x2 x3 x4 x5 x6 x7 x8).2.2.2.2.2.1) ((qj_rv x0 x1 x2 x3 x4 x5 x6 x7 x8).2.2.2.2.2.2.1) ((qj_rv x0 x1 x2 x3 x4 x5 x6 x7 x8).2.2.2.2.2.2.2.1) ((qj_rv x0 x1 x2 x3 x4 x5 x6 x7 x8).2.2.2.2.2.2.2.2) x9).2 == (qbx_v ((qj_rv x0 x1 x2 x3 x4 x5 x6 x7 x8).1) ((qj_rv x0 x1 x2 x3 x4 x5 x6 x7 x8).2.1) ((qj_rv x0 x1 x2 x3 x4 x5 x6 x7 x8).2.2.1) ((qj_rv x0 x1 x2 x3 x4 x5 x6 x7 x8).2.2.2.1) ((qj_rv x0 x1 x2 x3 x4 x5 x6 x7 x8).2.2.2.2.1) ((qj_rv x0 x1 x2 x3 x4 x5 x6 x7 x8).2.2.2.2.2.1) ((qj_rv x0 x1 x2 x3 x4 x5 x6 x7 x8).2.2.2.2.2.2.1) ((qj_rv x0 x1 x2 x3 x4 x5 x6 x7 x8).2.2.2.2.2.2.2.1) ((qj_rv x0 x1 x2 x3 x4 x5 x6 x7 x8).2.2.2.2.2.2.2.2) x9).2)) = true) (.ok false)
         (.ite ((qj_rc x0 x1 x2 x3 x4 x5 x6 x7 x8) = true) (.ite ((qbm_rc ((qj_rv x0 x1 x2 x3 x4 x5 x6 x7 x8).1) ((qj_rv x0 x1 x2 x3 x4 x5 x6 x7 x8).2.1) ((qj_rv x0 x1 x2 x3 x4 x5 x6 x7 x8).2.2.1) ((qj_rv x0 x1 x2 x3 x4 x5 x6 x7 x8).2.2.2.1) ((qj_rv x0 x1 x2 x3 x4 x5 x6 x7 x8).2.2.2.2.1) ((qj_rv x0 x1 x2 x3 x4 x5 x6 x7 x8).2.2.2.2.2.1) ((qj_rv x0 x1 x2 x3 x4 x5 x6 x7 x8).2.2.2.2.2.2.1) ((qj_rv x0 x1 x2 x3 x4 x5 x6 x7 x8).2.2.2.2.2.2.2.1) ((qj_rv x0 x1 x2 x3 x4 x5 x6 x7 x8).2.2.2.2.2.2.2.2) ((qj_rv x0 x1 x2 x3 x4 x5 x6 x7 x8).1) ((qj_rv x0 x1 x2 x3 x4 x5 x6 x7 x8).2.1) ((qj_rv x0 x1 x2 x3 x4 x5 x6 x7 x8).2.2.1) ((qj_rv x0 x1 x2 x3 x4 x5 x6 x7 x8).2.2.2.1) ((qj_rv x0 x1 x2 x3 x4 x5 x6 x7 x8).2.2.2.2.1) ((qj_rv x0 x1 x2 x3 x4 x5 x6 x7 x8).2.2.2.2.2.1) ((qj_rv x0 x1 x2 x3 x4 x5 x6 x7 x8).2.2.2.2.2.2.1) ((qj_rv x0 x1 x2 x3 x4 x5 x6 x7 x8).2.2.2.2.2.2.2.1) ((qj_rv x0 x1 x2 x3 x4 x5 x6 x7 x8).2.2.2.2.2.2.2.2)) = true) (.ite ((!(qbm_rv ((qj_rv x0 x1 x2 x3 x4 x5 x6 x7 x8).1) ((qj_rv x0 x1 x2 x3 x4 x5 x6 x7 x8).2.1) ((qj_rv x0 x1 x2 x3 x4 x5 x6 x7 x8).2.2.1) ((qj_rv x0 x1 x2 x3 x4 x5 x6 x7 x8).2.2.2.1) ((qj_rv x0 x1 x2 x3 x4 x5 x6 x7 x8).2.2.2.2.1) ((qj_rv x0 x1 x2 x3 x4 x5 x6 x7 x8).2.2.2.2.2.1) ((qj_rv x0 x1 x2 x3 x4 x5 x6 x7 x8).2.2.2.2.2.2.1) ((qj_rv x0 x1 x2 x3 x4 x5 x6 x7 x8).2.2.2.2.2.2.2.1) ((qj_rv x0 x1 x2 x3 x4 x5 x6 x7 x8).2.2.2.2.2.2.2.2) ((qj_rv x0 x1 x2 x3 x4 x5 x6 x7 x8).1) ((qj_rv x0 x1 x2 x3 x4 x5 x6 x7 x8).2.1) ((qj_rv x0 x1 x2 x3 x4 x5 x6 x7 x8).2.2.1) ((qj_rv x0 x1 x2 x3 x4 x5 x6 x7 x8).2.2.2.1) ((qj_rv x0 x1 x2 x3 x4 x5 x6 x7 x8).2.2.2.2.1) ((qj_rv x0 x1 x2 x3 x4 x5 x6 x7 x8).2.2.2.2.2.1) ((qj_rv x0 x1 x2 x3 x4 x5 x6 x7 x8).2.2.2.2.2.2.1) ((qj_rv x0 x1 x2 x3 x4 x5 x6 x7 x8).2.2.2.2.2.2.2.1) ((qj_rv x0 x1 x2 x3 x4 x5 x6 x7 x8).2.2.2.2.2.2.2.2))) = true) (.ok false)
            (.ok true))
           .no)
          .no)))
       .no)
      .no)
     .no)
    .no))
  .no)
theorem laws_FnExactClampNumber_e (x0 x1 : Int) (x2 x3 : Bool) (x4 x5 x6 x7 : LL) (x8 x9 : Int) : runF tab FT D66 live 6 noLoops [(true, [(.int .i64, TC.i x0), (.int .i64, TC.i x1), (.bool, TC.b x2), (.bool, TC.b x3), (.slice 9, TC.l x4), (.slice 2, TC.l x5), (.slice 67, TC.l x6), (.slice 27, TC.l x7), (.int .i64, TC.i x8)]), (false, [(.int .i64, TC.i x9)])] = (laws_FnExactClampNumber_t x0 x1 x2 x3 x4 x5 x6 x7 x8 x9).run fun p => some [(false, [⟨.bool, .sh, .b p⟩])] := by kernel_rfl
theorem tyArgsType {A B C E : LL} (a4 : Typed tab (.slice 9) (.l A)) (a5 : Typed tab (.slice 2) (.l B)) (a6 : Typed tab (.slice 67) (.l C)) (a7 : Typed tab (.slice 27) (.l E)) : Typed tab (.slice 9) (.l A) ∧ Typed tab (.slice 2) (.l B) ∧ Typed tab (.slice 71) (.l C) ∧ Typed tab (.slice 32) (.l E) :=
  ⟨typed_iso iso_ok a4 (by decide), typed_iso iso_ok a5 (by decide), typed_iso iso_ok a6 (by decide), typed_iso iso_ok a7 (by decide)⟩
theorem eqType_rv {x0 : Int} {x1 : Int} {x2 : Bool} {x3 : Bool} {x4 : LL} {x5 : LL} {x6 : LL} {x7 : LL} {x8 : Int} {y0 : Int} {y1 : Int} {y2 : Bool} {y3 : Bool} {y4 : LL} {y5 : LL} {y6 : LL} {y7 : LL} {y8 : Int} : ¬(!(qbm_rv x0 x1 x2 x3 x4 x5 x6 x7 x8 y0 y1 y2 y3 y4 y5 y6 y7 y8)) = true := by
  show ¬(!true) = true
  decide
theorem laws_FnExactClampNumber_p (x0 x1 : Int) (x2 x3 : Bool) (x4 x5 x6 x7 : LL) (x8 x9 : Int) (h0 : Typed tab (.int .i64) (.i x0)) (h1 : Typed tab (.int .i64) (.i x1)) (h2 : Typed tab (.bool) (.b x2)) (h3 : Typed tab (.bool) (.b x3)) (h4 : Typed tab (.slice 9) (.l x4)) (h5 : Typed tab (.slice 2) (.l x5)) (h6 : Typed tab (.slice 67) (.l x6)) (h7 : Typed tab (.slice 27) (.l x7)) (h8 : Typed tab (.int .i64) (.i x8)) (h9 : Typed tab (.int .i64) (.i x9)) (NN : Nat) (eN : NN = rowsDep x4 + rowsDep x5 + rowsDep x6 + rowsDep x7 + 1) (r_laws_szType : ∀ (x0 x1 : Int) (x2 x3 : Bool) (x4 x5 x6 x7 : LL) (x8 x9 : Int), max (rowsDep x6) (rowsDep x7) < NN ∧ Typed tab (.slice 9) (.l x4) ∧ Typed tab (.slice 2) (.l x5) ∧ Typed tab (.slice 67) (.l x6) ∧ Typed tab (.slice 27) (.l x7) → (qba_rc x0 x1 x2 x3 x4 x5 x6 x7 x8 x9) = true) (n_laws_toType : NN ≤ qj_O.n) (n_spec_l02Size : NN ≤ qn_O.n) (n_spec_l02Depth : NN ≤ qf_O.n) (n_spec_l02Ok : NN ≤ qbf_O.n) (n_impl_Type_size : NN ≤ qx_O.n) (n_impl_SameType : NN ≤ qz_O.n) (n_impl_Type_valid : NN ≤ qt_O.n) (n_laws_eqType : NN ≤ qbm_O.n) : (laws_FnExactClampNumber_t x0 x1 x2 x3 x4 x5 x6 x7 x8 x9).val = some true := by
  have t4_9 := qbb_ty h4
  have t5_2 := qbe_ty h5
  have t6_71 := qbc_ty h6
  have t7_32 := qbi_ty h7
  obtain ⟨i4, i5, i6, i7⟩ := tyArgsType h4 h5 h6 h7
  have szc0 : okV x0 x1 x2 x3 x4 x5 x6 x7 x8 = true → qn_rc x0 x1 x2 x3 x4 x5 x6 x7 x8 = true := fun h => is_true ⟨by omega, okV_size h⟩
  have dpc0 : okV x0 x1 x2 x3 x4 x5 x6 x7 x8 = true → qf_rc x0 x1 x2 x3 x4 x5 x6 x7 x8 = true := fun h => is_true ⟨by omega, okV_depth h, i6, i7⟩
  have okc0 : qbf_rc x0 x1 x2 x3 x4 x5 x6 x7 x8 = true := is_true ⟨by omega, by omega, by omega, i4, i5, i6, i7⟩
  have isc0 : okV x0 x1 x2 x3 x4 x5 x6 x7 x8 = true → qx_rc x0 x1 x2 x3 x4 x5 x6 x7 x8 = true := fun h => is_true ⟨by omega, (okV_isize h).2⟩
  have vac0 : qt_rc x0 x1 x2 x3 x4 x5 x6 x7 x8 3 = true := is_true ⟨by omega, by omega, by omega, by omega, i4, i5, i6, i7⟩
  unfold laws_FnExactClampNumber_t
  simp only [show qj_rv x0 x1 x2 x3 x4 x5 x6 x7 x8 = (x0, x1, x2, x3, x4, x5, x6, x7, x8) from rfl]
  refine Tr.t (by first | (exact r_laws_szType _ _ _ _ _ _ _ _ _ _ ⟨by omega, h4, h5, h6, h7⟩)) ?_
  refine Tr.y ?_
  refine Tr.t (by first | (exact is_true ⟨by omega, h4, h5, h6, h7⟩)) ?_
  refine Tr.t (by first | (exact qbx_cc okc0)) ?_
  refine Tr.t (by first | (exact is_true ⟨by omega, h4, h5, h6, h7⟩)) ?_
  refine Tr.t (by first | (exact qbw_cc vac0)) ?_
  refine Tr.n (by first | (exact eqType_rv) | (rw [qbx_vv, qbw_vv]; simp)) ?_
  refine Tr.n (by first | (exact eqType_rv) | (rw [qbx_vv, qbw_vv]; simp)) ?_
  refine Tr.t (by first | (exact is_true ⟨by omega, h4, h5, h6, h7⟩)) ?_
  refine Tr.t (by first | (exact is_true ⟨by omega, rfl, rfl, rfl, rfl, rfl, rfl, rfl, rfl, rfl, i4, i5, i6, i7⟩)) ?_
  refine Tr.n (by first | (exact eqType_rv) | (rw [qbx_vv, qbw_vv]; simp)) ?_
  rfl
end
theorem qbm_none : ∀ xs r, qbm_rS (i_laws_eqType := ⟨0⟩) xs ≠ some (true, r) := by
  intro xs r h
  unfold qbm_rS at h
  split at h
  · simp only [Option.some.injEq, Prod.mk.injEq] at h
    have h1 := is_iff.1 h.1
    exact absurd h1.1 (Nat.not_lt_zero _)
  · cases h
theorem qbm_good : ∀ n : Nat, qbm_G (i_laws_eqType := ⟨n⟩) := by
  intro n
  induction n with
  | zero => exact qbm_G.mk (i_laws_eqType := ⟨0⟩) (DOk.also0 d62 qbm_none)
  | succ n ih => exact qbm_step (i_laws_eqType := ⟨n⟩) (g_laws_eqType := ih)
end
theorem qt_none : ∀ xs r, qt_rS (i_impl_Type_valid := ⟨0⟩) xs ≠ some (true, r) := by
  intro xs r h
  unfold qt_rS at h
  split at h
  · simp only [Option.some.injEq, Prod.mk.injEq] at h
    have h1 := is_iff.1 h.1
    exact absurd h1.1 (Nat.not_lt_zero _)
  · cases h
theorem qt_good : ∀ n : Nat, qt_G (i_impl_Type_valid := ⟨n⟩) := by
  intro n
  induction n with
  | zero => exact qt_G.mk (i_impl_Type_valid := ⟨0⟩) (DOk.also0 d43 qt_none)
  | succ n ih => exact qt_step (i_impl_Type_valid := ⟨n⟩) (g_impl_Type_valid := ih)
end
theorem qz_none : ∀ xs r, qz_rS (i_impl_SameType := ⟨0⟩) xs ≠ some (true, r) := by
  intro xs r h
  unfold qz_rS at h
  split at h
  · simp only [Option.some.injEq, Prod.mk.injEq] at h
    have h1 := is_iff.1 h.1
    exact absurd h1.1 (Nat.not_lt_zero _)
  · cases h
theorem qz_good : ∀ n : Nat, qz_G (i_impl_SameType := ⟨n⟩) := by
  intro n
  induction n with
  | zero => exact qz_G.mk (i_impl_SameType := ⟨0⟩) (DOk.also0 d35 qz_none)
  | succ n ih => exact qz_step (i_impl_SameType := ⟨n⟩) (g_impl_SameType := ih)
end
theorem qx_none : ∀ xs r, qx_rS (i_impl_Type_size := ⟨0⟩) xs ≠ some (true, r) := by
  intro xs r h
  unfold qx_rS at h
  split at h
  · simp only [Option.some.injEq, Prod.mk.injEq] at h
    have h1 := is_iff.1 h.1
    exact absurd h1.1 (Nat.not_lt_zero _)
  · cases h
theorem qx_good : ∀ n : Nat, qx_G (i_impl_Type_size := ⟨n⟩) := by
  intro n
  induction n with
  | zero => exact qx_G.mk (i_impl_Type_size := ⟨0⟩) (DOk.also0 d31 qx_none)
  | succ n ih => exact qx_step (i_impl_Type_size := ⟨n⟩) (g_impl_Type_size := ih)
end
theorem qbf_none : ∀ xs r, qbf_rS (i_spec_l02Ok := ⟨0⟩) xs ≠ some (true, r) := by
  intro xs r h
  unfold qbf_rS at h
  split at h
  · simp only [Option.some.injEq, Prod.mk.injEq] at h
    have h1 := is_iff.1 h.1
    exact absurd h1.1 (Nat.not_lt_zero _)
  · cases h
theorem qbf_good : ∀ n : Nat, qbf_G (i_spec_l02Ok := ⟨n⟩) := by
  intro n
  induction n with
  | zero => exact qbf_G.mk (i_spec_l02Ok := ⟨0⟩) (DOk.also0 d23 qbf_none)
  | succ n ih => exact qbf_step (i_spec_l02Ok := ⟨n⟩) (g_spec_l02Ok := ih)
end
theorem qf_none : ∀ xs r, qf_rS (i_spec_l02Depth := ⟨0⟩) xs ≠ some (true, r) := by
  intro xs r h
  unfold qf_rS at h
  split at h
  · simp only [Option.some.injEq, Prod.mk.injEq] at h
    have h1 := is_iff.1 h.1
    exact absurd h1.1 (Nat.not_lt_zero _)
  · cases h
end
end
end
end Go.Proofs.Ytdcafhfnkblfkaa.V
