/- What the functions of FnExactConvertible answer. No condition. -/
import Derived.Test.YtdcafhfnkblfkaaVFnExactConvertibleP3
namespace Go.Proofs.Ytdcafhfnkblfkaa.V
open Go
set_option maxRecDepth 100000
set_option linter.unusedVariables false
set_option linter.unusedSectionVars false
set_option linter.unusedSimpArgs false
set_option maxHeartbeats 2000000
section
variable [i_laws_szType : qbh_O]
variable [g_laws_szType : qbh_G]
section
variable [i_laws_toType : qk_O]
variable [g_laws_toType : qk_G]
section
variable [i_spec_l02Size : qt_O]
variable [g_spec_l02Size : qt_G]
section
variable [i_spec_l02Depth : qi_O]
variable [g_spec_l02Depth : qi_G]
section
variable [i_spec_l02Ok : qbk_O]
variable [g_spec_l02Ok : qbk_G]
section
variable [i_spec_l04Can : qw_O]
variable [g_spec_l04Can : qw_G]
section
variable [i_impl_Type_size : qbd_O]
variable [g_impl_Type_size : qbd_G]
section
variable [i_impl_SameType : qbf_O]
variable [g_impl_SameType : qbf_G]
section
variable [i_impl_Type_valid : qx_O]
variable [g_impl_Type_valid : qx_G]
theorem qj_is2 : LoopIs tab FT D47 live 137 qj_lo 0 2 := by
  refine loop_told (sl := qj_2_sl) (step := qj_2_st) (out := qj_2_out) (lor := qj_lo2) (fin := fun x => (qj_2_fin (x.1) (x.2.1) (x.2.2.1) (x.2.2.2))) (fun _ => rfl) ?_ (fun x n => qj_2_r x.1 x.2.1 x.2.2.1 x.2.2.2 n) (fun x ow => qj_2_h x.1 x.2.1 x.2.2.1 x.2.2.2 ow)
  intro s t h
  unfold qj_lo2 at h
  split at h
  · cases h; exact ⟨(_, _, _, _), rfl, rfl⟩
  · cases h
noncomputable def qj_t (A : LL) : Tr (Bool) := (.ite ((qj_k2_1 A A (A.length : Int) (0 : Int)) = true) (.ite ((qj_o2_2 A A (A.length : Int) (0 : Int)) = true) (.ok false)
   .no)
  (.ite ((qj_o2_3 A A (A.length : Int) (0 : Int)) = true) (.ok true)
   .no))
def qj_mk (p : Bool) : Res := [(false, [⟨.bool, .sh, TC.b p⟩])]
noncomputable def qj_c (A : LL) : Bool := (bif (qj_k2_1 A A (A.length : Int) (0 : Int)) then ((qj_o2_2 A A (A.length : Int) (0 : Int)) && true) else ((qj_o2_3 A A (A.length : Int) (0 : Int)) && true))
noncomputable def qj_v (A : LL) : Bool := (bif (qj_k2_1 A A (A.length : Int) (0 : Int)) then false else true)
theorem qj_l (A : LL) : (qj_c A) = true → (qj_t A).val = some (qj_v A) := by
  unfold qj_t qj_v qj_c
  exact fun h => (Tr.ss h (fun h => (Tr.gb h fun h => rfl)) (fun h => (Tr.gb h fun h => rfl)))
noncomputable def qj_S : List Arg → Option (Bool × Res) := fun xs => match xs with
  | [(false, [(.slice 9, TC.l A)])] => some ((qj_c A), qj_mk (qj_v A))
  | _ => .none
theorem qj_e (A : LL) : runF tab FT D47 live 137 qj_lo [(false, [(.slice 9, TC.l A)])] = (qj_t A).run fun p => some (qj_mk p) := by kernel_rfl
theorem qj_s : ∀ xs r, qj_S xs = some (true, r) → runF tab FT D47 live 137 qj_lo xs = some r := by
  intro xs r h
  unfold qj_S at h
  split at h
  · simp only [Option.some.injEq, Prod.mk.injEq] at h
    obtain ⟨h1, rfl⟩ := h
    exact fun_told (qj_e _) (qj_l _) h1
  · cases h
noncomputable def D48 : Dt := also D47 137 qj_S
theorem d48 : DOk Go.Proofs.Try.prog tab D48 := d47.also mixed_ok tab_ok names_ok (fnLoops_one (by kernel_rfl) qj_is2) qj_s
theorem qj_cc {A : LL} (ht : Typed tab (.slice 9) (.l A)) : (qj_c A) = true := by
  unfold qj_c
  refine bifT (fun b1 => ?_) (fun b1 => ?_)
  · skip
    refine andT (by exact is_true ⟨rfl, rfl, rfl, ht⟩) ?_
    rfl
  · skip
    refine andT (by exact is_true ⟨rfl, rfl, rfl, ht⟩) ?_
    rfl
theorem qj_vv (A : LL) : qj_v A = allI (fun i : Nat => dnP A (i : Int)) A.length := by
  unfold qj_v qj_k2_1
  rw [qj_R2_eq]
  cases allI (fun i : Nat => dnP A (i : Int)) A.length <;> rfl
noncomputable def qo_f5 (k s : Int) (sg bg : Bool) (NA NU ME BA : LL) (ct lw hg : Int) (X : LL) (m i : Int) : (Unit) ⊕ ((Int × Int × Bool × Bool × LL × LL × LL × LL × Int) ⊕ (Int × Int × Bool × Bool × LL × LL × LL × LL × Int)) := (bif (!(qcj_v ((nth (row X i) 0).int) lw hg)) then (.inr (.inl (k, s, sg, bg, NA, NU, ME, BA, ct))) else (bif (decide (i > (0 : Int))) then (bif (decide ((nth (row X i) 0).int ≤ (nth (row NU (IntKind.wrap .i64 (i - (1 : Int)))) 0).int)) then (.inr (.inl (k, s, sg, bg, NA, NU, ME, BA, ct))) else (.inl ())) else (.inl ())))
noncomputable def qo_e5 (k s : Int) (sg bg : Bool) (NA NU ME BA : LL) (ct lw hg : Int) (X : LL) (m : Int) : (Int × Int × Bool × Bool × LL × LL × LL × LL × Int) ⊕ (Int × Int × Bool × Bool × LL × LL × LL × LL × Int) := .inr (k, s, sg, bg, NA, NU, ME, BA, ct)
noncomputable def qo_R5 (k s : Int) (sg bg : Bool) (NA NU ME BA : LL) (ct lw hg : Int) (X : LL) (m i : Int) : (Int × Int × Bool × Bool × LL × LL × LL × LL × Int) ⊕ (Int × Int × Bool × Bool × LL × LL × LL × LL × Int) := iter (fun i a => (qo_f5 k s sg bg NA NU ME BA ct lw hg X m (i : Int))) (fun a => (qo_e5 k s sg bg NA NU ME BA ct lw hg X m)) (NU.length) 0 ()
abbrev qo_5_σ := Int × Int × Bool × Bool × LL × LL × LL × LL × Int × Int × Int × LL × Int × Int
abbrev qo_5_ω := (Int × Int × Bool × Bool × LL × LL × LL × LL × Int) ⊕ (Int × Int × Bool × Bool × LL × LL × LL × LL × Int)
noncomputable def qo_5_step (k s : Int) (sg bg : Bool) (NA NU ME BA : LL) (ct lw hg : Int) (X : LL) (m i : Int) : Tr (qo_5_σ ⊕ qo_5_ω) := (.ite ((decide (i < m)) = true) (.ite ((0 : Int) ≤ i ∧ i < (X.length : Int)) (.ite ((!(qcj_v ((nth (row X i) 0).int) lw hg)) = true) (.ok (.inr (.inl (k, s, sg, bg, NA, NU, ME, BA, ct))))
    (.ite ((decide (i > (0 : Int))) = true) (.ite ((0 : Int) ≤ (IntKind.wrap .i64 (i - (1 : Int))) ∧ (IntKind.wrap .i64 (i - (1 : Int))) < (NU.length : Int)) (.ite ((decide ((nth (row X i) 0).int ≤ (nth (row NU (IntKind.wrap .i64 (i - (1 : Int)))) 0).int)) = true) (.ok (.inr (.inl (k, s, sg, bg, NA, NU, ME, BA, ct))))
       (.ok (.inl (k, s, sg, bg, NA, NU, ME, BA, ct, lw, hg, X, m, (IntKind.wrap .i64 (i + (1 : Int)))))))
      .no)
     (.ok (.inl (k, s, sg, bg, NA, NU, ME, BA, ct, lw, hg, X, m, (IntKind.wrap .i64 (i + (1 : Int))))))))
   .no)
  (.ok (.inr (.inr (k, s, sg, bg, NA, NU, ME, BA, ct)))))
noncomputable def qo_5_st : qo_5_σ → Tr (qo_5_σ ⊕ qo_5_ω) := fun x => (qo_5_step (x.1) (x.2.1) (x.2.2.1) (x.2.2.2.1) (x.2.2.2.2.1) (x.2.2.2.2.2.1) (x.2.2.2.2.2.2.1) (x.2.2.2.2.2.2.2.1) (x.2.2.2.2.2.2.2.2.1) (x.2.2.2.2.2.2.2.2.2.1) (x.2.2.2.2.2.2.2.2.2.2.1) (x.2.2.2.2.2.2.2.2.2.2.2.1) (x.2.2.2.2.2.2.2.2.2.2.2.2.1) (x.2.2.2.2.2.2.2.2.2.2.2.2.2))
noncomputable def qo_k5_1 (k s : Int) (sg bg : Bool) (NA NU ME BA : LL) (ct lw hg : Int) (X : LL) (m i : Int) : Bool := sumIs (qo_R5 k s sg bg NA NU ME BA ct lw hg X m i)
noncomputable def qo_o5_2 (k s : Int) (sg bg : Bool) (NA NU ME BA : LL) (ct lw hg : Int) (X : LL) (m i : Int) : Bool := is (i = 0 ∧ NU = X ∧ m = (NU.length : Int) ∧ NU.length ≤ 140737488351232)
noncomputable def qo_o5_3 (k s : Int) (sg bg : Bool) (NA NU ME BA : LL) (ct lw hg : Int) (X : LL) (m i : Int) : Bool := is (i = 0 ∧ NU = X ∧ m = (NU.length : Int) ∧ NU.length ≤ 140737488351232)
noncomputable def qo_5_fin (k s : Int) (sg bg : Bool) (NA NU ME BA : LL) (ct lw hg : Int) (X : LL) (m i : Int) : Told qo_5_ω := (.br (qo_k5_1 k s sg bg NA NU ME BA ct lw hg X m i) (.leaf (qo_o5_2 k s sg bg NA NU ME BA ct lw hg X m i) (.inl (k, s, sg, bg, NA, NU, ME, BA, ct))) (.leaf (qo_o5_3 k s sg bg NA NU ME BA ct lw hg X m i) (.inr (k, s, sg, bg, NA, NU, ME, BA, ct))))
def qo_5_sl (x : qo_5_σ) : List Slot := [⟨.bx 32 [⟨.int .i64, .sh, TC.i (x.1)⟩, ⟨.int .i64, .sh, TC.i (x.2.1)⟩, ⟨.bool, .sh, TC.b (x.2.2.1)⟩, ⟨.bool, .sh, TC.b (x.2.2.2.1)⟩, ⟨.slice 9, .sh, TC.l (x.2.2.2.2.1)⟩, ⟨.slice 2, .sh, TC.l (x.2.2.2.2.2.1)⟩, ⟨.slice 71, .sh, TC.l (x.2.2.2.2.2.2.1)⟩, ⟨.slice 32, .sh, TC.l (x.2.2.2.2.2.2.2.1)⟩, ⟨.int .i64, .sh, TC.i (x.2.2.2.2.2.2.2.2.1)⟩], ⟨0, 0⟩⟩, ⟨.val false [⟨.int .i64, .sh, TC.i (x.2.2.2.2.2.2.2.2.2.1)⟩], ⟨0, 0⟩⟩, ⟨.val false [⟨.int .i64, .sh, TC.i (x.2.2.2.2.2.2.2.2.2.2.1)⟩], ⟨0, 0⟩⟩, ⟨.val false [⟨.slice 2, .sh, TC.l (x.2.2.2.2.2.2.2.2.2.2.2.1)⟩], ⟨0, 0⟩⟩, ⟨.val false [⟨.int .i64, .sh, TC.i (x.2.2.2.2.2.2.2.2.2.2.2.2.1)⟩], ⟨0, 0⟩⟩, ⟨.val false [⟨.int .i64, .sh, TC.i (x.2.2.2.2.2.2.2.2.2.2.2.2.2)⟩], ⟨0, 0⟩⟩]
def qo_5_out : qo_5_ω → Ex × List Slot := (Sum.elim (fun x => (.ret, [⟨.bx 32 [⟨.int .i64, .sh, TC.i (x.1)⟩, ⟨.int .i64, .sh, TC.i (x.2.1)⟩, ⟨.bool, .sh, TC.b (x.2.2.1)⟩, ⟨.bool, .sh, TC.b (x.2.2.2.1)⟩, ⟨.slice 9, .sh, TC.l (x.2.2.2.2.1)⟩, ⟨.slice 2, .sh, TC.l (x.2.2.2.2.2.1)⟩, ⟨.slice 71, .sh, TC.l (x.2.2.2.2.2.2.1)⟩, ⟨.slice 32, .sh, TC.l (x.2.2.2.2.2.2.2.1)⟩, ⟨.int .i64, .sh, TC.i (x.2.2.2.2.2.2.2.2)⟩], ⟨0, 0⟩⟩, ⟨.val false [⟨.bool, .sh, TC.b false⟩], ⟨0, 0⟩⟩])) (fun x => (.exit 0, [⟨.bx 32 [⟨.int .i64, .sh, TC.i (x.1)⟩, ⟨.int .i64, .sh, TC.i (x.2.1)⟩, ⟨.bool, .sh, TC.b (x.2.2.1)⟩, ⟨.bool, .sh, TC.b (x.2.2.2.1)⟩, ⟨.slice 9, .sh, TC.l (x.2.2.2.2.1)⟩, ⟨.slice 2, .sh, TC.l (x.2.2.2.2.2.1)⟩, ⟨.slice 71, .sh, TC.l (x.2.2.2.2.2.2.1)⟩, ⟨.slice 32, .sh, TC.l (x.2.2.2.2.2.2.2.1)⟩, ⟨.int .i64, .sh, TC.i (x.2.2.2.2.2.2.2.2)⟩], ⟨0, 0⟩⟩, Slot.none])))
noncomputable def qo_lo5 : List Slot → Option (Told (Ex × List Slot)) := fun s => match s with
  | [⟨.bx 32 [⟨.int .i64, .sh, TC.i k⟩, ⟨.int .i64, .sh, TC.i s⟩, ⟨.bool, .sh, TC.b sg⟩, ⟨.bool, .sh, TC.b bg⟩, ⟨.slice 9, .sh, TC.l NA⟩, ⟨.slice 2, .sh, TC.l NU⟩, ⟨.slice 71, .sh, TC.l ME⟩, ⟨.slice 32, .sh, TC.l BA⟩, ⟨.int .i64, .sh, TC.i ct⟩], ⟨0, 0⟩⟩, ⟨.val false [⟨.int .i64, .sh, TC.i lw⟩], ⟨0, 0⟩⟩, ⟨.val false [⟨.int .i64, .sh, TC.i hg⟩], ⟨0, 0⟩⟩, ⟨.val false [⟨.slice 2, .sh, TC.l X⟩], ⟨0, 0⟩⟩, ⟨.val false [⟨.int .i64, .sh, TC.i m⟩], ⟨0, 0⟩⟩, ⟨.val false [⟨.int .i64, .sh, TC.i i⟩], ⟨0, 0⟩⟩] => some (((qo_5_fin k s sg bg NA NU ME BA ct lw hg X m i)).map qo_5_out)
  | _ => .none
noncomputable def qo_lo : LoopTeller := fun r s => bif Nat.beq r 5 then qo_lo5 s else .none
theorem qo_5_r (k s : Int) (sg bg : Bool) (NA NU ME BA : LL) (ct lw hg : Int) (X : LL) (m i : Int) (fuel : Nat) : rounds (rnd tab FT D48 live 106 qo_lo 0 5) leave (fuel + 1) (qo_5_sl (k, s, sg, bg, NA, NU, ME, BA, ct, lw, hg, X, m, i)) = ((qo_5_step k s sg bg NA NU ME BA ct lw hg X m i)).run (goOn (fun s => rounds (rnd tab FT D48 live 106 qo_lo 0 5) leave fuel (qo_5_sl s)) fun w => some (qo_5_out w)) := by kernel_rfl
theorem qo_f5_eq (k s : Int) (sg bg : Bool) (NA NU ME BA : LL) (ct : Int) (lw hg : Int) (m i : Int) : qo_f5 k s sg bg NA NU ME BA ct lw hg NU m i = bif numP NU lw hg i then Sum.inl () else Sum.inr (Sum.inl (k, s, sg, bg, NA, NU, ME, BA, ct)) := by
  unfold qo_f5 numP ascB intAt
  rw [show qcj_v (nth (row NU i) 0).int lw hg = inB (nth (row NU i) 0).int lw hg from rfl, show decide ((nth (row NU (IntKind.wrap .i64 (i - (1 : Int)))) 0).int ≥ (nth (row NU i) 0).int) = decide ((nth (row NU i) 0).int ≤ (nth (row NU (IntKind.wrap .i64 (i - (1 : Int)))) 0).int) from rfl]
  generalize inB (nth (row NU i) 0).int lw hg = p0, decide (i > 0) = p1, decide ((nth (row NU i) 0).int ≤ (nth (row NU (IntKind.wrap .i64 (i - (1 : Int)))) 0).int) = p2
  cases p0 <;> cases p1 <;> cases p2 <;> rfl
theorem qo_R5_eq (k s : Int) (sg bg : Bool) (NA NU ME BA : LL) (ct : Int) (lw hg : Int) (m : Int) : qo_R5 k s sg bg NA NU ME BA ct lw hg NU m 0 = bif allI (fun i : Nat => numP NU lw hg (i : Int)) NU.length then Sum.inr (k, s, sg, bg, NA, NU, ME, BA, ct) else Sum.inl (k, s, sg, bg, NA, NU, ME, BA, ct) := by
  unfold qo_R5
  exact (iter_all (P := fun i : Nat => numP NU lw hg (i : Int)) (g := fun _ a => a) (w := Sum.inl (k, s, sg, bg, NA, NU, ME, BA, ct)) fun j a _ => qo_f5_eq k s sg bg NA NU ME BA ct lw hg m _)
theorem qo_5_h (k s : Int) (sg bg : Bool) (NA NU ME BA : LL) (ct lw hg : Int) (X : LL) (m i : Int) (ow : qo_5_ω) : ((qo_5_fin k s sg bg NA NU ME BA ct lw hg X m i)).val = some ow → ∃ fuel, loopN qo_5_st fuel (k, s, sg, bg, NA, NU, ME, BA, ct, lw, hg, X, m, i) = some ow := by
  refine auto_const (R := (qo_R5 k s sg bg NA NU ME BA ct lw hg X m i)) rfl (iter_onR (f := (fun i a => (qo_f5 k s sg bg NA NU ME BA ct lw hg X m (i : Int)))) (fin := (fun a => (qo_e5 k s sg bg NA NU ME BA ct lw hg X m))) (Q := endsAs (k, s, sg, bg, NA, NU, ME, BA, ct) (k, s, sg, bg, NA, NU, ME, BA, ct)) (fun i a => by unfold qo_f5; exact (onR_bif rfl (onR_bif (onR_bif rfl trivial) trivial))) (fun _ => rfl) _ _ _) ?_
  intro ho
  have ho : is (i = 0 ∧ NU = X ∧ m = (NU.length : Int) ∧ NU.length ≤ 140737488351232) = true := ho.elim id id
  obtain ⟨rfl, rfl, rfl, hl⟩ := is_iff.1 ho
  skip
  refine ⟨(NU.length) + 1, ?_⟩
  refine iter_loop (step := qo_5_st) (NU.length) (fun i a => (qo_f5 k s sg bg NA NU ME BA ct lw hg NU (NU.length : Int) (i : Int))) (fun a => (qo_e5 k s sg bg NA NU ME BA ct lw hg NU (NU.length : Int))) (fun i a => (k, s, sg, bg, NA, NU, ME, BA, ct, lw, hg, NU, (NU.length : Int), (i : Int))) (fun _ _ => True) trivial (fun i a hi hI => ⟨?_, fun _ _ => trivial⟩) (fun a hI => ?_)
  · show (qo_5_step k s sg bg NA NU ME BA ct lw hg NU (NU.length : Int) (i : Int)).val = _
    unfold qo_5_step qo_f5
    skip
    refine Tr.t (by simp; omega) ?_
    exact (Tr.t (by first | omega | (constructor <;> omega) | (simp only [decide_eq_true_eq] at *; rw [wrap64 (by omega) (by omega)]; constructor <;> omega)) (Tr.bh (fun _ => rfl) (fun _ => (Tr.bh (fun _ => (Tr.t (by first | omega | (constructor <;> omega) | (simp only [decide_eq_true_eq] at *; rw [wrap64 (by omega) (by omega)]; constructor <;> omega)) (Tr.bh (fun _ => rfl) (fun _ => (by rw [Tr.val_ok, wrap64 (i := (i : Int) + 1) (by omega) (by omega)]; rfl))))) (fun _ => (by rw [Tr.val_ok, wrap64 (i := (i : Int) + 1) (by omega) (by omega)]; rfl))))))
  · show (qo_5_step k s sg bg NA NU ME BA ct lw hg NU (NU.length : Int) (NU.length : Int)).val = _
    refine Tr.n (by first | (simp; done) | (simp; omega) | omega) ?_
    rfl
theorem qo_is5 : LoopIs tab FT D48 live 106 qo_lo 0 5 := by
  refine loop_told (sl := qo_5_sl) (step := qo_5_st) (out := qo_5_out) (lor := qo_lo5) (fin := fun x => (qo_5_fin (x.1) (x.2.1) (x.2.2.1) (x.2.2.2.1) (x.2.2.2.2.1) (x.2.2.2.2.2.1) (x.2.2.2.2.2.2.1) (x.2.2.2.2.2.2.2.1) (x.2.2.2.2.2.2.2.2.1) (x.2.2.2.2.2.2.2.2.2.1) (x.2.2.2.2.2.2.2.2.2.2.1) (x.2.2.2.2.2.2.2.2.2.2.2.1) (x.2.2.2.2.2.2.2.2.2.2.2.2.1) (x.2.2.2.2.2.2.2.2.2.2.2.2.2))) (fun _ => rfl) ?_ (fun x n => qo_5_r x.1 x.2.1 x.2.2.1 x.2.2.2.1 x.2.2.2.2.1 x.2.2.2.2.2.1 x.2.2.2.2.2.2.1 x.2.2.2.2.2.2.2.1 x.2.2.2.2.2.2.2.2.1 x.2.2.2.2.2.2.2.2.2.1 x.2.2.2.2.2.2.2.2.2.2.1 x.2.2.2.2.2.2.2.2.2.2.2.1 x.2.2.2.2.2.2.2.2.2.2.2.2.1 x.2.2.2.2.2.2.2.2.2.2.2.2.2 n) (fun x ow => qo_5_h x.1 x.2.1 x.2.2.1 x.2.2.2.1 x.2.2.2.2.1 x.2.2.2.2.2.1 x.2.2.2.2.2.2.1 x.2.2.2.2.2.2.2.1 x.2.2.2.2.2.2.2.2.1 x.2.2.2.2.2.2.2.2.2.1 x.2.2.2.2.2.2.2.2.2.2.1 x.2.2.2.2.2.2.2.2.2.2.2.1 x.2.2.2.2.2.2.2.2.2.2.2.2.1 x.2.2.2.2.2.2.2.2.2.2.2.2.2 ow)
  intro s t h
  unfold qo_lo5 at h
  split at h
  · cases h; exact ⟨(_, _, _, _, _, _, _, _, _, _, _, _, _, _), rfl, rfl⟩
  · cases h
noncomputable def qo_t (k s : Int) (sg bg : Bool) (NA NU ME BA : LL) (ct : Int) : Tr (Bool) := (.ite ((!((BA.length : Int) == (1 : Int))) = true) (.ok false)
  (.ite ((0 : Int) ≤ (0 : Int) ∧ (0 : Int) < (BA.length : Int)) (.ite ((!((nth (row BA (0 : Int)) 0).int == (1 : Int))) = true) (.ok false)
    (.ite ((0 : Int) ≤ (0 : Int) ∧ (0 : Int) < (BA.length : Int)) (.ite ((qx_rc ((nth (row BA (0 : Int)) 0).int) ((nth (row BA (0 : Int)) 1).int) ((nth (row BA (0 : Int)) 2).bool) ((nth (row BA (0 : Int)) 3).bool) ((nth (row BA (0 : Int)) 4).list) ((nth (row BA (0 : Int)) 5).list) ((nth (row BA (0 : Int)) 6).list) ((nth (row BA (0 : Int)) 7).list) ((nth (row BA (0 : Int)) 8).int) (1 : Int)) = true) (.ite ((!(qx_rv ((nth (row BA (0 : Int)) 0).int) ((nth (row BA (0 : Int)) 1).int) ((nth (row BA (0 : Int)) 2).bool) ((nth (row BA (0 : Int)) 3).bool) ((nth (row BA (0 : Int)) 4).list) ((nth (row BA (0 : Int)) 5).list) ((nth (row BA (0 : Int)) 6).list) ((nth (row BA (0 : Int)) 7).list) ((nth (row BA (0 : Int)) 8).int) (1 : Int))) = true) (.ok false)
       (.ite ((0 : Int) ≤ (0 : Int) ∧ (0 : Int) < (BA.length : Int)) (.ite ((qbw_c ((nth (row BA (0 : Int)) 0).int) ((nth (row BA (0 : Int)) 1).int) ((nth (row BA (0 : Int)) 2).bool) ((nth (row BA (0 : Int)) 3).bool) ((nth (row BA (0 : Int)) 4).list) ((nth (row BA (0 : Int)) 5).list) ((nth (row BA (0 : Int)) 6).list) ((nth (row BA (0 : Int)) 7).list) ((nth (row BA (0 : Int)) 8).int)) = true) (.ite ((qo_k5_1 k s sg bg NA NU ME BA ct ((qbw_v ((nth (row BA (0 : Int)) 0).int) ((nth (row BA (0 : Int)) 1).int) ((nth (row BA (0 : Int)) 2).bool) ((nth (row BA (0 : Int)) 3).bool) ((nth (row BA (0 : Int)) 4).list) ((nth (row BA (0 : Int)) 5).list) ((nth (row BA (0 : Int)) 6).list) ((nth (row BA (0 : Int)) 7).list) ((nth (row BA (0 : Int)) 8).int)).1) ((qbw_v ((nth (row BA (0 : Int)) 0).int) ((nth (row BA (0 : Int)) 1).int) ((nth (row BA (0 : Int)) 2).bool) ((nth (row BA (0 : Int)) 3).bool) ((nth (row BA (0 : Int)) 4).list) ((nth (row BA (0 : Int)) 5).list) ((nth (row BA (0 : Int)) 6).list) ((nth (row BA (0 : Int)) 7).list) ((nth (row BA (0 : Int)) 8).int)).2) NU (NU.length : Int) (0 : Int)) = true) (.ite ((qo_o5_2 k s sg bg NA NU ME BA ct ((qbw_v ((nth (row BA (0 : Int)) 0).int) ((nth (row BA (0 : Int)) 1).int) ((nth (row BA (0 : Int)) 2).bool) ((nth (row BA (0 : Int)) 3).bool) ((nth (row BA (0 : Int)) 4).list) ((nth (row BA (0 : Int)) 5).list) ((nth (row BA (0 : Int)) 6).list) ((nth (row BA (0 : Int)) 7).list) ((nth (row BA (0 : Int)) 8).int)).1) ((qbw_v ((nth (row BA (0 : Int)) 0).int) ((nth (row BA (0 : Int)) 1).int) ((nth (row BA (0 : Int)) 2).bool) ((nth (row BA (0 : Int)) 3).bool) ((nth (row BA (0 : Int)) 4).list) ((nth (row BA (0 : Int)) 5).list) ((nth (row BA (0 : Int)) 6).list) ((nth (row BA (0 : Int)) 7).list) ((nth (row BA (0 : Int)) 8).int)).2) NU (NU.length : Int) (0 : Int)) = true) (.ok false)
           .no)
          (.ite ((qo_o5_3 k s sg bg NA NU ME BA ct ((qbw_v ((nth (row BA (0 : Int)) 0).int) ((nth (row BA (0 : Int)) 1).int) ((nth (row BA (0 : Int)) 2).bool) ((nth (row BA (0 : Int)) 3).bool) ((nth (row BA (0 : Int)) 4).list) ((nth (row BA (0 : Int)) 5).list) ((nth (row BA (0 : Int)) 6).list) ((nth (row BA (0 : Int)) 7).list) ((nth (row BA (0 : Int)) 8).int)).1) ((qbw_v ((nth (row BA (0 : Int)) 0).int) ((nth (row BA (0 : Int)) 1).int) ((nth (row BA (0 : Int)) 2).bool) ((nth (row BA (0 : Int)) 3).bool) ((nth (row BA (0 : Int)) 4).list) ((nth (row BA (0 : Int)) 5).list) ((nth (row BA (0 : Int)) 6).list) ((nth (row BA (0 : Int)) 7).list) ((nth (row BA (0 : Int)) 8).int)).2) NU (NU.length : Int) (0 : Int)) = true) (.ite ((qcj_v (NU.length : Int) (1 : Int) (6 : Int)) = true) (.ite (((NA.length : Int) == (NU.length : Int)) = true) (.ite ((qj_c NA) = true) (.ok (qj_v NA))
              .no)
             (.ok false))
            (.ok false))
           .no))
         .no)
        .no))
      .no)
     .no))
   .no))
def qo_mk (p : Bool) : Res := [(false, [⟨.bool, .sh, TC.b p⟩])]
noncomputable def qo_c (k s : Int) (sg bg : Bool) (NA NU ME BA : LL) (ct : Int) : Bool := (bif (!((BA.length : Int) == (1 : Int))) then true else (is ((0 : Int) ≤ (0 : Int) ∧ (0 : Int) < (BA.length : Int)) && (bif (!((nth (row BA (0 : Int)) 0).int == (1 : Int))) then true else (is ((0 : Int) ≤ (0 : Int) ∧ (0 : Int) < (BA.length : Int)) && ((qx_rc ((nth (row BA (0 : Int)) 0).int) ((nth (row BA (0 : Int)) 1).int) ((nth (row BA (0 : Int)) 2).bool) ((nth (row BA (0 : Int)) 3).bool) ((nth (row BA (0 : Int)) 4).list) ((nth (row BA (0 : Int)) 5).list) ((nth (row BA (0 : Int)) 6).list) ((nth (row BA (0 : Int)) 7).list) ((nth (row BA (0 : Int)) 8).int) (1 : Int)) && (bif (!(qx_rv ((nth (row BA (0 : Int)) 0).int) ((nth (row BA (0 : Int)) 1).int) ((nth (row BA (0 : Int)) 2).bool) ((nth (row BA (0 : Int)) 3).bool) ((nth (row BA (0 : Int)) 4).list) ((nth (row BA (0 : Int)) 5).list) ((nth (row BA (0 : Int)) 6).list) ((nth (row BA (0 : Int)) 7).list) ((nth (row BA (0 : Int)) 8).int) (1 : Int))) then true else (is ((0 : Int) ≤ (0 : Int) ∧ (0 : Int) < (BA.length : Int)) && ((qbw_c ((nth (row BA (0 : Int)) 0).int) ((nth (row BA (0 : Int)) 1).int) ((nth (row BA (0 : Int)) 2).bool) ((nth (row BA (0 : Int)) 3).bool) ((nth (row BA (0 : Int)) 4).list) ((nth (row BA (0 : Int)) 5).list) ((nth (row BA (0 : Int)) 6).list) ((nth (row BA (0 : Int)) 7).list) ((nth (row BA (0 : Int)) 8).int)) && (bif (qo_k5_1 k s sg bg NA NU ME BA ct ((qbw_v ((nth (row BA (0 : Int)) 0).int) ((nth (row BA (0 : Int)) 1).int) ((nth (row BA (0 : Int)) 2).bool) ((nth (row BA (0 : Int)) 3).bool) ((nth (row BA (0 : Int)) 4).list) ((nth (row BA (0 : Int)) 5).list) ((nth (row BA (0 : Int)) 6).list) ((nth (row BA (0 : Int)) 7).list) ((nth (row BA (0 : Int)) 8).int)).1) ((qbw_v ((nth (row BA (0 : Int)) 0).int) ((nth (row BA (0 : Int)) 1).int) ((nth (row BA (0 : Int)) 2).bool) ((nth (row BA (0 : Int)) 3).bool) ((nth (row BA (0 : Int)) 4).list) ((nth (row BA (0 : Int)) 5).list) ((nth (row BA (0 : Int)) 6).list) ((nth (row BA (0 : Int)) 7).list) ((nth (row BA (0 : Int)) 8).int)).2) NU (NU.length : Int) (0 : Int)) then ((qo_o5_2 k s sg bg NA NU ME BA ct ((qbw_v ((nth (row BA (0 : Int)) 0).int) ((nth (row BA (0 : Int)) 1).int) ((nth (row BA (0 : Int)) 2).bool) ((nth (row BA (0 : Int)) 3).bool) ((nth (row BA (0 : Int)) 4).list) ((nth (row BA (0 : Int)) 5).list) ((nth (row BA (0 : Int)) 6).list) ((nth (row BA (0 : Int)) 7).list) ((nth (row BA (0 : Int)) 8).int)).1) ((qbw_v ((nth (row BA (0 : Int)) 0).int) ((nth (row BA (0 : Int)) 1).int) ((nth (row BA (0 : Int)) 2).bool) ((nth (row BA (0 : Int)) 3).bool) ((nth (row BA (0 : Int)) 4).list) ((nth (row BA (0 : Int)) 5).list) ((nth (row BA (0 : Int)) 6).list) ((nth (row BA (0 : Int)) 7).list) ((nth (row BA (0 : Int)) 8).int)).2) NU (NU.length : Int) (0 : Int)) && true) else ((qo_o5_3 k s sg bg NA NU ME BA ct ((qbw_v ((nth (row BA (0 : Int)) 0).int) ((nth (row BA (0 : Int)) 1).int) ((nth (row BA (0 : Int)) 2).bool) ((nth (row BA (0 : Int)) 3).bool) ((nth (row BA (0 : Int)) 4).list) ((nth (row BA (0 : Int)) 5).list) ((nth (row BA (0 : Int)) 6).list) ((nth (row BA (0 : Int)) 7).list) ((nth (row BA (0 : Int)) 8).int)).1) ((qbw_v ((nth (row BA (0 : Int)) 0).int) ((nth (row BA (0 : Int)) 1).int) ((nth (row BA (0 : Int)) 2).bool) ((nth (row BA (0 : Int)) 3).bool) ((nth (row BA (0 : Int)) 4).list) ((nth (row BA (0 : Int)) 5).list) ((nth (row BA (0 : Int)) 6).list) ((nth (row BA (0 : Int)) 7).list) ((nth (row BA (0 : Int)) 8).int)).2) NU (NU.length : Int) (0 : Int)) && (bif (qcj_v (NU.length : Int) (1 : Int) (6 : Int)) then (bif ((NA.length : Int) == (NU.length : Int)) then ((qj_c NA) && true) else true) else true)))))))))))
noncomputable def qo_v (k s : Int) (sg bg : Bool) (NA NU ME BA : LL) (ct : Int) : Bool := (bif (!((BA.length : Int) == (1 : Int))) then false else (bif (!((nth (row BA (0 : Int)) 0).int == (1 : Int))) then false else (bif (!(qx_rv ((nth (row BA (0 : Int)) 0).int) ((nth (row BA (0 : Int)) 1).int) ((nth (row BA (0 : Int)) 2).bool) ((nth (row BA (0 : Int)) 3).bool) ((nth (row BA (0 : Int)) 4).list) ((nth (row BA (0 : Int)) 5).list) ((nth (row BA (0 : Int)) 6).list) ((nth (row BA (0 : Int)) 7).list) ((nth (row BA (0 : Int)) 8).int) (1 : Int))) then false else (bif (qo_k5_1 k s sg bg NA NU ME BA ct ((qbw_v ((nth (row BA (0 : Int)) 0).int) ((nth (row BA (0 : Int)) 1).int) ((nth (row BA (0 : Int)) 2).bool) ((nth (row BA (0 : Int)) 3).bool) ((nth (row BA (0 : Int)) 4).list) ((nth (row BA (0 : Int)) 5).list) ((nth (row BA (0 : Int)) 6).list) ((nth (row BA (0 : Int)) 7).list) ((nth (row BA (0 : Int)) 8).int)).1) ((qbw_v ((nth (row BA (0 : Int)) 0).int) ((nth (row BA (0 : Int)) 1).int) ((nth (row BA (0 : Int)) 2).bool) ((nth (row BA (0 : Int)) 3).bool) ((nth (row BA (0 : Int)) 4).list) ((nth (row BA (0 : Int)) 5).list) ((nth (row BA (0 : Int)) 6).list) ((nth (row BA (0 : Int)) 7).list) ((nth (row BA (0 : Int)) 8).int)).2) NU (NU.length : Int) (0 : Int)) then false else (bif (qcj_v (NU.length : Int) (1 : Int) (6 : Int)) then (bif ((NA.length : Int) == (NU.length : Int)) then (qj_v NA) else false) else false)))))
theorem qo_l (k s : Int) (sg bg : Bool) (NA NU ME BA : LL) (ct : Int) : (qo_c k s sg bg NA NU ME BA ct) = true → (qo_t k s sg bg NA NU ME BA ct).val = some (qo_v k s sg bg NA NU ME BA ct) := by
  unfold qo_t qo_v qo_c
  exact fun h => (Tr.ss h (fun h => rfl) (fun h => (Tr.gs h fun h => (Tr.ss h (fun h => rfl) (fun h => (Tr.gs h fun h => (Tr.gb h fun h => (Tr.ss h (fun h => rfl) (fun h => (Tr.gs h fun h => (Tr.gb h fun h => (Tr.ss h (fun h => (Tr.gb h fun h => rfl)) (fun h => (Tr.gb h fun h => (Tr.ss h (fun h => (Tr.ss h (fun h => (Tr.gb h fun h => rfl)) (fun h => rfl))) (fun h => rfl))))))))))))))))
noncomputable def qo_S : List Arg → Option (Bool × Res) := fun xs => match xs with
  | [(true, [(.int .i64, TC.i k), (.int .i64, TC.i s), (.bool, TC.b sg), (.bool, TC.b bg), (.slice 9, TC.l NA), (.slice 2, TC.l NU), (.slice 71, TC.l ME), (.slice 32, TC.l BA), (.int .i64, TC.i ct)])] => some ((qo_c k s sg bg NA NU ME BA ct), qo_mk (qo_v k s sg bg NA NU ME BA ct))
  | _ => .none
theorem qo_e (k s : Int) (sg bg : Bool) (NA NU ME BA : LL) (ct : Int) : runF tab FT D48 live 106 qo_lo [(true, [(.int .i64, TC.i k), (.int .i64, TC.i s), (.bool, TC.b sg), (.bool, TC.b bg), (.slice 9, TC.l NA), (.slice 2, TC.l NU), (.slice 71, TC.l ME), (.slice 32, TC.l BA), (.int .i64, TC.i ct)])] = (qo_t k s sg bg NA NU ME BA ct).run fun p => some (qo_mk p) := by kernel_rfl
theorem qo_s : ∀ xs r, qo_S xs = some (true, r) → runF tab FT D48 live 106 qo_lo xs = some r := by
  intro xs r h
  unfold qo_S at h
  split at h
  · simp only [Option.some.injEq, Prod.mk.injEq] at h
    obtain ⟨h1, rfl⟩ := h
    exact fun_told (qo_e _ _ _ _ _ _ _ _ _) (qo_l _ _ _ _ _ _ _ _ _) h1
  · cases h
noncomputable def D49 : Dt := also D48 106 qo_S
theorem d49 : DOk Go.Proofs.Try.prog tab D49 := d48.also mixed_ok tab_ok names_ok (fnLoops_one (by kernel_rfl) qo_is5) qo_s
theorem int_of_valid {k s : Int} {sg bg : Bool} {NA NU ME BA : LL} {ct : Int} (hk : k = 1) (h : qx_rv k s sg bg NA NU ME BA ct 1 = true) : intV s sg bg NA NU ME BA ct = true := by
  subst hk
  have h : (okV 1 s sg bg NA NU ME BA ct && decide (depthV 1 ME BA ≤ 1)) = true := h
  rw [okV_1] at h
  simp only [Bool.and_eq_true] at h
  exact h.1.1
theorem qo_cc {k : Int} {s : Int} {sg : Bool} {bg : Bool} {NA : LL} {NU : LL} {ME : LL} {BA : LL} {ct : Int} (hb : 0 < BA.length → qx_rc (nth (row BA (0 : Int)) 0).int (nth (row BA (0 : Int)) 1).int (nth (row BA (0 : Int)) 2).bool (nth (row BA (0 : Int)) 3).bool (nth (row BA (0 : Int)) 4).list (nth (row BA (0 : Int)) 5).list (nth (row BA (0 : Int)) 6).list (nth (row BA (0 : Int)) 7).list (nth (row BA (0 : Int)) 8).int 1 = true) (t4 : Typed tab (.slice 9) (.l NA)) (hl : NU.length ≤ 140737488351232) : (qo_c k s sg bg NA NU ME BA ct) = true := by
  unfold qo_c
  refine bifT (fun b1 => ?_) (fun b1 => ?_)
  · skip
    rfl
  · skip
    refine andT (is_true (by have e1 := bneF b1; omega)) ?_
    refine bifT (fun b2 => ?_) (fun b2 => ?_)
    · skip
      rfl
    · skip
      refine andT (is_true (by have e1 := bneF b1; omega)) ?_
      refine andT (by have e1 := bneF b1; exact hb (by omega)) ?_
      refine bifT (fun b3 => ?_) (fun b3 => ?_)
      · skip
        rfl
      · skip
        refine andT (is_true (by have e1 := bneF b1; omega)) ?_
        refine andT (by have e2 := bneF b2; exact (irange (int_of_valid e2 (by simpa using b3))).1) ?_
        refine bifT (fun b4 => ?_) (fun b4 => ?_)
        · skip
          refine andT (by exact is_true ⟨rfl, rfl, rfl, hl⟩) ?_
          rfl
        · skip
          refine andT (by exact is_true ⟨rfl, rfl, rfl, hl⟩) ?_
          refine bifT (fun b5 => ?_) (fun b5 => ?_)
          · skip
            refine bifT (fun b6 => ?_) (fun b6 => ?_)
            · skip
              refine andT (by exact qj_cc t4) ?_
              rfl
            · skip
              rfl
          · skip
            rfl
theorem qo_vv (k s : Int) (sg bg : Bool) (NA NU ME BA : LL) (ct : Int) : qo_v k s sg bg NA NU ME BA ct = (((BA.length : Int) == 1) && (((nth (row BA (0 : Int)) 0).int == 1) && (validV (nth (row BA (0 : Int)) 0).int (nth (row BA (0 : Int)) 1).int (nth (row BA (0 : Int)) 2).bool (nth (row BA (0 : Int)) 3).bool (nth (row BA (0 : Int)) 4).list (nth (row BA (0 : Int)) 5).list (nth (row BA (0 : Int)) 6).list (nth (row BA (0 : Int)) 7).list (nth (row BA (0 : Int)) 8).int 1 && (allI (fun i : Nat => numP NU (loV (nth (row BA (0 : Int)) 1).int (nth (row BA (0 : Int)) 2).bool) (hiV (nth (row BA (0 : Int)) 1).int (nth (row BA (0 : Int)) 2).bool) (i : Int)) NU.length && (inB (NU.length : Int) 1 6 && (((NA.length : Int) == (NU.length : Int)) && allI (fun i : Nat => dnP NA (i : Int)) NA.length)))))) := by
  unfold qo_v
  rw [show ∀ lw hg m, qo_k5_1 k s sg bg NA NU ME BA ct lw hg NU m 0 = !(allI (fun i : Nat => numP NU lw hg (i : Int)) NU.length) from fun lw hg m => by unfold qo_k5_1; rw [qo_R5_eq]; cases allI (fun i : Nat => numP NU lw hg (i : Int)) NU.length <;> rfl]
  rw [qj_vv, show qcj_v (NU.length : Int) 1 6 = inB (NU.length : Int) 1 6 from rfl, show qx_rv (nth (row BA (0 : Int)) 0).int (nth (row BA (0 : Int)) 1).int (nth (row BA (0 : Int)) 2).bool (nth (row BA (0 : Int)) 3).bool (nth (row BA (0 : Int)) 4).list (nth (row BA (0 : Int)) 5).list (nth (row BA (0 : Int)) 6).list (nth (row BA (0 : Int)) 7).list (nth (row BA (0 : Int)) 8).int 1 = validV (nth (row BA (0 : Int)) 0).int (nth (row BA (0 : Int)) 1).int (nth (row BA (0 : Int)) 2).bool (nth (row BA (0 : Int)) 3).bool (nth (row BA (0 : Int)) 4).list (nth (row BA (0 : Int)) 5).list (nth (row BA (0 : Int)) 6).list (nth (row BA (0 : Int)) 7).list (nth (row BA (0 : Int)) 8).int 1 from rfl]
  simp only [bif_nf, bif_tf, bif_ft, Bool.not_not]
  cases h1 : ((nth (row BA (0 : Int)) 0).int == 1) with
  | false => simp only [Bool.false_and, Bool.and_false]
  | true =>
    cases h2 : validV (nth (row BA (0 : Int)) 0).int (nth (row BA (0 : Int)) 1).int (nth (row BA (0 : Int)) 2).bool (nth (row BA (0 : Int)) 3).bool (nth (row BA (0 : Int)) 4).list (nth (row BA (0 : Int)) 5).list (nth (row BA (0 : Int)) 6).list (nth (row BA (0 : Int)) 7).list (nth (row BA (0 : Int)) 8).int 1 with
    | false => simp only [Bool.false_and, Bool.and_false]
    | true =>
      obtain ⟨-, h3, h4⟩ := irange (k := (nth (row BA (0 : Int)) 0).int) (int_of_valid (beq_iff_eq.1 h1) h2)
      rw [h3, h4]
noncomputable def qe_f6 (d k s : Int) (sg bg : Bool) (NA NU ME BA : LL) (ct : Int) (X : LL) (m i en : Int) (NM : LL) : (Int × LL) ⊕ ((Int × Int × Bool × Bool × LL × LL × LL × LL × Int × Int × LL) ⊕ (Int × Int × Bool × Bool × LL × LL × LL × LL × Int × Int × LL)) := (bif (!(qx_rv ((nth (row X i) 2).int) ((nth (row X i) 3).int) ((nth (row X i) 4).bool) ((nth (row X i) 5).bool) ((nth (row X i) 6).list) ((nth (row X i) 7).list) ((nth (row X i) 8).list) ((nth (row X i) 9).list) ((nth (row X i) 10).int) d)) then (.inr (.inl (k, s, sg, bg, NA, NU, ME, BA, ct, en, NM))) else (bif (decide ((nth (row X i) 1).int < en)) then (.inr (.inl (k, s, sg, bg, NA, NU, ME, BA, ct, en, NM))) else (bif (decide ((nth (row X i) 1).int > (24 : Int))) then (.inr (.inl (k, s, sg, bg, NA, NU, ME, BA, ct, en, NM))) else (.inl ((IntKind.wrap .i64 ((nth (row X i) 1).int + (qbd_rv ((nth (row X i) 2).int) ((nth (row X i) 3).int) ((nth (row X i) 4).bool) ((nth (row X i) 5).bool) ((nth (row X i) 6).list) ((nth (row X i) 7).list) ((nth (row X i) 8).list) ((nth (row X i) 9).list) ((nth (row X i) 10).int)))), (NM ++ [[TC.s ((nth (row X i) 0).str)]]))))))
noncomputable def qe_e6 (d k s : Int) (sg bg : Bool) (NA NU ME BA : LL) (ct : Int) (X : LL) (m en : Int) (NM : LL) : (Int × Int × Bool × Bool × LL × LL × LL × LL × Int × Int × LL) ⊕ (Int × Int × Bool × Bool × LL × LL × LL × LL × Int × Int × LL) := .inr (k, s, sg, bg, NA, NU, ME, BA, ct, en, NM)
noncomputable def qe_R6 (d k s : Int) (sg bg : Bool) (NA NU ME BA : LL) (ct en : Int) (NM X : LL) (m i : Int) : (Int × Int × Bool × Bool × LL × LL × LL × LL × Int × Int × LL) ⊕ (Int × Int × Bool × Bool × LL × LL × LL × LL × Int × Int × LL) := iter (fun i a => (qe_f6 d k s sg bg NA NU ME BA ct X m (i : Int) (a.1) (a.2))) (fun a => (qe_e6 d k s sg bg NA NU ME BA ct X m (a.1) (a.2))) (ME.length) 0 (en, NM)
abbrev qe_6_σ := Int × Int × Int × Bool × Bool × LL × LL × LL × LL × Int × Int × LL × LL × Int × Int
abbrev qe_6_ω := (Int × Int × Bool × Bool × LL × LL × LL × LL × Int × Int × LL) ⊕ (Int × Int × Bool × Bool × LL × LL × LL × LL × Int × Int × LL)
noncomputable def qe_6_step (d k s : Int) (sg bg : Bool) (NA NU ME BA : LL) (ct en : Int) (NM X : LL) (m i : Int) : Tr (qe_6_σ ⊕ qe_6_ω) := (.ite ((decide (i < m)) = true) (.ite ((0 : Int) ≤ i ∧ i < (X.length : Int)) (.ite ((qx_rc ((nth (row X i) 2).int) ((nth (row X i) 3).int) ((nth (row X i) 4).bool) ((nth (row X i) 5).bool) ((nth (row X i) 6).list) ((nth (row X i) 7).list) ((nth (row X i) 8).list) ((nth (row X i) 9).list) ((nth (row X i) 10).int) d) = true) (.ite ((!(qx_rv ((nth (row X i) 2).int) ((nth (row X i) 3).int) ((nth (row X i) 4).bool) ((nth (row X i) 5).bool) ((nth (row X i) 6).list) ((nth (row X i) 7).list) ((nth (row X i) 8).list) ((nth (row X i) 9).list) ((nth (row X i) 10).int) d)) = true) (.ok (.inr (.inl (k, s, sg, bg, NA, NU, ME, BA, ct, en, NM))))
     (.ite ((decide ((nth (row X i) 1).int < en)) = true) (.ok (.inr (.inl (k, s, sg, bg, NA, NU, ME, BA, ct, en, NM))))
      (.ite ((decide ((nth (row X i) 1).int > (24 : Int))) = true) (.ok (.inr (.inl (k, s, sg, bg, NA, NU, ME, BA, ct, en, NM))))
       (.ite ((qbd_rc ((nth (row X i) 2).int) ((nth (row X i) 3).int) ((nth (row X i) 4).bool) ((nth (row X i) 5).bool) ((nth (row X i) 6).list) ((nth (row X i) 7).list) ((nth (row X i) 8).list) ((nth (row X i) 9).list) ((nth (row X i) 10).int)) = true) (.ite (roomFor (tab 9) (NM ++ [[TC.s ((nth (row X i) 0).str)]]).length) (.ok (.inl (d, k, s, sg, bg, NA, NU, ME, BA, ct, (IntKind.wrap .i64 ((nth (row X i) 1).int + (qbd_rv ((nth (row X i) 2).int) ((nth (row X i) 3).int) ((nth (row X i) 4).bool) ((nth (row X i) 5).bool) ((nth (row X i) 6).list) ((nth (row X i) 7).list) ((nth (row X i) 8).list) ((nth (row X i) 9).list) ((nth (row X i) 10).int)))), (NM ++ [[TC.s ((nth (row X i) 0).str)]]), X, m, (IntKind.wrap .i64 (i + (1 : Int))))))
         .no)
        .no))))
    .no)
   .no)
  (.ok (.inr (.inr (k, s, sg, bg, NA, NU, ME, BA, ct, en, NM)))))
noncomputable def qe_6_st : qe_6_σ → Tr (qe_6_σ ⊕ qe_6_ω) := fun x => (qe_6_step (x.1) (x.2.1) (x.2.2.1) (x.2.2.2.1) (x.2.2.2.2.1) (x.2.2.2.2.2.1) (x.2.2.2.2.2.2.1) (x.2.2.2.2.2.2.2.1) (x.2.2.2.2.2.2.2.2.1) (x.2.2.2.2.2.2.2.2.2.1) (x.2.2.2.2.2.2.2.2.2.2.1) (x.2.2.2.2.2.2.2.2.2.2.2.1) (x.2.2.2.2.2.2.2.2.2.2.2.2.1) (x.2.2.2.2.2.2.2.2.2.2.2.2.2.1) (x.2.2.2.2.2.2.2.2.2.2.2.2.2.2))
noncomputable def qe_k6_1 (d k s : Int) (sg bg : Bool) (NA NU ME BA : LL) (ct en : Int) (NM X : LL) (m i : Int) : Bool := sumIs (qe_R6 d k s sg bg NA NU ME BA ct en NM X m i)
noncomputable def qe_o6_2 (d k s : Int) (sg bg : Bool) (NA NU ME BA : LL) (ct en : Int) (NM X : LL) (m i : Int) : Bool := is (i = 0 ∧ ME = X ∧ m = (ME.length : Int) ∧ en = 0 ∧ NM = [] ∧ Typed tab (.slice 71) (.l ME) ∧ (∀ x : List TC, x ∈ ME → qx_rc (nth x 2).int (nth x 3).int (nth x 4).bool (nth x 5).bool (nth x 6).list (nth x 7).list (nth x 8).list (nth x 9).list (nth x 10).int d = true) ∧ (∀ x : List TC, x ∈ ME → (!(qx_rv (nth x 2).int (nth x 3).int (nth x 4).bool (nth x 5).bool (nth x 6).list (nth x 7).list (nth x 8).list (nth x 9).list (nth x 10).int d)) = false → qbd_rc (nth x 2).int (nth x 3).int (nth x 4).bool (nth x 5).bool (nth x 6).list (nth x 7).list (nth x 8).list (nth x 9).list (nth x 10).int = true))
noncomputable def qe_u6_2_0 (d k s : Int) (sg bg : Bool) (NA NU ME BA : LL) (ct en : Int) (NM X : LL) (m i : Int) : Int := (sumL (qe_R6 d k s sg bg NA NU ME BA ct en NM X m i)).1
noncomputable def qe_u6_2_1 (d k s : Int) (sg bg : Bool) (NA NU ME BA : LL) (ct en : Int) (NM X : LL) (m i : Int) : Int := (sumL (qe_R6 d k s sg bg NA NU ME BA ct en NM X m i)).2.1
noncomputable def qe_u6_2_2 (d k s : Int) (sg bg : Bool) (NA NU ME BA : LL) (ct en : Int) (NM X : LL) (m i : Int) : Bool := (sumL (qe_R6 d k s sg bg NA NU ME BA ct en NM X m i)).2.2.1
noncomputable def qe_u6_2_3 (d k s : Int) (sg bg : Bool) (NA NU ME BA : LL) (ct en : Int) (NM X : LL) (m i : Int) : Bool := (sumL (qe_R6 d k s sg bg NA NU ME BA ct en NM X m i)).2.2.2.1
noncomputable def qe_u6_2_4 (d k s : Int) (sg bg : Bool) (NA NU ME BA : LL) (ct en : Int) (NM X : LL) (m i : Int) : LL := (sumL (qe_R6 d k s sg bg NA NU ME BA ct en NM X m i)).2.2.2.2.1
noncomputable def qe_u6_2_5 (d k s : Int) (sg bg : Bool) (NA NU ME BA : LL) (ct en : Int) (NM X : LL) (m i : Int) : LL := (sumL (qe_R6 d k s sg bg NA NU ME BA ct en NM X m i)).2.2.2.2.2.1
noncomputable def qe_u6_2_6 (d k s : Int) (sg bg : Bool) (NA NU ME BA : LL) (ct en : Int) (NM X : LL) (m i : Int) : LL := (sumL (qe_R6 d k s sg bg NA NU ME BA ct en NM X m i)).2.2.2.2.2.2.1
noncomputable def qe_u6_2_7 (d k s : Int) (sg bg : Bool) (NA NU ME BA : LL) (ct en : Int) (NM X : LL) (m i : Int) : LL := (sumL (qe_R6 d k s sg bg NA NU ME BA ct en NM X m i)).2.2.2.2.2.2.2.1
noncomputable def qe_u6_2_8 (d k s : Int) (sg bg : Bool) (NA NU ME BA : LL) (ct en : Int) (NM X : LL) (m i : Int) : Int := (sumL (qe_R6 d k s sg bg NA NU ME BA ct en NM X m i)).2.2.2.2.2.2.2.2.1
noncomputable def qe_u6_2_9 (d k s : Int) (sg bg : Bool) (NA NU ME BA : LL) (ct en : Int) (NM X : LL) (m i : Int) : Int := (sumL (qe_R6 d k s sg bg NA NU ME BA ct en NM X m i)).2.2.2.2.2.2.2.2.2.1
noncomputable def qe_u6_2_10 (d k s : Int) (sg bg : Bool) (NA NU ME BA : LL) (ct en : Int) (NM X : LL) (m i : Int) : LL := (sumL (qe_R6 d k s sg bg NA NU ME BA ct en NM X m i)).2.2.2.2.2.2.2.2.2.2
noncomputable def qe_o6_3 (d k s : Int) (sg bg : Bool) (NA NU ME BA : LL) (ct en : Int) (NM X : LL) (m i : Int) : Bool := is (i = 0 ∧ ME = X ∧ m = (ME.length : Int) ∧ en = 0 ∧ NM = [] ∧ Typed tab (.slice 71) (.l ME) ∧ (∀ x : List TC, x ∈ ME → qx_rc (nth x 2).int (nth x 3).int (nth x 4).bool (nth x 5).bool (nth x 6).list (nth x 7).list (nth x 8).list (nth x 9).list (nth x 10).int d = true) ∧ (∀ x : List TC, x ∈ ME → (!(qx_rv (nth x 2).int (nth x 3).int (nth x 4).bool (nth x 5).bool (nth x 6).list (nth x 7).list (nth x 8).list (nth x 9).list (nth x 10).int d)) = false → qbd_rc (nth x 2).int (nth x 3).int (nth x 4).bool (nth x 5).bool (nth x 6).list (nth x 7).list (nth x 8).list (nth x 9).list (nth x 10).int = true))
noncomputable def qe_u6_3_0 (d k s : Int) (sg bg : Bool) (NA NU ME BA : LL) (ct en : Int) (NM X : LL) (m i : Int) : Int := (sumR (qe_R6 d k s sg bg NA NU ME BA ct en NM X m i)).1
noncomputable def qe_u6_3_1 (d k s : Int) (sg bg : Bool) (NA NU ME BA : LL) (ct en : Int) (NM X : LL) (m i : Int) : Int := (sumR (qe_R6 d k s sg bg NA NU ME BA ct en NM X m i)).2.1
noncomputable def qe_u6_3_2 (d k s : Int) (sg bg : Bool) (NA NU ME BA : LL) (ct en : Int) (NM X : LL) (m i : Int) : Bool := (sumR (qe_R6 d k s sg bg NA NU ME BA ct en NM X m i)).2.2.1
noncomputable def qe_u6_3_3 (d k s : Int) (sg bg : Bool) (NA NU ME BA : LL) (ct en : Int) (NM X : LL) (m i : Int) : Bool := (sumR (qe_R6 d k s sg bg NA NU ME BA ct en NM X m i)).2.2.2.1
noncomputable def qe_u6_3_4 (d k s : Int) (sg bg : Bool) (NA NU ME BA : LL) (ct en : Int) (NM X : LL) (m i : Int) : LL := (sumR (qe_R6 d k s sg bg NA NU ME BA ct en NM X m i)).2.2.2.2.1
noncomputable def qe_u6_3_5 (d k s : Int) (sg bg : Bool) (NA NU ME BA : LL) (ct en : Int) (NM X : LL) (m i : Int) : LL := (sumR (qe_R6 d k s sg bg NA NU ME BA ct en NM X m i)).2.2.2.2.2.1
noncomputable def qe_u6_3_6 (d k s : Int) (sg bg : Bool) (NA NU ME BA : LL) (ct en : Int) (NM X : LL) (m i : Int) : LL := (sumR (qe_R6 d k s sg bg NA NU ME BA ct en NM X m i)).2.2.2.2.2.2.1
noncomputable def qe_u6_3_7 (d k s : Int) (sg bg : Bool) (NA NU ME BA : LL) (ct en : Int) (NM X : LL) (m i : Int) : LL := (sumR (qe_R6 d k s sg bg NA NU ME BA ct en NM X m i)).2.2.2.2.2.2.2.1
noncomputable def qe_u6_3_8 (d k s : Int) (sg bg : Bool) (NA NU ME BA : LL) (ct en : Int) (NM X : LL) (m i : Int) : Int := (sumR (qe_R6 d k s sg bg NA NU ME BA ct en NM X m i)).2.2.2.2.2.2.2.2.1
noncomputable def qe_u6_3_9 (d k s : Int) (sg bg : Bool) (NA NU ME BA : LL) (ct en : Int) (NM X : LL) (m i : Int) : Int := (sumR (qe_R6 d k s sg bg NA NU ME BA ct en NM X m i)).2.2.2.2.2.2.2.2.2.1
noncomputable def qe_u6_3_10 (d k s : Int) (sg bg : Bool) (NA NU ME BA : LL) (ct en : Int) (NM X : LL) (m i : Int) : LL := (sumR (qe_R6 d k s sg bg NA NU ME BA ct en NM X m i)).2.2.2.2.2.2.2.2.2.2
noncomputable def qe_6_fin (d k s : Int) (sg bg : Bool) (NA NU ME BA : LL) (ct en : Int) (NM X : LL) (m i : Int) : Told qe_6_ω := (.br (qe_k6_1 d k s sg bg NA NU ME BA ct en NM X m i) (.leaf (qe_o6_2 d k s sg bg NA NU ME BA ct en NM X m i) (.inl ((qe_u6_2_0 d k s sg bg NA NU ME BA ct en NM X m i), (qe_u6_2_1 d k s sg bg NA NU ME BA ct en NM X m i), (qe_u6_2_2 d k s sg bg NA NU ME BA ct en NM X m i), (qe_u6_2_3 d k s sg bg NA NU ME BA ct en NM X m i), (qe_u6_2_4 d k s sg bg NA NU ME BA ct en NM X m i), (qe_u6_2_5 d k s sg bg NA NU ME BA ct en NM X m i), (qe_u6_2_6 d k s sg bg NA NU ME BA ct en NM X m i), (qe_u6_2_7 d k s sg bg NA NU ME BA ct en NM X m i), (qe_u6_2_8 d k s sg bg NA NU ME BA ct en NM X m i), (qe_u6_2_9 d k s sg bg NA NU ME BA ct en NM X m i), (qe_u6_2_10 d k s sg bg NA NU ME BA ct en NM X m i)))) (.leaf (qe_o6_3 d k s sg bg NA NU ME BA ct en NM X m i) (.inr ((qe_u6_3_0 d k s sg bg NA NU ME BA ct en NM X m i), (qe_u6_3_1 d k s sg bg NA NU ME BA ct en NM X m i), (qe_u6_3_2 d k s sg bg NA NU ME BA ct en NM X m i), (qe_u6_3_3 d k s sg bg NA NU ME BA ct en NM X m i), (qe_u6_3_4 d k s sg bg NA NU ME BA ct en NM X m i), (qe_u6_3_5 d k s sg bg NA NU ME BA ct en NM X m i), (qe_u6_3_6 d k s sg bg NA NU ME BA ct en NM X m i), (qe_u6_3_7 d k s sg bg NA NU ME BA ct en NM X m i), (qe_u6_3_8 d k s sg bg NA NU ME BA ct en NM X m i), (qe_u6_3_9 d k s sg bg NA NU ME BA ct en NM X m i), (qe_u6_3_10 d k s sg bg NA NU ME BA ct en NM X m i)))))
def qe_6_sl (x : qe_6_σ) : List Slot := [⟨.val false [⟨.int .i64, .sh, TC.i (x.1)⟩], ⟨0, 0⟩⟩, ⟨.bx 32 [⟨.int .i64, .sh, TC.i (x.2.1)⟩, ⟨.int .i64, .sh, TC.i (x.2.2.1)⟩, ⟨.bool, .sh, TC.b (x.2.2.2.1)⟩, ⟨.bool, .sh, TC.b (x.2.2.2.2.1)⟩, ⟨.slice 9, .sh, TC.l (x.2.2.2.2.2.1)⟩, ⟨.slice 2, .sh, TC.l (x.2.2.2.2.2.2.1)⟩, ⟨.slice 71, .sh, TC.l (x.2.2.2.2.2.2.2.1)⟩, ⟨.slice 32, .sh, TC.l (x.2.2.2.2.2.2.2.2.1)⟩, ⟨.int .i64, .sh, TC.i (x.2.2.2.2.2.2.2.2.2.1)⟩], ⟨0, 0⟩⟩, ⟨.val false [⟨.int .i64, .sh, TC.i (x.2.2.2.2.2.2.2.2.2.2.1)⟩], ⟨0, 0⟩⟩, ⟨.val false [⟨.slice 9, .own true, TC.l (x.2.2.2.2.2.2.2.2.2.2.2.1)⟩], ⟨0, 0⟩⟩, ⟨.val false [⟨.slice 71, .sh, TC.l (x.2.2.2.2.2.2.2.2.2.2.2.2.1)⟩], ⟨0, 0⟩⟩, ⟨.val false [⟨.int .i64, .sh, TC.i (x.2.2.2.2.2.2.2.2.2.2.2.2.2.1)⟩], ⟨0, 0⟩⟩, ⟨.val false [⟨.int .i64, .sh, TC.i (x.2.2.2.2.2.2.2.2.2.2.2.2.2.2)⟩], ⟨0, 0⟩⟩]
def qe_6_out : qe_6_ω → Ex × List Slot := (Sum.elim (fun x => (.ret, [⟨.bx 32 [⟨.int .i64, .sh, TC.i (x.1)⟩, ⟨.int .i64, .sh, TC.i (x.2.1)⟩, ⟨.bool, .sh, TC.b (x.2.2.1)⟩, ⟨.bool, .sh, TC.b (x.2.2.2.1)⟩, ⟨.slice 9, .sh, TC.l (x.2.2.2.2.1)⟩, ⟨.slice 2, .sh, TC.l (x.2.2.2.2.2.1)⟩, ⟨.slice 71, .sh, TC.l (x.2.2.2.2.2.2.1)⟩, ⟨.slice 32, .sh, TC.l (x.2.2.2.2.2.2.2.1)⟩, ⟨.int .i64, .sh, TC.i (x.2.2.2.2.2.2.2.2.1)⟩], ⟨0, 0⟩⟩, ⟨.val false [⟨.bool, .sh, TC.b false⟩], ⟨0, 0⟩⟩, ⟨.val false [⟨.int .i64, .sh, TC.i (x.2.2.2.2.2.2.2.2.2.1)⟩], ⟨0, 0⟩⟩, ⟨.val false [⟨.slice 9, .own true, TC.l (x.2.2.2.2.2.2.2.2.2.2)⟩], ⟨0, 0⟩⟩])) (fun x => (.exit 0, [⟨.bx 32 [⟨.int .i64, .sh, TC.i (x.1)⟩, ⟨.int .i64, .sh, TC.i (x.2.1)⟩, ⟨.bool, .sh, TC.b (x.2.2.1)⟩, ⟨.bool, .sh, TC.b (x.2.2.2.1)⟩, ⟨.slice 9, .sh, TC.l (x.2.2.2.2.1)⟩, ⟨.slice 2, .sh, TC.l (x.2.2.2.2.2.1)⟩, ⟨.slice 71, .sh, TC.l (x.2.2.2.2.2.2.1)⟩, ⟨.slice 32, .sh, TC.l (x.2.2.2.2.2.2.2.1)⟩, ⟨.int .i64, .sh, TC.i (x.2.2.2.2.2.2.2.2.1)⟩], ⟨0, 0⟩⟩, Slot.none, ⟨.val false [⟨.int .i64, .sh, TC.i (x.2.2.2.2.2.2.2.2.2.1)⟩], ⟨0, 0⟩⟩, ⟨.val false [⟨.slice 9, .own true, TC.l (x.2.2.2.2.2.2.2.2.2.2)⟩], ⟨0, 0⟩⟩])))
noncomputable def qe_lo6 : List Slot → Option (Told (Ex × List Slot)) := fun s => match s with
  | [⟨.val false [⟨.int .i64, .sh, TC.i d⟩], ⟨0, 0⟩⟩, ⟨.bx 32 [⟨.int .i64, .sh, TC.i k⟩, ⟨.int .i64, .sh, TC.i s⟩, ⟨.bool, .sh, TC.b sg⟩, ⟨.bool, .sh, TC.b bg⟩, ⟨.slice 9, .sh, TC.l NA⟩, ⟨.slice 2, .sh, TC.l NU⟩, ⟨.slice 71, .sh, TC.l ME⟩, ⟨.slice 32, .sh, TC.l BA⟩, ⟨.int .i64, .sh, TC.i ct⟩], ⟨0, 0⟩⟩, ⟨.val false [⟨.int .i64, .sh, TC.i en⟩], ⟨0, 0⟩⟩, ⟨.val false [⟨.slice 9, .own true, TC.l NM⟩], ⟨0, 0⟩⟩, ⟨.val false [⟨.slice 71, .sh, TC.l X⟩], ⟨0, 0⟩⟩, ⟨.val false [⟨.int .i64, .sh, TC.i m⟩], ⟨0, 0⟩⟩, ⟨.val false [⟨.int .i64, .sh, TC.i i⟩], ⟨0, 0⟩⟩] => some (((qe_6_fin d k s sg bg NA NU ME BA ct en NM X m i)).map qe_6_out)
  | _ => .none
noncomputable def qe_lo : LoopTeller := fun r s => bif Nat.beq r 6 then qe_lo6 s else .none
theorem qe_6_r (d k s : Int) (sg bg : Bool) (NA NU ME BA : LL) (ct en : Int) (NM X : LL) (m i : Int) (fuel : Nat) : rounds (rnd tab FT D49 live 107 qe_lo 0 6) leave (fuel + 1) (qe_6_sl (d, k, s, sg, bg, NA, NU, ME, BA, ct, en, NM, X, m, i)) = ((qe_6_step d k s sg bg NA NU ME BA ct en NM X m i)).run (goOn (fun s => rounds (rnd tab FT D49 live 107 qe_lo 0 6) leave fuel (qe_6_sl s)) fun w => some (qe_6_out w)) := by kernel_rfl
theorem qe_f6_eq (d : Int) (k s : Int) (sg bg : Bool) (NA NU ME BA : LL) (ct : Int) (m i : Int) (e : Int) (NM : LL) : qe_f6 d k s sg bg NA NU ME BA ct ME m i e NM = bif (validV (nth (row ME i) 2).int (nth (row ME i) 3).int (nth (row ME i) 4).bool (nth (row ME i) 5).bool (nth (row ME i) 6).list (nth (row ME i) 7).list (nth (row ME i) 8).list (nth (row ME i) 9).list (nth (row ME i) 10).int d && (!decide ((nth (row ME i) 1).int < e) && !decide ((nth (row ME i) 1).int > 24))) then Sum.inl (IntKind.wrap .i64 ((nth (row ME i) 1).int + isizeV (nth (row ME i) 2).int (nth (row ME i) 3).int (nth (row ME i) 9).list (nth (row ME i) 10).int), NM ++ [[TC.s (nth (row ME i) 0).str]]) else Sum.inr (Sum.inl (k, s, sg, bg, NA, NU, ME, BA, ct, e, NM)) := by
  unfold qe_f6
  rw [show qx_rv (nth (row ME i) 2).int (nth (row ME i) 3).int (nth (row ME i) 4).bool (nth (row ME i) 5).bool (nth (row ME i) 6).list (nth (row ME i) 7).list (nth (row ME i) 8).list (nth (row ME i) 9).list (nth (row ME i) 10).int d = validV (nth (row ME i) 2).int (nth (row ME i) 3).int (nth (row ME i) 4).bool (nth (row ME i) 5).bool (nth (row ME i) 6).list (nth (row ME i) 7).list (nth (row ME i) 8).list (nth (row ME i) 9).list (nth (row ME i) 10).int d from rfl]
  generalize validV (nth (row ME i) 2).int (nth (row ME i) 3).int (nth (row ME i) 4).bool (nth (row ME i) 5).bool (nth (row ME i) 6).list (nth (row ME i) 7).list (nth (row ME i) 8).list (nth (row ME i) 9).list (nth (row ME i) 10).int d = p0, decide ((nth (row ME i) 1).int < e) = p1, decide ((nth (row ME i) 1).int > 24) = p2
  cases p0 <;> cases p1 <;> cases p2 <;> rfl
theorem qe_R6_eq (d : Int) (k s : Int) (sg bg : Bool) (NA NU ME BA : LL) (ct m : Int) : ∃ a : Int × LL, qe_R6 d k s sg bg NA NU ME BA ct 0 [] ME m 0 = bif (allI (memI ME) ME.length && ME.all fun x => validV (nth x 2).int (nth x 3).int (nth x 4).bool (nth x 5).bool (nth x 6).list (nth x 7).list (nth x 8).list (nth x 9).list (nth x 10).int d) then Sum.inr (k, s, sg, bg, NA, NU, ME, BA, ct, endI ME ME.length, nmAt ME ME.length) else Sum.inl (k, s, sg, bg, NA, NU, ME, BA, ct, a.1, a.2) := by
  unfold qe_R6
  obtain ⟨a, ha⟩ := iter_along (f := fun i a => qe_f6 d k s sg bg NA NU ME BA ct ME m (i : Int) a.1 a.2) (fin := fun a => qe_e6 d k s sg bg NA NU ME BA ct ME m a.1 a.2) (P := fun i : Nat => validV (nth (row ME (i : Int)) 2).int (nth (row ME (i : Int)) 3).int (nth (row ME (i : Int)) 4).bool (nth (row ME (i : Int)) 5).bool (nth (row ME (i : Int)) 6).list (nth (row ME (i : Int)) 7).list (nth (row ME (i : Int)) 8).list (nth (row ME (i : Int)) 9).list (nth (row ME (i : Int)) 10).int d && (!decide ((nth (row ME (i : Int)) 1).int < endI ME i) && !decide ((nth (row ME (i : Int)) 1).int > 24))) (A := fun j => (endI ME j, nmAt ME j)) (w := fun a => Sum.inl (k, s, sg, bg, NA, NU, ME, BA, ct, a.1, a.2)) (N := ME.length) (fun j _ => qe_f6_eq d k s sg bg NA NU ME BA ct m (j : Int) (endI ME j) (nmAt ME j))
  refine ⟨a, ha.trans ?_⟩
  rw [show allI (fun i : Nat => validV (nth (row ME (i : Int)) 2).int (nth (row ME (i : Int)) 3).int (nth (row ME (i : Int)) 4).bool (nth (row ME (i : Int)) 5).bool (nth (row ME (i : Int)) 6).list (nth (row ME (i : Int)) 7).list (nth (row ME (i : Int)) 8).list (nth (row ME (i : Int)) 9).list (nth (row ME (i : Int)) 10).int d && (!decide ((nth (row ME (i : Int)) 1).int < endI ME i) && !decide ((nth (row ME (i : Int)) 1).int > 24))) ME.length = (allI (memI ME) ME.length && ME.all fun x => validV (nth x 2).int (nth x 3).int (nth x 4).bool (nth x 5).bool (nth x 6).list (nth x 7).list (nth x 8).list (nth x 9).list (nth x 10).int d) from by
    rw [← allI_rows, Bool.and_comm, ← allI_and]
    rfl]
  rfl
theorem qe_6_h (d k s : Int) (sg bg : Bool) (NA NU ME BA : LL) (ct en : Int) (NM X : LL) (m i : Int) (ow : qe_6_ω) : ((qe_6_fin d k s sg bg NA NU ME BA ct en NM X m i)).val = some ow → ∃ fuel, loopN qe_6_st fuel (d, k, s, sg, bg, NA, NU, ME, BA, ct, en, NM, X, m, i) = some ow := by
  refine auto_sum (R := (qe_R6 d k s sg bg NA NU ME BA ct en NM X m i)) rfl rfl rfl ?_
  intro ho
  have ho : is (i = 0 ∧ ME = X ∧ m = (ME.length : Int) ∧ en = 0 ∧ NM = [] ∧ Typed tab (.slice 71) (.l ME) ∧ (∀ x : List TC, x ∈ ME → qx_rc (nth x 2).int (nth x 3).int (nth x 4).bool (nth x 5).bool (nth x 6).list (nth x 7).list (nth x 8).list (nth x 9).list (nth x 10).int d = true) ∧ (∀ x : List TC, x ∈ ME → (!(qx_rv (nth x 2).int (nth x 3).int (nth x 4).bool (nth x 5).bool (nth x 6).list (nth x 7).list (nth x 8).list (nth x 9).list (nth x 10).int d)) = false → qbd_rc (nth x 2).int (nth x 3).int (nth x 4).bool (nth x 5).bool (nth x 6).list (nth x 7).list (nth x 8).list (nth x 9).list (nth x 10).int = true)) = true := ho.elim id id
  obtain ⟨rfl, rfl, rfl, rfl, rfl, ht, hr, hz⟩ := is_iff.1 ho
  have hlen : ME.length ≤ 140737488351232 := by have := typed_room ht; simp only [show (tab 71).bytes = 152 from rfl] at this; omega
  have hroom := typed_room ht
  simp only [show (tab 71).bytes = 152 from rfl] at hroom
  refine ⟨(ME.length) + 1, ?_⟩
  refine iter_loop (step := qe_6_st) (a := ((0 : Int), ([] : LL))) (ME.length) (fun i a => (qe_f6 d k s sg bg NA NU ME BA ct ME (ME.length : Int) (i : Int) (a.1) (a.2))) (fun a => (qe_e6 d k s sg bg NA NU ME BA ct ME (ME.length : Int) (a.1) (a.2))) (fun i a => (d, k, s, sg, bg, NA, NU, ME, BA, ct, a.1, a.2, ME, (ME.length : Int), (i : Int))) (fun i (a : Int × LL) => a.2.length = i) rfl (fun i a hi hI => ⟨?_, fun a' h => by
    unfold qe_f6 at h
    generalize (!(qx_rv (nth (row ME (i : Int)) 2).int (nth (row ME (i : Int)) 3).int (nth (row ME (i : Int)) 4).bool (nth (row ME (i : Int)) 5).bool (nth (row ME (i : Int)) 6).list (nth (row ME (i : Int)) 7).list (nth (row ME (i : Int)) 8).list (nth (row ME (i : Int)) 9).list (nth (row ME (i : Int)) 10).int d)) = q0, decide ((nth (row ME (i : Int)) 1).int < a.1) = q1, decide ((nth (row ME (i : Int)) 1).int > 24) = q2 at h
    cases q0 <;> cases q1 <;> cases q2 <;> first | (cases h; done) | (cases h; show (a.2 ++ _).length = i + 1; rw [List.length_append, hI]; rfl)⟩) (fun a hI => ?_)
  · show (qe_6_step d k s sg bg NA NU ME BA ct (a.1) (a.2) ME (ME.length : Int) (i : Int)).val = _
    unfold qe_6_step qe_f6
    have c0 : Typed tab (.str) (.s (nth (ME.getD i []) 0).str) := typed_s (typed_cell ht (ME.getD i []) (mem_getD hi) 0 (by decide))
    have c6 : Typed tab (.slice 9) (.l (nth (ME.getD i []) 6).list) := typed_list (typed_cell ht (ME.getD i []) (mem_getD hi) 6 (by decide))
    have c7 : Typed tab (.slice 2) (.l (nth (ME.getD i []) 7).list) := typed_list (typed_cell ht (ME.getD i []) (mem_getD hi) 7 (by decide))
    have c8 : Typed tab (.slice 71) (.l (nth (ME.getD i []) 8).list) := typed_list (typed_cell ht (ME.getD i []) (mem_getD hi) 8 (by decide))
    have c9 : Typed tab (.slice 32) (.l (nth (ME.getD i []) 9).list) := typed_list (typed_cell ht (ME.getD i []) (mem_getD hi) 9 (by decide))
    refine Tr.t (by simp; omega) ?_
    exact (Tr.t (by first | omega | (constructor <;> omega) | (exact hr _ (mem_getD (by omega))) | (exact hz _ (mem_getD (by omega)) (by assumption)) | ((unfold roomFor; simp only [show (tab 9).bytes = 16 from rfl, List.length_append, List.length_singleton]; omega))) (Tr.t (by first | omega | (constructor <;> omega) | (exact hr _ (mem_getD (by omega))) | (exact hz _ (mem_getD (by omega)) (by assumption)) | ((unfold roomFor; simp only [show (tab 9).bytes = 16 from rfl, List.length_append, List.length_singleton]; omega))) (Tr.bh (fun _ => rfl) (fun _ => (Tr.bh (fun _ => rfl) (fun _ => (Tr.bh (fun _ => rfl) (fun _ => (Tr.t (by first | omega | (constructor <;> omega) | (exact hr _ (mem_getD (by omega))) | (exact hz _ (mem_getD (by omega)) (by assumption)) | ((unfold roomFor; simp only [show (tab 9).bytes = 16 from rfl, List.length_append, List.length_singleton]; omega))) (Tr.t (by first | omega | (constructor <;> omega) | (exact hr _ (mem_getD (by omega))) | (exact hz _ (mem_getD (by omega)) (by assumption)) | ((unfold roomFor; simp only [show (tab 9).bytes = 16 from rfl, List.length_append, List.length_singleton]; omega))) (by rw [Tr.val_ok, wrap64 (i := (i : Int) + 1) (by omega) (by omega)]; rfl)))))))))))
  · show (qe_6_step d k s sg bg NA NU ME BA ct (a.1) (a.2) ME (ME.length : Int) (ME.length : Int)).val = _
    refine Tr.n (by first | (simp; done) | (simp; omega) | omega) ?_
    rfl
theorem qe_is6 : LoopIs tab FT D49 live 107 qe_lo 0 6 := by
  refine loop_told (sl := qe_6_sl) (step := qe_6_st) (out := qe_6_out) (lor := qe_lo6) (fin := fun x => (qe_6_fin (x.1) (x.2.1) (x.2.2.1) (x.2.2.2.1) (x.2.2.2.2.1) (x.2.2.2.2.2.1) (x.2.2.2.2.2.2.1) (x.2.2.2.2.2.2.2.1) (x.2.2.2.2.2.2.2.2.1) (x.2.2.2.2.2.2.2.2.2.1) (x.2.2.2.2.2.2.2.2.2.2.1) (x.2.2.2.2.2.2.2.2.2.2.2.1) (x.2.2.2.2.2.2.2.2.2.2.2.2.1) (x.2.2.2.2.2.2.2.2.2.2.2.2.2.1) (x.2.2.2.2.2.2.2.2.2.2.2.2.2.2))) (fun _ => rfl) ?_ (fun x n => qe_6_r x.1 x.2.1 x.2.2.1 x.2.2.2.1 x.2.2.2.2.1 x.2.2.2.2.2.1 x.2.2.2.2.2.2.1 x.2.2.2.2.2.2.2.1 x.2.2.2.2.2.2.2.2.1 x.2.2.2.2.2.2.2.2.2.1 x.2.2.2.2.2.2.2.2.2.2.1 x.2.2.2.2.2.2.2.2.2.2.2.1 x.2.2.2.2.2.2.2.2.2.2.2.2.1 x.2.2.2.2.2.2.2.2.2.2.2.2.2.1 x.2.2.2.2.2.2.2.2.2.2.2.2.2.2 n) (fun x ow => qe_6_h x.1 x.2.1 x.2.2.1 x.2.2.2.1 x.2.2.2.2.1 x.2.2.2.2.2.1 x.2.2.2.2.2.2.1 x.2.2.2.2.2.2.2.1 x.2.2.2.2.2.2.2.2.1 x.2.2.2.2.2.2.2.2.2.1 x.2.2.2.2.2.2.2.2.2.2.1 x.2.2.2.2.2.2.2.2.2.2.2.1 x.2.2.2.2.2.2.2.2.2.2.2.2.1 x.2.2.2.2.2.2.2.2.2.2.2.2.2.1 x.2.2.2.2.2.2.2.2.2.2.2.2.2.2 ow)
  intro s t h
  unfold qe_lo6 at h
  split at h
  · cases h; exact ⟨(_, _, _, _, _, _, _, _, _, _, _, _, _, _, _), rfl, rfl⟩
  · cases h
noncomputable def qe_t (k s : Int) (sg bg : Bool) (NA NU ME BA : LL) (ct d : Int) : Tr (Bool) := (.ite ((!(qcj_v s (1 : Int) (24 : Int))) = true) (.ok false)
  (.ite ((!(qcj_v (ME.length : Int) (1 : Int) (4 : Int))) = true) (.ok false)
   (.ite ((qe_k6_1 d k s sg bg NA NU ME BA ct (0 : Int) [] ME (ME.length : Int) (0 : Int)) = true) (.ite ((qe_o6_2 d k s sg bg NA NU ME BA ct (0 : Int) [] ME (ME.length : Int) (0 : Int)) = true) (.ok false)
     .no)
    (.ite ((qe_o6_3 d k s sg bg NA NU ME BA ct (0 : Int) [] ME (ME.length : Int) (0 : Int)) = true) (.ite ((decide ((qe_u6_3_9 d k s sg bg NA NU ME BA ct (0 : Int) [] ME (ME.length : Int) (0 : Int)) ≤ (qe_u6_3_1 d k s sg bg NA NU ME BA ct (0 : Int) [] ME (ME.length : Int) (0 : Int)))) = true) (.ite ((qj_c (qe_u6_3_10 d k s sg bg NA NU ME BA ct (0 : Int) [] ME (ME.length : Int) (0 : Int))) = true) (.ok (qj_v (qe_u6_3_10 d k s sg bg NA NU ME BA ct (0 : Int) [] ME (ME.length : Int) (0 : Int))))
       .no)
      (.ok false))
     .no))))
def qe_mk (p : Bool) : Res := [(false, [⟨.bool, .sh, TC.b p⟩])]
noncomputable def qe_c (k s : Int) (sg bg : Bool) (NA NU ME BA : LL) (ct d : Int) : Bool := (bif (!(qcj_v s (1 : Int) (24 : Int))) then true else (bif (!(qcj_v (ME.length : Int) (1 : Int) (4 : Int))) then true else (bif (qe_k6_1 d k s sg bg NA NU ME BA ct (0 : Int) [] ME (ME.length : Int) (0 : Int)) then ((qe_o6_2 d k s sg bg NA NU ME BA ct (0 : Int) [] ME (ME.length : Int) (0 : Int)) && true) else ((qe_o6_3 d k s sg bg NA NU ME BA ct (0 : Int) [] ME (ME.length : Int) (0 : Int)) && (bif (decide ((qe_u6_3_9 d k s sg bg NA NU ME BA ct (0 : Int) [] ME (ME.length : Int) (0 : Int)) ≤ (qe_u6_3_1 d k s sg bg NA NU ME BA ct (0 : Int) [] ME (ME.length : Int) (0 : Int)))) then ((qj_c (qe_u6_3_10 d k s sg bg NA NU ME BA ct (0 : Int) [] ME (ME.length : Int) (0 : Int))) && true) else true)))))
noncomputable def qe_v (k s : Int) (sg bg : Bool) (NA NU ME BA : LL) (ct d : Int) : Bool := (bif (!(qcj_v s (1 : Int) (24 : Int))) then false else (bif (!(qcj_v (ME.length : Int) (1 : Int) (4 : Int))) then false else (bif (qe_k6_1 d k s sg bg NA NU ME BA ct (0 : Int) [] ME (ME.length : Int) (0 : Int)) then false else (bif (decide ((qe_u6_3_9 d k s sg bg NA NU ME BA ct (0 : Int) [] ME (ME.length : Int) (0 : Int)) ≤ (qe_u6_3_1 d k s sg bg NA NU ME BA ct (0 : Int) [] ME (ME.length : Int) (0 : Int)))) then (qj_v (qe_u6_3_10 d k s sg bg NA NU ME BA ct (0 : Int) [] ME (ME.length : Int) (0 : Int))) else false))))
theorem qe_l (k s : Int) (sg bg : Bool) (NA NU ME BA : LL) (ct d : Int) : (qe_c k s sg bg NA NU ME BA ct d) = true → (qe_t k s sg bg NA NU ME BA ct d).val = some (qe_v k s sg bg NA NU ME BA ct d) := by
  unfold qe_t qe_v qe_c
  exact fun h => (Tr.ss h (fun h => rfl) (fun h => (Tr.ss h (fun h => rfl) (fun h => (Tr.ss h (fun h => (Tr.gb h fun h => rfl)) (fun h => (Tr.gb h fun h => (Tr.ss h (fun h => (Tr.gb h fun h => rfl)) (fun h => rfl)))))))))
noncomputable def qe_S : List Arg → Option (Bool × Res) := fun xs => match xs with
  | [(true, [(.int .i64, TC.i k), (.int .i64, TC.i s), (.bool, TC.b sg), (.bool, TC.b bg), (.slice 9, TC.l NA), (.slice 2, TC.l NU), (.slice 71, TC.l ME), (.slice 32, TC.l BA), (.int .i64, TC.i ct)]), (false, [(.int .i64, TC.i d)])] => some ((qe_c k s sg bg NA NU ME BA ct d), qe_mk (qe_v k s sg bg NA NU ME BA ct d))
  | _ => .none
theorem qe_e (k s : Int) (sg bg : Bool) (NA NU ME BA : LL) (ct d : Int) : runF tab FT D49 live 107 qe_lo [(true, [(.int .i64, TC.i k), (.int .i64, TC.i s), (.bool, TC.b sg), (.bool, TC.b bg), (.slice 9, TC.l NA), (.slice 2, TC.l NU), (.slice 71, TC.l ME), (.slice 32, TC.l BA), (.int .i64, TC.i ct)]), (false, [(.int .i64, TC.i d)])] = (qe_t k s sg bg NA NU ME BA ct d).run fun p => some (qe_mk p) := by kernel_rfl
theorem qe_s : ∀ xs r, qe_S xs = some (true, r) → runF tab FT D49 live 107 qe_lo xs = some r := by
  intro xs r h
  unfold qe_S at h
  split at h
  · simp only [Option.some.injEq, Prod.mk.injEq] at h
    obtain ⟨h1, rfl⟩ := h
    exact fun_told (qe_e _ _ _ _ _ _ _ _ _ _) (qe_l _ _ _ _ _ _ _ _ _ _) h1
  · cases h
noncomputable def D50 : Dt := also D49 107 qe_S
theorem d50 : DOk Go.Proofs.Try.prog tab D50 := d49.also mixed_ok tab_ok names_ok (fnLoops_one (by kernel_rfl) qe_is6) qe_s
theorem nm_typed {ME : LL} (ht : Typed tab (.slice 71) (.l ME)) : Typed tab (.slice 9) (.l (nmAt ME ME.length)) := by
  have hroom := typed_room ht
  simp only [show (tab 71).bytes = 152 from rfl] at hroom
  have hm : (140737488351232 : Nat) ≤ maxLen := by unfold maxLen; omega
  rw [nmAt_all]
  refine .slice _ _ (by rw [List.length_map, show (tab 9).bytes = 16 from rfl]; show _ ≤ 140737488351232; omega) (by rw [List.length_map]; omega) (fun x hx => ?_) (fun x hx k hk => ?_)
  · obtain ⟨y, _, rfl⟩ := List.mem_map.1 hx; rfl
  · obtain ⟨y, hy, rfl⟩ := List.mem_map.1 hx
    have hk : k = 0 := by have : k < 1 := hk; omega
    subst hk
    exact typed_s ((typed_elem ht hy).2 0 (by decide))
theorem comp_u {d : Int} {k s : Int} {sg bg : Bool} {NA NU ME BA : LL} {ct : Int} {m : Int} (h : qe_k6_1 d k s sg bg NA NU ME BA ct 0 [] ME m 0 = false) : qe_u6_3_10 d k s sg bg NA NU ME BA ct 0 [] ME m 0 = nmAt ME ME.length := by
  unfold qe_u6_3_10
  unfold qe_k6_1 at h
  obtain ⟨a, ha⟩ := qe_R6_eq d k s sg bg NA NU ME BA ct m
  rw [ha] at h ⊢
  generalize (allI (memI ME) ME.length && ME.all fun x => validV (nth x 2).int (nth x 3).int (nth x 4).bool (nth x 5).bool (nth x 6).list (nth x 7).list (nth x 8).list (nth x 9).list (nth x 10).int d) = q at h ⊢
  cases q
  · cases h
  · rfl
theorem qe_cc {k : Int} {s : Int} {sg : Bool} {bg : Bool} {NA : LL} {NU : LL} {ME : LL} {BA : LL} {ct : Int} {d : Int} (ht : Typed tab (.slice 71) (.l ME)) (hr : (∀ x : List TC, x ∈ ME → qx_rc (nth x 2).int (nth x 3).int (nth x 4).bool (nth x 5).bool (nth x 6).list (nth x 7).list (nth x 8).list (nth x 9).list (nth x 10).int d = true)) (hz : (∀ x : List TC, x ∈ ME → (!(qx_rv (nth x 2).int (nth x 3).int (nth x 4).bool (nth x 5).bool (nth x 6).list (nth x 7).list (nth x 8).list (nth x 9).list (nth x 10).int d)) = false → qbd_rc (nth x 2).int (nth x 3).int (nth x 4).bool (nth x 5).bool (nth x 6).list (nth x 7).list (nth x 8).list (nth x 9).list (nth x 10).int = true)) : (qe_c k s sg bg NA NU ME BA ct d) = true := by
  unfold qe_c
  refine bifT (fun b1 => ?_) (fun b1 => ?_)
  · skip
    rfl
  · skip
    refine bifT (fun b2 => ?_) (fun b2 => ?_)
    · skip
      rfl
    · skip
      refine bifT (fun b3 => ?_) (fun b3 => ?_)
      · skip
        refine andT (by exact is_true ⟨rfl, rfl, rfl, rfl, rfl, ht, hr, hz⟩) ?_
        rfl
      · skip
        refine andT (by exact is_true ⟨rfl, rfl, rfl, rfl, rfl, ht, hr, hz⟩) ?_
        refine bifT (fun b4 => ?_) (fun b4 => ?_)
        · skip
          refine andT (by rw [comp_u b3]; exact qj_cc (nm_typed ht)) ?_
          rfl
        · skip
          rfl
theorem qe_vv (k s : Int) (sg bg : Bool) (NA NU ME BA : LL) (ct d : Int) : qe_v k s sg bg NA NU ME BA ct d = (inB s 1 24 && (inB (ME.length : Int) 1 4 && ((allI (memI ME) ME.length && ME.all fun x => validV (nth x 2).int (nth x 3).int (nth x 4).bool (nth x 5).bool (nth x 6).list (nth x 7).list (nth x 8).list (nth x 9).list (nth x 10).int d) && (decide (endI ME ME.length ≤ s) && allI (fun i : Nat => dnP ME (i : Int)) ME.length)))) := by
  unfold qe_v
  obtain ⟨a, ha⟩ := qe_R6_eq d k s sg bg NA NU ME BA ct (ME.length : Int)
  unfold qe_k6_1 qe_u6_3_9 qe_u6_3_1 qe_u6_3_10
  rw [ha, show qcj_v s 1 24 = inB s 1 24 from rfl, show qcj_v (ME.length : Int) 1 4 = inB (ME.length : Int) 1 4 from rfl]
  have hn : allI (fun i : Nat => dnP (nmAt ME ME.length) (i : Int)) (nmAt ME ME.length).length = allI (fun i : Nat => dnP ME (i : Int)) ME.length := by
    rw [nmAt_len]
    exact allI_congr fun i hi => by unfold dnP; rw [nm_str hi, nm_dup hi]
  generalize (allI (memI ME) ME.length && ME.all fun x => validV (nth x 2).int (nth x 3).int (nth x 4).bool (nth x 5).bool (nth x 6).list (nth x 7).list (nth x 8).list (nth x 9).list (nth x 10).int d) = q
  cases q
  · simp only [bif_nf, bif_tf, bif_ft, Bool.not_not, Bool.false_and, Bool.and_false]
    show (inB s 1 24 && (inB (ME.length : Int) 1 4 && false)) = false
    simp only [Bool.and_false]
  · show (bif !(inB s 1 24) then false else bif !(inB (ME.length : Int) 1 4) then false else bif false then false else bif decide (endI ME ME.length ≤ s) then qj_v (nmAt ME ME.length) else false) = _
    rw [qj_vv, hn]
    simp only [bif_nf, bif_tf, bif_ft, Bool.not_not, Bool.true_and, Bool.not_false]
noncomputable def qx_t (k s : Int) (sg bg : Bool) (NA NU ME BA : LL) (ct d : Int) : Tr (Bool) := (.ite ((decide (d < (1 : Int))) = true) (.ok false)
  (.ite ((qbf_rc k s sg bg NA NU ME BA ct ((qbs_v k s sg bg NA NU ME BA ct).1) ((qbs_v k s sg bg NA NU ME BA ct).2.1) ((qbs_v k s sg bg NA NU ME BA ct).2.2.1) ((qbs_v k s sg bg NA NU ME BA ct).2.2.2.1) ((qbs_v k s sg bg NA NU ME BA ct).2.2.2.2.1) ((qbs_v k s sg bg NA NU ME BA ct).2.2.2.2.2.1) ((qbs_v k s sg bg NA NU ME BA ct).2.2.2.2.2.2.1) ((qbs_v k s sg bg NA NU ME BA ct).2.2.2.2.2.2.2.1) ((qbs_v k s sg bg NA NU ME BA ct).2.2.2.2.2.2.2.2)) = true) (.ite ((!(qbf_rv k s sg bg NA NU ME BA ct ((qbs_v k s sg bg NA NU ME BA ct).1) ((qbs_v k s sg bg NA NU ME BA ct).2.1) ((qbs_v k s sg bg NA NU ME BA ct).2.2.1) ((qbs_v k s sg bg NA NU ME BA ct).2.2.2.1) ((qbs_v k s sg bg NA NU ME BA ct).2.2.2.2.1) ((qbs_v k s sg bg NA NU ME BA ct).2.2.2.2.2.1) ((qbs_v k s sg bg NA NU ME BA ct).2.2.2.2.2.2.1) ((qbs_v k s sg bg NA NU ME BA ct).2.2.2.2.2.2.2.1) ((qbs_v k s sg bg NA NU ME BA ct).2.2.2.2.2.2.2.2))) = true) (.ok false)
    (.ite ((k == (1 : Int)) = true) (.ite ((qcg_c k s sg bg NA NU ME BA ct) = true) (.ok (qcg_v k s sg bg NA NU ME BA ct))
      .no)
     (.ite ((k == (2 : Int)) = true) (.ok (qcj_v s (1 : Int) (16 : Int)))
      (.ite ((k == (3 : Int)) = true) (.ite ((qo_c k s sg bg NA NU ME BA ct) = true) (.ok (qo_v k s sg bg NA NU ME BA ct))
        .no)
       (.ite ((k == (4 : Int)) = true) (.ite ((qe_c k s sg bg NA NU ME BA ct (IntKind.wrap .i64 (d - (1 : Int)))) = true) (.ok (qe_v k s sg bg NA NU ME BA ct (IntKind.wrap .i64 (d - (1 : Int)))))
         .no)
        (.ite ((k == (5 : Int)) = true) (.ite ((qcj_v ct (1 : Int) (4 : Int)) = true) (.ite (((BA.length : Int) == (1 : Int)) = true) (.ite ((0 : Int) ≤ (0 : Int) ∧ (0 : Int) < (BA.length : Int)) (.ite ((qx_rc ((nth (row BA (0 : Int)) 0).int) ((nth (row BA (0 : Int)) 1).int) ((nth (row BA (0 : Int)) 2).bool) ((nth (row BA (0 : Int)) 3).bool) ((nth (row BA (0 : Int)) 4).list) ((nth (row BA (0 : Int)) 5).list) ((nth (row BA (0 : Int)) 6).list) ((nth (row BA (0 : Int)) 7).list) ((nth (row BA (0 : Int)) 8).int) (IntKind.wrap .i64 (d - (1 : Int)))) = true) (.ite ((qx_rv ((nth (row BA (0 : Int)) 0).int) ((nth (row BA (0 : Int)) 1).int) ((nth (row BA (0 : Int)) 2).bool) ((nth (row BA (0 : Int)) 3).bool) ((nth (row BA (0 : Int)) 4).list) ((nth (row BA (0 : Int)) 5).list) ((nth (row BA (0 : Int)) 6).list) ((nth (row BA (0 : Int)) 7).list) ((nth (row BA (0 : Int)) 8).int) (IntKind.wrap .i64 (d - (1 : Int)))) = true) (.ite ((qbd_rc k s sg bg NA NU ME BA ct) = true) (.ok (decide ((qbd_rv k s sg bg NA NU ME BA ct) ≤ (24 : Int))))
               .no)
              (.ok false))
             .no)
            .no)
           (.ok false))
          (.ok false))
         (.ite ((k == (6 : Int)) = true) (.ok (s == (2 : Int)))
          (.ok false))))))))
   .no))
def qx_mk (p : Bool) : Res := [(false, [⟨.bool, .sh, TC.b p⟩])]
noncomputable def qx_c (k s : Int) (sg bg : Bool) (NA NU ME BA : LL) (ct d : Int) : Bool := (bif (decide (d < (1 : Int))) then true else ((qbf_rc k s sg bg NA NU ME BA ct ((qbs_v k s sg bg NA NU ME BA ct).1) ((qbs_v k s sg bg NA NU ME BA ct).2.1) ((qbs_v k s sg bg NA NU ME BA ct).2.2.1) ((qbs_v k s sg bg NA NU ME BA ct).2.2.2.1) ((qbs_v k s sg bg NA NU ME BA ct).2.2.2.2.1) ((qbs_v k s sg bg NA NU ME BA ct).2.2.2.2.2.1) ((qbs_v k s sg bg NA NU ME BA ct).2.2.2.2.2.2.1) ((qbs_v k s sg bg NA NU ME BA ct).2.2.2.2.2.2.2.1) ((qbs_v k s sg bg NA NU ME BA ct).2.2.2.2.2.2.2.2)) && (bif (!(qbf_rv k s sg bg NA NU ME BA ct ((qbs_v k s sg bg NA NU ME BA ct).1) ((qbs_v k s sg bg NA NU ME BA ct).2.1) ((qbs_v k s sg bg NA NU ME BA ct).2.2.1) ((qbs_v k s sg bg NA NU ME BA ct).2.2.2.1) ((qbs_v k s sg bg NA NU ME BA ct).2.2.2.2.1) ((qbs_v k s sg bg NA NU ME BA ct).2.2.2.2.2.1) ((qbs_v k s sg bg NA NU ME BA ct).2.2.2.2.2.2.1) ((qbs_v k s sg bg NA NU ME BA ct).2.2.2.2.2.2.2.1) ((qbs_v k s sg bg NA NU ME BA ct).2.2.2.2.2.2.2.2))) then true else (bif (k == (1 : Int)) then ((qcg_c k s sg bg NA NU ME BA ct) && true) else (bif (k == (2 : Int)) then true else (bif (k == (3 : Int)) then ((qo_c k s sg bg NA NU ME BA ct) && true) else (bif (k == (4 : Int)) then ((qe_c k s sg bg NA NU ME BA ct (IntKind.wrap .i64 (d - (1 : Int)))) && true) else (bif (k == (5 : Int)) then (bif (qcj_v ct (1 : Int) (4 : Int)) then (bif ((BA.length : Int) == (1 : Int)) then (is ((0 : Int) ≤ (0 : Int) ∧ (0 : Int) < (BA.length : Int)) && ((qx_rc ((nth (row BA (0 : Int)) 0).int) ((nth (row BA (0 : Int)) 1).int) ((nth (row BA (0 : Int)) 2).bool) ((nth (row BA (0 : Int)) 3).bool) ((nth (row BA (0 : Int)) 4).list) ((nth (row BA (0 : Int)) 5).list) ((nth (row BA (0 : Int)) 6).list) ((nth (row BA (0 : Int)) 7).list) ((nth (row BA (0 : Int)) 8).int) (IntKind.wrap .i64 (d - (1 : Int)))) && (bif (qx_rv ((nth (row BA (0 : Int)) 0).int) ((nth (row BA (0 : Int)) 1).int) ((nth (row BA (0 : Int)) 2).bool) ((nth (row BA (0 : Int)) 3).bool) ((nth (row BA (0 : Int)) 4).list) ((nth (row BA (0 : Int)) 5).list) ((nth (row BA (0 : Int)) 6).list) ((nth (row BA (0 : Int)) 7).list) ((nth (row BA (0 : Int)) 8).int) (IntKind.wrap .i64 (d - (1 : Int)))) then ((qbd_rc k s sg bg NA NU ME BA ct) && true) else true))) else true) else true) else (bif (k == (6 : Int)) then true else true)))))))))
noncomputable def qx_v (k s : Int) (sg bg : Bool) (NA NU ME BA : LL) (ct d : Int) : Bool := (bif (decide (d < (1 : Int))) then false else (bif (!(qbf_rv k s sg bg NA NU ME BA ct ((qbs_v k s sg bg NA NU ME BA ct).1) ((qbs_v k s sg bg NA NU ME BA ct).2.1) ((qbs_v k s sg bg NA NU ME BA ct).2.2.1) ((qbs_v k s sg bg NA NU ME BA ct).2.2.2.1) ((qbs_v k s sg bg NA NU ME BA ct).2.2.2.2.1) ((qbs_v k s sg bg NA NU ME BA ct).2.2.2.2.2.1) ((qbs_v k s sg bg NA NU ME BA ct).2.2.2.2.2.2.1) ((qbs_v k s sg bg NA NU ME BA ct).2.2.2.2.2.2.2.1) ((qbs_v k s sg bg NA NU ME BA ct).2.2.2.2.2.2.2.2))) then false else (bif (k == (1 : Int)) then (qcg_v k s sg bg NA NU ME BA ct) else (bif (k == (2 : Int)) then (qcj_v s (1 : Int) (16 : Int)) else (bif (k == (3 : Int)) then (qo_v k s sg bg NA NU ME BA ct) else (bif (k == (4 : Int)) then (qe_v k s sg bg NA NU ME BA ct (IntKind.wrap .i64 (d - (1 : Int)))) else (bif (k == (5 : Int)) then (bif (qcj_v ct (1 : Int) (4 : Int)) then (bif ((BA.length : Int) == (1 : Int)) then (bif (qx_rv ((nth (row BA (0 : Int)) 0).int) ((nth (row BA (0 : Int)) 1).int) ((nth (row BA (0 : Int)) 2).bool) ((nth (row BA (0 : Int)) 3).bool) ((nth (row BA (0 : Int)) 4).list) ((nth (row BA (0 : Int)) 5).list) ((nth (row BA (0 : Int)) 6).list) ((nth (row BA (0 : Int)) 7).list) ((nth (row BA (0 : Int)) 8).int) (IntKind.wrap .i64 (d - (1 : Int)))) then (decide ((qbd_rv k s sg bg NA NU ME BA ct) ≤ (24 : Int))) else false) else false) else false) else (bif (k == (6 : Int)) then (s == (2 : Int)) else false))))))))
theorem qx_l (k s : Int) (sg bg : Bool) (NA NU ME BA : LL) (ct d : Int) : (qx_c k s sg bg NA NU ME BA ct d) = true → (qx_t k s sg bg NA NU ME BA ct d).val = some (qx_v k s sg bg NA NU ME BA ct d) := by
  unfold qx_t qx_v qx_c
  exact fun h => (Tr.ss h (fun h => rfl) (fun h => (Tr.gb h fun h => (Tr.ss h (fun h => rfl) (fun h => (Tr.ss h (fun h => (Tr.gb h fun h => rfl)) (fun h => (Tr.ss h (fun h => rfl) (fun h => (Tr.ss h (fun h => (Tr.gb h fun h => rfl)) (fun h => (Tr.ss h (fun h => (Tr.gb h fun h => rfl)) (fun h => (Tr.ss h (fun h => (Tr.ss h (fun h => (Tr.ss h (fun h => (Tr.gs h fun h => (Tr.gb h fun h => (Tr.ss h (fun h => (Tr.gb h fun h => rfl)) (fun h => rfl))))) (fun h => rfl))) (fun h => rfl))) (fun h => (Tr.ss h (fun h => rfl) (fun h => rfl)))))))))))))))))
theorem qx_e (k s : Int) (sg bg : Bool) (NA NU ME BA : LL) (ct d : Int) : runF tab FT D50 live 73 noLoops [(true, [(.int .i64, TC.i k), (.int .i64, TC.i s), (.bool, TC.b sg), (.bool, TC.b bg), (.slice 9, TC.l NA), (.slice 2, TC.l NU), (.slice 71, TC.l ME), (.slice 32, TC.l BA), (.int .i64, TC.i ct)]), (false, [(.int .i64, TC.i d)])] = (qx_t k s sg bg NA NU ME BA ct d).run fun p => some (qx_mk p) := by kernel_rfl
theorem qx_nx (k s : Int) (sg bg : Bool) (NA NU ME BA : LL) (ct d : Int) : is (max (rowsDep ME) (rowsDep BA) < qx_O.n + 1 ∧ d ≤ 3 ∧ max (rowsDep ME) (rowsDep BA) < qbf_O.n ∧ max (rowsDep ME) (rowsDep BA) < qbd_O.n ∧ Typed tab (.slice 9) (.l NA) ∧ Typed tab (.slice 2) (.l NU) ∧ Typed tab (.slice 71) (.l ME) ∧ Typed tab (.slice 32) (.l BA)) = true → (qx_c k s sg bg NA NU ME BA ct d) = true ∧ (qx_v k s sg bg NA NU ME BA ct d) = validV k s sg bg NA NU ME BA ct d := by
  intro h
  obtain ⟨hM, hd, hS, hZ, t4, t5, t6, t7⟩ := is_iff.1 h
  by_cases hd1 : d < 1
  · refine ⟨by unfold qx_c; rw [decide_eq_true hd1]; rfl, ?_⟩
    unfold qx_v validV
    rw [decide_eq_true hd1]
    show false = _
    cases hk : okV k s sg bg NA NU ME BA ct with
    | false => rfl
    | true => have := okV_pos hk; rw [decide_eq_false (by omega)]; rfl
  have hsame : ∀ (k' s' : Int) (sg' bg' : Bool) (A B C D : LL) (ct' : Int), Typed tab (.slice 9) (.l A) → Typed tab (.slice 2) (.l B) → Typed tab (.slice 71) (.l C) → Typed tab (.slice 32) (.l D) → qbf_rc k s sg bg NA NU ME BA ct k' s' sg' bg' A B C D ct' = true :=
    fun _ _ _ _ _ _ _ _ _ a b c e => is_true ⟨by omega, t4, t5, t6, t7, a, b, c, e⟩
  have hv : ∀ (k' s' : Int) (sg' bg' : Bool) (A B C D : LL) (ct' : Int), qbf_rv k s sg bg NA NU ME BA ct k' s' sg' bg' A B C D ct' = sameV k s sg bg NA NU ME BA ct k' s' sg' bg' A B C D ct' := fun _ _ _ _ _ _ _ _ _ => rfl
  have z4 : Typed tab (.slice 9) (.l []) := typed_none
  have z5 : Typed tab (.slice 2) (.l []) := typed_none
  have z6 : Typed tab (.slice 71) (.l []) := typed_none
  have z7 : Typed tab (.slice 32) (.l []) := typed_none
  have w1 : IntKind.wrap .i64 (d - 1) = d - 1 := wrap64 (by omega) (by omega)
  have e0 : decide (d < 1) = false := decide_eq_false hd1
  have hbase : ∀ d', d' ≤ 3 → 0 < BA.length → qx_rc (nth (row BA (0 : Int)) 0).int (nth (row BA (0 : Int)) 1).int (nth (row BA (0 : Int)) 2).bool (nth (row BA (0 : Int)) 3).bool (nth (row BA (0 : Int)) 4).list (nth (row BA (0 : Int)) 5).list (nth (row BA (0 : Int)) 6).list (nth (row BA (0 : Int)) 7).list (nth (row BA (0 : Int)) 8).int d' = true := fun d' hd' hb => by
    have := dep_base (ME := ME) hb 6 7
    exact is_true ⟨by omega, hd', by omega, by omega, typed_list ((typed_elem t7 (mem_getD (i := 0) hb)).2 4 (by decide)), typed_list ((typed_elem t7 (mem_getD (i := 0) hb)).2 5 (by decide)), typed_list ((typed_elem t7 (mem_getD (i := 0) hb)).2 6 (by decide)), typed_list ((typed_elem t7 (mem_getD (i := 0) hb)).2 7 (by decide))⟩
  unfold qx_c qx_v
  rw [e0, w1]
  by_cases k1 : k = 1
  · subst k1
    rw [show qbs_v 1 s sg bg NA NU ME BA ct = (1, s, sg, bg, [], [], [], [], 0) from rfl]
    refine ⟨?_, ?_⟩
    · simp only [hsame _ _ _ _ _ _ _ _ _ z4 z5 z6 z7, qcg_cc1, Int.reduceBEq, cond_true, cond_false, Bool.true_and, Bool.and_true, bif_same]
    · rw [← pure1 (by omega)]
      simp only [hv, qcg_vv, Int.reduceBEq, cond_true, cond_false]
  by_cases k2 : k = 2
  · subst k2
    rw [show qbs_v 2 s sg bg NA NU ME BA ct = (2, s, false, false, [], [], [], [], 0) from rfl]
    refine ⟨?_, ?_⟩
    · simp only [hsame _ _ _ _ _ _ _ _ _ z4 z5 z6 z7, Int.reduceBEq, cond_true, cond_false, Bool.true_and, Bool.and_true, bif_same]
    · rw [valid_2 (by omega), ← pureB (k := 2) (s := s)]
      simp only [hv, Int.reduceBEq, cond_true, cond_false]
      rfl
  by_cases k6 : k = 6
  · subst k6
    rw [show qbs_v 6 s sg bg NA NU ME BA ct = (6, s, false, false, [], [], [], [], 0) from rfl]
    refine ⟨?_, ?_⟩
    · simp only [hsame _ _ _ _ _ _ _ _ _ z4 z5 z6 z7, Int.reduceBEq, cond_true, cond_false, Bool.true_and, Bool.and_true, bif_same]
    · rw [valid_6 (by omega), ← pureB (k := 6) (s := s)]
      simp only [hv, Int.reduceBEq, cond_true, cond_false]
  by_cases k3 : k = 3
  · subst k3
    rw [show qbs_v 3 s sg bg NA NU ME BA ct = (3, 0, false, false, NA, NU, [], BA, 0) from rfl]
    refine ⟨?_, ?_⟩
    · have hl : NU.length ≤ 140737488351232 := by have := typed_room t5; simp only [show (tab 2).bytes = 8 from rfl] at this; omega
      simp only [hsame _ _ _ _ _ _ _ _ _ t4 t5 z6 t7, qo_cc (hbase 1 (by omega)) t4 hl, Int.reduceBEq, cond_true, cond_false, Bool.true_and, Bool.and_true, bif_same]
    · rw [← pure3 (by omega)]
      simp only [hv, qo_vv, Int.reduceBEq, cond_true, cond_false]
  by_cases k4 : k = 4
  · subst k4
    rw [show qbs_v 4 s sg bg NA NU ME BA ct = (4, s, false, false, [], [], ME, [], 0) from rfl]
    refine ⟨?_, ?_⟩
    · have hr : ∀ x, x ∈ ME → qx_rc (nth x 2).int (nth x 3).int (nth x 4).bool (nth x 5).bool (nth x 6).list (nth x 7).list (nth x 8).list (nth x 9).list (nth x 10).int (d - 1) = true := fun x hx => by
        have := dep_max (BA := BA) hx 8 9
        exact is_true ⟨by omega, by omega, by omega, by omega, typed_list ((typed_elem t6 hx).2 6 (by decide)), typed_list ((typed_elem t6 hx).2 7 (by decide)), typed_list ((typed_elem t6 hx).2 8 (by decide)), typed_list ((typed_elem t6 hx).2 9 (by decide))⟩
      have hz : ∀ x, x ∈ ME → (!(qx_rv (nth x 2).int (nth x 3).int (nth x 4).bool (nth x 5).bool (nth x 6).list (nth x 7).list (nth x 8).list (nth x 9).list (nth x 10).int (d - 1))) = false → qbd_rc (nth x 2).int (nth x 3).int (nth x 4).bool (nth x 5).bool (nth x 6).list (nth x 7).list (nth x 8).list (nth x 9).list (nth x 10).int = true := fun x hx hk => by
        have := dep_max (BA := BA) hx 8 9
        have hk : qx_rv (nth x 2).int (nth x 3).int (nth x 4).bool (nth x 5).bool (nth x 6).list (nth x 7).list (nth x 8).list (nth x 9).list (nth x 10).int (d - 1) = true := by simpa using hk
        have hk : (okV (nth x 2).int (nth x 3).int (nth x 4).bool (nth x 5).bool (nth x 6).list (nth x 7).list (nth x 8).list (nth x 9).list (nth x 10).int && decide (depthV (nth x 2).int (nth x 8).list (nth x 9).list ≤ d - 1)) = true := hk
        rw [Bool.and_eq_true] at hk
        exact is_true ⟨by omega, (okV_isize hk.1).2⟩
      simp only [hsame _ _ _ _ _ _ _ _ _ z4 z5 t6 z7, qe_cc t6 hr hz, Int.reduceBEq, cond_true, cond_false, Bool.true_and, Bool.and_true, bif_same]
    · rw [← pure4 (by omega) hd]
      simp only [hv, qe_vv, Int.reduceBEq, cond_true, cond_false]
  by_cases k5 : k = 5
  · subst k5
    rw [show qbs_v 5 s sg bg NA NU ME BA ct = (5, 0, false, false, [], [], [], BA, ct) from rfl]
    refine ⟨?_, ?_⟩
    · simp only [hsame _ _ _ _ _ _ _ _ _ z4 z5 z6 t7, Int.reduceBEq, cond_true, cond_false, Bool.true_and, Bool.and_true]
      cases hb : ((BA.length : Int) == 1) with
      | false => simp only [cond_false, bif_same]
      | true =>
        have hb0 : 0 < BA.length := by have := beq_iff_eq.1 hb; omega
        rw [hbase (d - 1) (by omega) hb0, show is ((0 : Int) ≤ (0 : Int) ∧ (0 : Int) < (BA.length : Int)) = true from is_true (by constructor <;> omega)]
        cases hk : qx_rv (nth (row BA (0 : Int)) 0).int (nth (row BA (0 : Int)) 1).int (nth (row BA (0 : Int)) 2).bool (nth (row BA (0 : Int)) 3).bool (nth (row BA (0 : Int)) 4).list (nth (row BA (0 : Int)) 5).list (nth (row BA (0 : Int)) 6).list (nth (row BA (0 : Int)) 7).list (nth (row BA (0 : Int)) 8).int (d - 1) with
        | false => simp only [cond_true, cond_false, Bool.true_and, bif_same]
        | true =>
          have hk' : (okV (nth (row BA (0 : Int)) 0).int (nth (row BA (0 : Int)) 1).int (nth (row BA (0 : Int)) 2).bool (nth (row BA (0 : Int)) 3).bool (nth (row BA (0 : Int)) 4).list (nth (row BA (0 : Int)) 5).list (nth (row BA (0 : Int)) 6).list (nth (row BA (0 : Int)) 7).list (nth (row BA (0 : Int)) 8).int && decide (depthV (nth (row BA (0 : Int)) 0).int (nth (row BA (0 : Int)) 6).list (nth (row BA (0 : Int)) 7).list ≤ d - 1)) = true := hk
          rw [Bool.and_eq_true] at hk'
          have hsz : qbd_rc 5 s sg bg NA NU ME BA ct = true := is_true ⟨by omega, by
            rw [isizeC]
            show (if h : 0 < BA.length then isizeC (nth (row BA (0 : Int)) 0).int (nth (row BA (0 : Int)) 7).list else false) = true
            rw [dif_pos hb0]; exact (okV_isize hk'.1).2⟩
          simp only [hsz, cond_true, Bool.true_and, bif_same]
    · rw [← pure5 (by omega) hd]
      simp only [hv, Int.reduceBEq, cond_true, cond_false, show qcj_v ct 1 4 = inB ct 1 4 from rfl, show qx_rv (nth (row BA (0 : Int)) 0).int (nth (row BA (0 : Int)) 1).int (nth (row BA (0 : Int)) 2).bool (nth (row BA (0 : Int)) 3).bool (nth (row BA (0 : Int)) 4).list (nth (row BA (0 : Int)) 5).list (nth (row BA (0 : Int)) 6).list (nth (row BA (0 : Int)) 7).list (nth (row BA (0 : Int)) 8).int (d - 1) = validV (nth (row BA (0 : Int)) 0).int (nth (row BA (0 : Int)) 1).int (nth (row BA (0 : Int)) 2).bool (nth (row BA (0 : Int)) 3).bool (nth (row BA (0 : Int)) 4).list (nth (row BA (0 : Int)) 5).list (nth (row BA (0 : Int)) 6).list (nth (row BA (0 : Int)) 7).list (nth (row BA (0 : Int)) 8).int (d - 1) from rfl, show qbd_rv 5 s sg bg NA NU ME BA ct = isizeV 5 s BA ct from rfl, bif_ft]
  have e1 : (k == 1) = false := by simpa using k1
  have e2 : (k == 2) = false := by simpa using k2
  have e3 : (k == 3) = false := by simpa using k3
  have e4 : (k == 4) = false := by simpa using k4
  have e5 : (k == 5) = false := by simpa using k5
  have e6 : (k == 6) = false := by simpa using k6
  have ho : qbs_v k s sg bg NA NU ME BA ct = (k, 0, false, false, [], [], [], [], 0) := by
    unfold qbs_v
    simp only [e1, e2, e3, e4, e5, e6, cond_false]
  have hn : validV k s sg bg NA NU ME BA ct d = false := by
    unfold validV
    cases hk : okV k s sg bg NA NU ME BA ct with
    | false => rfl
    | true => have := okV_kind hk; omega
  rw [ho, hn]
  simp only [e1, e2, e3, e4, e5, e6, hsame _ _ _ _ _ _ _ _ _ z4 z5 z6 z7, cond_false, Bool.true_and, bif_same, and_self]
theorem qx_nxr (k s : Int) (sg bg : Bool) (NA NU ME BA : LL) (ct d : Int) : qx_rc (i_impl_Type_valid := ⟨qx_O.n + 1⟩) k s sg bg NA NU ME BA ct d = true → (qx_c k s sg bg NA NU ME BA ct d) = true ∧ (qx_v k s sg bg NA NU ME BA ct d) = (qx_rv k s sg bg NA NU ME BA ct d) := fun h => qx_nx k s sg bg NA NU ME BA ct d h
theorem qx_rs : ∀ xs r, qx_rS (i_impl_Type_valid := ⟨qx_O.n + 1⟩) xs = some (true, r) → runF tab FT D50 live 73 noLoops xs = some r := by
  intro xs r h
  unfold qx_rS at h
  split at h
  · simp only [Option.some.injEq, Prod.mk.injEq] at h
    obtain ⟨h1, rfl⟩ := h
    have hx := qx_nxr _ _ _ _ _ _ _ _ _ _ h1
    have ht := fun_told (qx_e _ _ _ _ _ _ _ _ _ _) (qx_l _ _ _ _ _ _ _ _ _ _) hx.1
    rw [hx.2] at ht
    exact ht
  · cases h
theorem qx_step : qx_G (i_impl_Type_valid := ⟨qx_O.n + 1⟩) := by
  have h := DOk.also2 (S := qx_rS (i_impl_Type_valid := ⟨qx_O.n + 1⟩)) mixed_ok tab_ok names_ok d42 d50 noLoops_ok qx_rs
  refine qx_G.mk (i_impl_Type_valid := ⟨qx_O.n + 1⟩) ?_
  exact h
noncomputable def qbl_t (k s : Int) (sg bg : Bool) (NA NU ME BA : LL) (ct : Int) : Tr (Bool) := (.ite ((qx_rc k s sg bg NA NU ME BA ct (3 : Int)) = true) (.ok (qx_rv k s sg bg NA NU ME BA ct (3 : Int)))
  .no)
def qbl_mk (p : Bool) : Res := [(false, [⟨.bool, .sh, TC.b p⟩])]
noncomputable def qbl_c (k s : Int) (sg bg : Bool) (NA NU ME BA : LL) (ct : Int) : Bool := ((qx_rc k s sg bg NA NU ME BA ct (3 : Int)) && true)
noncomputable def qbl_v (k s : Int) (sg bg : Bool) (NA NU ME BA : LL) (ct : Int) : Bool := (qx_rv k s sg bg NA NU ME BA ct (3 : Int))
theorem qbl_l (k s : Int) (sg bg : Bool) (NA NU ME BA : LL) (ct : Int) : (qbl_c k s sg bg NA NU ME BA ct) = true → (qbl_t k s sg bg NA NU ME BA ct).val = some (qbl_v k s sg bg NA NU ME BA ct) := by
  unfold qbl_t qbl_v qbl_c
  exact fun h => (Tr.gb h fun h => rfl)
noncomputable def qbl_S : List Arg → Option (Bool × Res) := fun xs => match xs with
  | [(true, [(.int .i64, TC.i k), (.int .i64, TC.i s), (.bool, TC.b sg), (.bool, TC.b bg), (.slice 9, TC.l NA), (.slice 2, TC.l NU), (.slice 71, TC.l ME), (.slice 32, TC.l BA), (.int .i64, TC.i ct)])] => some ((qbl_c k s sg bg NA NU ME BA ct), qbl_mk (qbl_v k s sg bg NA NU ME BA ct))
  | _ => .none
theorem qbl_e (k s : Int) (sg bg : Bool) (NA NU ME BA : LL) (ct : Int) : runF tab FT D50 live 36 noLoops [(true, [(.int .i64, TC.i k), (.int .i64, TC.i s), (.bool, TC.b sg), (.bool, TC.b bg), (.slice 9, TC.l NA), (.slice 2, TC.l NU), (.slice 71, TC.l ME), (.slice 32, TC.l BA), (.int .i64, TC.i ct)])] = (qbl_t k s sg bg NA NU ME BA ct).run fun p => some (qbl_mk p) := by kernel_rfl
theorem qbl_s : ∀ xs r, qbl_S xs = some (true, r) → runF tab FT D50 live 36 noLoops xs = some r := by
  intro xs r h
  unfold qbl_S at h
  split at h
  · simp only [Option.some.injEq, Prod.mk.injEq] at h
    obtain ⟨h1, rfl⟩ := h
    exact fun_told (qbl_e _ _ _ _ _ _ _ _ _) (qbl_l _ _ _ _ _ _ _ _ _) h1
  · cases h
noncomputable def D51 : Dt := also D50 36 qbl_S
theorem d51 : DOk Go.Proofs.Try.prog tab D51 := d50.also mixed_ok tab_ok names_ok noLoops_ok qbl_s
theorem qbl_cc {k : Int} {s : Int} {sg : Bool} {bg : Bool} {NA : LL} {NU : LL} {ME : LL} {BA : LL} {ct : Int} (h : qx_rc k s sg bg NA NU ME BA ct 3 = true) : (qbl_c k s sg bg NA NU ME BA ct) = true := by
  unfold qbl_c
  refine andT (by exact h) ?_
  rfl
theorem qbl_vv (k s : Int) (sg bg : Bool) (NA NU ME BA : LL) (ct : Int) : qbl_v k s sg bg NA NU ME BA ct = okV k s sg bg NA NU ME BA ct := by
  show (okV k s sg bg NA NU ME BA ct && decide (depthV k ME BA ≤ 3)) = _
  cases h : okV k s sg bg NA NU ME BA ct with
  | false => rfl
  | true => rw [decide_eq_true (okV_top h).2]; rfl
noncomputable def qcf_t (a0 a1 : Int) (a2 a3 : Bool) (a4 a5 a6 a7 : LL) (a8 : Int) : Tr (Bool) := (.ite ((a0 == (1 : Int)) = true) (.ok true)
  (.ok (a0 == (3 : Int))))
def qcf_mk (p : Bool) : Res := [(false, [⟨.bool, .sh, TC.b p⟩])]
noncomputable def qcf_c (a0 a1 : Int) (a2 a3 : Bool) (a4 a5 a6 a7 : LL) (a8 : Int) : Bool := true
noncomputable def qcf_v (a0 a1 : Int) (a2 a3 : Bool) (a4 a5 a6 a7 : LL) (a8 : Int) : Bool := (bif (a0 == (1 : Int)) then true else (a0 == (3 : Int)))
theorem qcf_l (a0 a1 : Int) (a2 a3 : Bool) (a4 a5 a6 a7 : LL) (a8 : Int) : (qcf_c a0 a1 a2 a3 a4 a5 a6 a7 a8) = true → (qcf_t a0 a1 a2 a3 a4 a5 a6 a7 a8).val = some (qcf_v a0 a1 a2 a3 a4 a5 a6 a7 a8) := by
  intro h
  skip
  unfold qcf_t qcf_v
  exact (Tr.s rfl rfl)
noncomputable def qcf_S : List Arg → Option (Bool × Res) := fun xs => match xs with
  | [(true, [(.int .i64, TC.i a0), (.int .i64, TC.i a1), (.bool, TC.b a2), (.bool, TC.b a3), (.slice 9, TC.l a4), (.slice 2, TC.l a5), (.slice 71, TC.l a6), (.slice 32, TC.l a7), (.int .i64, TC.i a8)])] => some (true, qcf_mk (qcf_v a0 a1 a2 a3 a4 a5 a6 a7 a8))
  | _ => .none
theorem qcf_e (a0 a1 : Int) (a2 a3 : Bool) (a4 a5 a6 a7 : LL) (a8 : Int) : runF tab FT D51 live 92 noLoops [(true, [(.int .i64, TC.i a0), (.int .i64, TC.i a1), (.bool, TC.b a2), (.bool, TC.b a3), (.slice 9, TC.l a4), (.slice 2, TC.l a5), (.slice 71, TC.l a6), (.slice 32, TC.l a7), (.int .i64, TC.i a8)])] = (qcf_t a0 a1 a2 a3 a4 a5 a6 a7 a8).run fun p => some (qcf_mk p) := by kernel_rfl
theorem qcf_s : ∀ xs r, qcf_S xs = some (true, r) → runF tab FT D51 live 92 noLoops xs = some r := by
  intro xs r h
  unfold qcf_S at h
  split at h
  · simp only [Option.some.injEq, Prod.mk.injEq] at h
    obtain ⟨h1, rfl⟩ := h
    exact fun_told (qcf_e _ _ _ _ _ _ _ _ _) (qcf_l _ _ _ _ _ _ _ _ _) rfl
  · cases h
noncomputable def D52 : Dt := also D51 92 qcf_S
theorem d52 : DOk Go.Proofs.Try.prog tab D52 := d51.also mixed_ok tab_ok names_ok noLoops_ok qcf_s
section
class qbc_O where n : Nat
variable [i_impl_convertible : qbc_O]
noncomputable def qbc_rc (k s : Int) (sg bg : Bool) (NA NU ME BA : LL) (ct k2 s2 : Int) (sg2 bg2 : Bool) (NA2 NU2 ME2 BA2 : LL) (ct2 : Int) : Bool := is (max (rowsDep ME2) (rowsDep BA2) < qbc_O.n ∧ okV k s sg bg NA NU ME BA ct = true ∧ okV k2 s2 sg2 bg2 NA2 NU2 ME2 BA2 ct2 = true ∧ Typed tab (.slice 71) (.l ME) ∧ Typed tab (.slice 32) (.l BA) ∧ Typed tab (.slice 71) (.l ME2) ∧ Typed tab (.slice 32) (.l BA2))
noncomputable def qbc_rv (k s : Int) (sg bg : Bool) (NA NU ME BA : LL) (ct k2 s2 : Int) (sg2 bg2 : Bool) (NA2 NU2 ME2 BA2 : LL) (ct2 : Int) : Bool := canV k ME BA ct k2 ME2 BA2 ct2
def qbc_rmk (p : Bool) : Res := [(false, [⟨.bool, .sh, TC.b p⟩])]
noncomputable def qbc_rS : List Arg → Option (Bool × Res) := fun xs => match xs with
  | [(true, [(.int .i64, TC.i k), (.int .i64, TC.i s), (.bool, TC.b sg), (.bool, TC.b bg), (.slice 9, TC.l NA), (.slice 2, TC.l NU), (.slice 71, TC.l ME), (.slice 32, TC.l BA), (.int .i64, TC.i ct)]), (true, [(.int .i64, TC.i k2), (.int .i64, TC.i s2), (.bool, TC.b sg2), (.bool, TC.b bg2), (.slice 9, TC.l NA2), (.slice 2, TC.l NU2), (.slice 71, TC.l ME2), (.slice 32, TC.l BA2), (.int .i64, TC.i ct2)])] => some ((qbc_rc k s sg bg NA NU ME BA ct k2 s2 sg2 bg2 NA2 NU2 ME2 BA2 ct2), qbc_rmk (qbc_rv k s sg bg NA NU ME BA ct k2 s2 sg2 bg2 NA2 NU2 ME2 BA2 ct2))
  | _ => .none
noncomputable def D53 : Dt := also D52 51 qbc_rS
class qbc_G : Prop where ok : DOk Go.Proofs.Try.prog tab D53
variable [g_impl_convertible : qbc_G]
theorem d53 : DOk Go.Proofs.Try.prog tab D53 := qbc_G.ok
noncomputable def qca_t (a0 : BS) (a1 a2 a3 : Int) (a4 a5 : Bool) (a6 a7 a8 a9 : LL) (a10 : Int) (a11 : List TC) : Tr (Bool) := .ok (a0 == (nth a11 0).str)
def qca_mk (p : Bool) : Res := [(false, [⟨.bool, .sh, TC.b p⟩])]
noncomputable def qca_c (a0 : BS) (a1 a2 a3 : Int) (a4 a5 : Bool) (a6 a7 a8 a9 : LL) (a10 : Int) (a11 : List TC) : Bool := true
noncomputable def qca_v (a0 : BS) (a1 a2 a3 : Int) (a4 a5 : Bool) (a6 a7 a8 a9 : LL) (a10 : Int) (a11 : List TC) : Bool := (a0 == (nth a11 0).str)
theorem qca_l (a0 : BS) (a1 a2 a3 : Int) (a4 a5 : Bool) (a6 a7 a8 a9 : LL) (a10 : Int) (a11 : List TC) : (qca_c a0 a1 a2 a3 a4 a5 a6 a7 a8 a9 a10 a11) = true → (qca_t a0 a1 a2 a3 a4 a5 a6 a7 a8 a9 a10 a11).val = some (qca_v a0 a1 a2 a3 a4 a5 a6 a7 a8 a9 a10 a11) := by
  intro h
  skip
  unfold qca_t qca_v
  exact rfl
noncomputable def qca_S : List Arg → Option (Bool × Res) := fun xs => match xs with
  | [(true, [(.str, TC.s a0), (.int .i64, TC.i a1), (.int .i64, TC.i a2), (.int .i64, TC.i a3), (.bool, TC.b a4), (.bool, TC.b a5), (.slice 9, TC.l a6), (.slice 2, TC.l a7), (.slice 71, TC.l a8), (.slice 32, TC.l a9), (.int .i64, TC.i a10)]), (false, [(.ptr 9, TC.p a11)])] => some (true, qca_mk (qca_v a0 a1 a2 a3 a4 a5 a6 a7 a8 a9 a10 a11))
  | _ => .none
theorem qca_e (a0 : BS) (a1 a2 a3 : Int) (a4 a5 : Bool) (a6 a7 a8 a9 : LL) (a10 : Int) (a11 : List TC) : runF tab FT D53 live 139 noLoops [(true, [(.str, TC.s a0), (.int .i64, TC.i a1), (.int .i64, TC.i a2), (.int .i64, TC.i a3), (.bool, TC.b a4), (.bool, TC.b a5), (.slice 9, TC.l a6), (.slice 2, TC.l a7), (.slice 71, TC.l a8), (.slice 32, TC.l a9), (.int .i64, TC.i a10)]), (false, [(.ptr 9, TC.p a11)])] = (qca_t a0 a1 a2 a3 a4 a5 a6 a7 a8 a9 a10 a11).run fun p => some (qca_mk p) := by kernel_rfl
theorem qca_s : ∀ xs r, qca_S xs = some (true, r) → runF tab FT D53 live 139 noLoops xs = some r := by
  intro xs r h
  unfold qca_S at h
  split at h
  · simp only [Option.some.injEq, Prod.mk.injEq] at h
    obtain ⟨h1, rfl⟩ := h
    exact fun_told (qca_e _ _ _ _ _ _ _ _ _ _ _ _) (qca_l _ _ _ _ _ _ _ _ _ _ _ _) rfl
  · cases h
noncomputable def D54 : Dt := also D53 139 qca_S
theorem d54 : DOk Go.Proofs.Try.prog tab D54 := d53.also mixed_ok tab_ok names_ok noLoops_ok qca_s
abbrev qa_2_σ := LL × List TC × Int × Int
abbrev qa_2_ω := (Int) ⊕ (Unit)
noncomputable def qa_2_step (A : LL) (cap0 : List TC) (m i : Int) : Tr (qa_2_σ ⊕ qa_2_ω) := (.ite ((decide (i < m)) = true) (.ite ((0 : Int) ≤ i ∧ i < (A.length : Int)) (.ite ((qca_v ((nth (row A i) 0).str) ((nth (row A i) 1).int) ((nth (row A i) 2).int) ((nth (row A i) 3).int) ((nth (row A i) 4).bool) ((nth (row A i) 5).bool) ((nth (row A i) 6).list) ((nth (row A i) 7).list) ((nth (row A i) 8).list) ((nth (row A i) 9).list) ((nth (row A i) 10).int) cap0) = true) (.ok (.inr (.inl i)))
    (.ok (.inl (A, cap0, m, (IntKind.wrap .i64 (i + (1 : Int)))))))
   .no)
  (.ok (.inr (.inr ()))))
noncomputable def qa_2_st : qa_2_σ → Tr (qa_2_σ ⊕ qa_2_ω) := fun x => (qa_2_step (x.1) (x.2.1) (x.2.2.1) (x.2.2.2))
noncomputable def qa_k2_1 (A : LL) (cap0 : List TC) (m i : Int) : Bool := A.all (fun x => !(qca_v ((nth x 0).str) ((nth x 1).int) ((nth x 2).int) ((nth x 3).int) ((nth x 4).bool) ((nth x 5).bool) ((nth x 6).list) ((nth x 7).list) ((nth x 8).list) ((nth x 9).list) ((nth x 10).int) cap0))
noncomputable def qa_o2_2 (A : LL) (cap0 : List TC) (m i : Int) : Bool := is (i = 0 ∧ Typed tab (.slice 71) (.l A) ∧ m = (A.length : Int))
noncomputable def qa_o2_3 (A : LL) (cap0 : List TC) (m i : Int) : Bool := is (i = 0 ∧ Typed tab (.slice 71) (.l A) ∧ m = (A.length : Int))
noncomputable def qa_u2_3 (A : LL) (cap0 : List TC) (m i : Int) : Int := (Int.ofNat (A.findIdx fun x => !(fun x => !(qca_v ((nth x 0).str) ((nth x 1).int) ((nth x 2).int) ((nth x 3).int) ((nth x 4).bool) ((nth x 5).bool) ((nth x 6).list) ((nth x 7).list) ((nth x 8).list) ((nth x 9).list) ((nth x 10).int) cap0)) x))
noncomputable def qa_2_fin (A : LL) (cap0 : List TC) (m i : Int) : Told qa_2_ω := (.br (qa_k2_1 A cap0 m i) (.leaf (qa_o2_2 A cap0 m i) (.inr ())) (.leaf (qa_o2_3 A cap0 m i) (.inl (qa_u2_3 A cap0 m i))))
def qa_2_sl (x : qa_2_σ) : List Slot := [⟨.val false [⟨.slice 71, .sh, TC.l (x.1)⟩], ⟨0, 0⟩⟩, ⟨.val false [⟨.func, .sh, TC.f 139 [(9, x.2.1)]⟩], ⟨0, 0⟩⟩, ⟨.val false [⟨.int .i64, .sh, TC.i (x.2.2.1)⟩], ⟨0, 0⟩⟩, ⟨.val false [⟨.int .i64, .sh, TC.i (x.2.2.2)⟩], ⟨0, 0⟩⟩]
def qa_2_out : qa_2_ω → Ex × List Slot := (Sum.elim (fun x => (.ret, [⟨.val false [⟨.int .i64, .sh, TC.i x⟩], ⟨0, 0⟩⟩])) (fun x => (.exit 0, [Slot.none])))
noncomputable def qa_lo2 : List Slot → Option (Told (Ex × List Slot)) := fun s => match s with
  | [⟨.val false [⟨.slice 71, .sh, TC.l A⟩], ⟨0, 0⟩⟩, ⟨.val false [⟨.func, .sh, TC.f 139 [(9, cap0)]⟩], ⟨0, 0⟩⟩, ⟨.val false [⟨.int .i64, .sh, TC.i m⟩], ⟨0, 0⟩⟩, ⟨.val false [⟨.int .i64, .sh, TC.i i⟩], ⟨0, 0⟩⟩] => some (((qa_2_fin A cap0 m i)).map qa_2_out)
  | _ => .none
noncomputable def qa_lo : LoopTeller := fun r s => bif Nat.beq r 2 then qa_lo2 s else .none
theorem qa_2_r (A : LL) (cap0 : List TC) (m i : Int) (fuel : Nat) : rounds (rnd tab FT D54 live 138 qa_lo 0 2) leave (fuel + 1) (qa_2_sl (A, cap0, m, i)) = ((qa_2_step A cap0 m i)).run (goOn (fun s => rounds (rnd tab FT D54 live 138 qa_lo 0 2) leave fuel (qa_2_sl s)) fun w => some (qa_2_out w)) := by kernel_rfl
theorem qa_2_h (A : LL) (cap0 : List TC) (m i : Int) (ow : qa_2_ω) : ((qa_2_fin A cap0 m i)).val = some ow → ∃ fuel, loopN qa_2_st fuel (A, cap0, m, i) = some ow := by
  intro h
  have key : Typed tab (.slice 71) (.l A) → loopN qa_2_st (A.length + 1) (A, cap0, (A.length : Int), (0 : Int)) = some (if A.all (fun x => !(qca_v ((nth x 0).str) ((nth x 1).int) ((nth x 2).int) ((nth x 3).int) ((nth x 4).bool) ((nth x 5).bool) ((nth x 6).list) ((nth x 7).list) ((nth x 8).list) ((nth x 9).list) ((nth x 10).int) cap0)) = true then (.inr ()) else (.inl (Int.ofNat (A.findIdx fun x => !(fun x => !(qca_v ((nth x 0).str) ((nth x 1).int) ((nth x 2).int) ((nth x 3).int) ((nth x 4).bool) ((nth x 5).bool) ((nth x 6).list) ((nth x 7).list) ((nth x 8).list) ((nth x 9).list) ((nth x 10).int) cap0)) x)))) := by
    intro ht
    have hlen : A.length ≤ 140737488351232 := by have := typed_room ht; simp only [show (tab 71).bytes = 152 from rfl] at this; omega
    have key := loopN_scan (step := qa_2_st) A [] (fun x => !(qca_v ((nth x 0).str) ((nth x 1).int) ((nth x 2).int) ((nth x 3).int) ((nth x 4).bool) ((nth x 5).bool) ((nth x 6).list) ((nth x 7).list) ((nth x 8).list) ((nth x 9).list) ((nth x 10).int) cap0)) (fun a _ => a) (fun i a => (A, cap0, (A.length : Int), (i : Int))) (fun a => (.inr ())) (fun i a => (.inl (i : Int))) (fun i a hi => ?_) (fun a => ?_) A.length 0 () (by omega)
    · first | (rw [Nat.zero_add] at key; exact key) | exact key
    · have c0 : Typed tab (.str) (.s (nth (A.getD i []) 0).str) := typed_s (typed_cell ht (A.getD i []) (mem_getD hi) 0 (by decide))
      have c6 : Typed tab (.slice 9) (.l (nth (A.getD i []) 6).list) := typed_list (typed_cell ht (A.getD i []) (mem_getD hi) 6 (by decide))
      have c7 : Typed tab (.slice 2) (.l (nth (A.getD i []) 7).list) := typed_list (typed_cell ht (A.getD i []) (mem_getD hi) 7 (by decide))
      have c8 : Typed tab (.slice 71) (.l (nth (A.getD i []) 8).list) := typed_list (typed_cell ht (A.getD i []) (mem_getD hi) 8 (by decide))
      have c9 : Typed tab (.slice 32) (.l (nth (A.getD i []) 9).list) := typed_list (typed_cell ht (A.getD i []) (mem_getD hi) 9 (by decide))
      show (qa_2_step A cap0 (A.length : Int) (i : Int)).val = _
      unfold qa_2_step
      refine Tr.t (by simp; omega) ?_
      skip
      refine Tr.t (by first | omega | (constructor <;> omega)) ?_
      refine Tr.b2 (fun hP => ?_) (fun _ => rfl)
      rw [Tr.val_ok, wrap64 (i := (i : Int) + 1) (by omega) (by omega)]; rfl
    · show (qa_2_step A cap0 (A.length : Int) (A.length : Int)).val = _
      refine Tr.n (by simp) ?_
      rfl
  simp only [qa_2_fin, Told.val] at h
  cases hk : A.all (fun x => !(qca_v ((nth x 0).str) ((nth x 1).int) ((nth x 2).int) ((nth x 3).int) ((nth x 4).bool) ((nth x 5).bool) ((nth x 6).list) ((nth x 7).list) ((nth x 8).list) ((nth x 9).list) ((nth x 10).int) cap0)) with
  | true =>
    rw [if_pos (show qa_k2_1 A cap0 m i = true from hk)] at h
    split at h
    · rename_i ho
      obtain ⟨rfl, ht, rfl⟩ := is_iff.1 ho
      cases h
      refine ⟨_, (key ht).trans ?_⟩
      rw [hk]; rfl
    · cases h
  | false =>
    rw [if_neg (show ¬qa_k2_1 A cap0 m i = true from by rw [show qa_k2_1 A cap0 m i = (A.all (fun x => !(qca_v ((nth x 0).str) ((nth x 1).int) ((nth x 2).int) ((nth x 3).int) ((nth x 4).bool) ((nth x 5).bool) ((nth x 6).list) ((nth x 7).list) ((nth x 8).list) ((nth x 9).list) ((nth x 10).int) cap0))) from rfl, hk]; simp)] at h
    split at h
    · rename_i ho
      obtain ⟨rfl, ht, rfl⟩ := is_iff.1 ho
      cases h
      refine ⟨_, (key ht).trans ?_⟩
      rw [hk]; rfl
    · cases h
theorem qa_is2 : LoopIs tab FT D54 live 138 qa_lo 0 2 := by
  refine loop_told (sl := qa_2_sl) (step := qa_2_st) (out := qa_2_out) (lor := qa_lo2) (fin := fun x => (qa_2_fin (x.1) (x.2.1) (x.2.2.1) (x.2.2.2))) (fun _ => rfl) ?_ (fun x n => qa_2_r x.1 x.2.1 x.2.2.1 x.2.2.2 n) (fun x ow => qa_2_h x.1 x.2.1 x.2.2.1 x.2.2.2 ow)
  intro s t h
  unfold qa_lo2 at h
  split at h
  · cases h; exact ⟨(_, _, _, _), rfl, rfl⟩
  · cases h
noncomputable def qa_t (A : LL) (cap0 : List TC) : Tr (Int) := (.ite ((qa_k2_1 A cap0 (A.length : Int) (0 : Int)) = true) (.ite ((qa_o2_2 A cap0 (A.length : Int) (0 : Int)) = true) (.ok (-1 : Int))
   .no)
  (.ite ((qa_o2_3 A cap0 (A.length : Int) (0 : Int)) = true) (.ok (qa_u2_3 A cap0 (A.length : Int) (0 : Int)))
   .no))
def qa_mk (p : Int) : Res := [(false, [⟨.int .i64, .sh, TC.i p⟩])]
noncomputable def qa_c (A : LL) (cap0 : List TC) : Bool := is (Typed tab (.slice 71) (.l A))
noncomputable def qa_v (A : LL) (cap0 : List TC) : Int := if (A.all (fun x => !(qca_v ((nth x 0).str) ((nth x 1).int) ((nth x 2).int) ((nth x 3).int) ((nth x 4).bool) ((nth x 5).bool) ((nth x 6).list) ((nth x 7).list) ((nth x 8).list) ((nth x 9).list) ((nth x 10).int) cap0))) = true then -1 else (Int.ofNat (A.findIdx fun x => !(fun x => !(qca_v ((nth x 0).str) ((nth x 1).int) ((nth x 2).int) ((nth x 3).int) ((nth x 4).bool) ((nth x 5).bool) ((nth x 6).list) ((nth x 7).list) ((nth x 8).list) ((nth x 9).list) ((nth x 10).int) cap0)) x))
theorem qa_l (A : LL) (cap0 : List TC) : (qa_c A cap0) = true → (qa_t A cap0).val = some (qa_v A cap0) := by
  intro h
  have ht := is_iff.1 h
  unfold qa_t
  cases hk : A.all (fun x => !(qca_v ((nth x 0).str) ((nth x 1).int) ((nth x 2).int) ((nth x 3).int) ((nth x 4).bool) ((nth x 5).bool) ((nth x 6).list) ((nth x 7).list) ((nth x 8).list) ((nth x 9).list) ((nth x 10).int) cap0)) with
  | true =>
    refine Tr.t (show A.all (fun x => !(qca_v ((nth x 0).str) ((nth x 1).int) ((nth x 2).int) ((nth x 3).int) ((nth x 4).bool) ((nth x 5).bool) ((nth x 6).list) ((nth x 7).list) ((nth x 8).list) ((nth x 9).list) ((nth x 10).int) cap0)) = true from hk) ?_
    refine Tr.t (by first | (apply is_true; and_intros <;> (first | rfl | assumption | (apply ql_cc <;> assumption) | (apply qbb_cc <;> assumption) | (apply qm_cc <;> assumption) | (apply qq_cc <;> assumption) | (apply qv_cc <;> assumption) | (apply qz_cc <;> assumption) | (apply qr_cc <;> assumption) | (apply qh_cc <;> assumption) | (apply qd_cc <;> assumption) | (apply qbm_cc <;> assumption) | (apply qp_cc <;> assumption) | (apply qbg_cc <;> assumption) | (apply qg_cc <;> assumption) | (apply qy_cc <;> assumption) | (apply qj_cc <;> assumption) | (apply qo_cc <;> assumption) | (apply qe_cc <;> assumption) | (apply qbl_cc <;> assumption) | (first | (apply is_true; and_intros <;> (first | rfl | assumption | (apply ql_cc <;> assumption) | (apply qbb_cc <;> assumption) | (apply qm_cc <;> assumption) | (apply qq_cc <;> assumption) | (apply qv_cc <;> assumption) | (apply qz_cc <;> assumption) | (apply qr_cc <;> assumption) | (apply qh_cc <;> assumption) | (apply qd_cc <;> assumption) | (apply qbm_cc <;> assumption) | (apply qp_cc <;> assumption) | (apply qbg_cc <;> assumption) | (apply qg_cc <;> assumption) | (apply qy_cc <;> assumption) | (apply qj_cc <;> assumption) | (apply qo_cc <;> assumption) | (apply qe_cc <;> assumption) | (apply qbl_cc <;> assumption) | (first | (apply is_true; and_intros <;> (first | rfl | assumption | (apply ql_cc <;> assumption) | (apply qbb_cc <;> assumption) | (apply qm_cc <;> assumption) | (apply qq_cc <;> assumption) | (apply qv_cc <;> assumption) | (apply qz_cc <;> assumption) | (apply qr_cc <;> assumption) | (apply qh_cc <;> assumption) | (apply qd_cc <;> assumption) | (apply qbm_cc <;> assumption) | (apply qp_cc <;> assumption) | (apply qbg_cc <;> assumption) | (apply qg_cc <;> assumption) | (apply qy_cc <;> assumption) | (apply qj_cc <;> assumption) | (apply qo_cc <;> assumption) | (apply qe_cc <;> assumption) | (apply qbl_cc <;> assumption) | (first | (apply is_true; and_intros <;> (first | rfl | assumption | (apply ql_cc <;> assumption) | (apply qbb_cc <;> assumption) | (apply qm_cc <;> assumption) | (apply qq_cc <;> assumption) | (apply qv_cc <;> assumption) | (apply qz_cc <;> assumption) | (apply qr_cc <;> assumption) | (apply qh_cc <;> assumption) | (apply qd_cc <;> assumption) | (apply qbm_cc <;> assumption) | (apply qp_cc <;> assumption) | (apply qbg_cc <;> assumption) | (apply qg_cc <;> assumption) | (apply qy_cc <;> assumption) | (apply qj_cc <;> assumption) | (apply qo_cc <;> assumption) | (apply qe_cc <;> assumption) | (apply qbl_cc <;> assumption))) | (apply ql_cc <;> assumption) | (apply qbb_cc <;> assumption) | (apply qm_cc <;> assumption) | (apply qq_cc <;> assumption) | (apply qv_cc <;> assumption) | (apply qz_cc <;> assumption) | (apply qr_cc <;> assumption) | (apply qh_cc <;> assumption) | (apply qd_cc <;> assumption) | (apply qbm_cc <;> assumption) | (apply qp_cc <;> assumption) | (apply qbg_cc <;> assumption) | (apply qg_cc <;> assumption) | (apply qy_cc <;> assumption) | (apply qj_cc <;> assumption) | (apply qo_cc <;> assumption) | (apply qe_cc <;> assumption) | (apply qbl_cc <;> assumption)))) | (apply ql_cc <;> assumption) | (apply qbb_cc <;> assumption) | (apply qm_cc <;> assumption) | (apply qq_cc <;> assumption) | (apply qv_cc <;> assumption) | (apply qz_cc <;> assumption) | (apply qr_cc <;> assumption) | (apply qh_cc <;> assumption) | (apply qd_cc <;> assumption) | (apply qbm_cc <;> assumption) | (apply qp_cc <;> assumption) | (apply qbg_cc <;> assumption) | (apply qg_cc <;> assumption) | (apply qy_cc <;> assumption) | (apply qj_cc <;> assumption) | (apply qo_cc <;> assumption) | (apply qe_cc <;> assumption) | (apply qbl_cc <;> assumption)))) | (apply ql_cc <;> assumption) | (apply qbb_cc <;> assumption) | (apply qm_cc <;> assumption) | (apply qq_cc <;> assumption) | (apply qv_cc <;> assumption) | (apply qz_cc <;> assumption) | (apply qr_cc <;> assumption) | (apply qh_cc <;> assumption) | (apply qd_cc <;> assumption) | (apply qbm_cc <;> assumption) | (apply qp_cc <;> assumption) | (apply qbg_cc <;> assumption) | (apply qg_cc <;> assumption) | (apply qy_cc <;> assumption) | (apply qj_cc <;> assumption) | (apply qo_cc <;> assumption) | (apply qe_cc <;> assumption) | (apply qbl_cc <;> assumption)))) | (apply ql_cc <;> assumption) | (apply qbb_cc <;> assumption) | (apply qm_cc <;> assumption) | (apply qq_cc <;> assumption) | (apply qv_cc <;> assumption) | (apply qz_cc <;> assumption) | (apply qr_cc <;> assumption) | (apply qh_cc <;> assumption) | (apply qd_cc <;> assumption) | (apply qbm_cc <;> assumption) | (apply qp_cc <;> assumption) | (apply qbg_cc <;> assumption) | (apply qg_cc <;> assumption) | (apply qy_cc <;> assumption) | (apply qj_cc <;> assumption) | (apply qo_cc <;> assumption) | (apply qe_cc <;> assumption) | (apply qbl_cc <;> assumption)) ?_
    show _ = some (qa_v A cap0); unfold qa_v; rw [if_pos hk]; rfl
  | false =>
    refine Tr.n (show ¬A.all (fun x => !(qca_v ((nth x 0).str) ((nth x 1).int) ((nth x 2).int) ((nth x 3).int) ((nth x 4).bool) ((nth x 5).bool) ((nth x 6).list) ((nth x 7).list) ((nth x 8).list) ((nth x 9).list) ((nth x 10).int) cap0)) = true from by rw [hk]; simp) ?_
    refine Tr.t (by first | (apply is_true; and_intros <;> (first | rfl | assumption | (apply ql_cc <;> assumption) | (apply qbb_cc <;> assumption) | (apply qm_cc <;> assumption) | (apply qq_cc <;> assumption) | (apply qv_cc <;> assumption) | (apply qz_cc <;> assumption) | (apply qr_cc <;> assumption) | (apply qh_cc <;> assumption) | (apply qd_cc <;> assumption) | (apply qbm_cc <;> assumption) | (apply qp_cc <;> assumption) | (apply qbg_cc <;> assumption) | (apply qg_cc <;> assumption) | (apply qy_cc <;> assumption) | (apply qj_cc <;> assumption) | (apply qo_cc <;> assumption) | (apply qe_cc <;> assumption) | (apply qbl_cc <;> assumption) | (first | (apply is_true; and_intros <;> (first | rfl | assumption | (apply ql_cc <;> assumption) | (apply qbb_cc <;> assumption) | (apply qm_cc <;> assumption) | (apply qq_cc <;> assumption) | (apply qv_cc <;> assumption) | (apply qz_cc <;> assumption) | (apply qr_cc <;> assumption) | (apply qh_cc <;> assumption) | (apply qd_cc <;> assumption) | (apply qbm_cc <;> assumption) | (apply qp_cc <;> assumption) | (apply qbg_cc <;> assumption) | (apply qg_cc <;> assumption) | (apply qy_cc <;> assumption) | (apply qj_cc <;> assumption) | (apply qo_cc <;> assumption) | (apply qe_cc <;> assumption) | (apply qbl_cc <;> assumption) | (first | (apply is_true; and_intros <;> (first | rfl | assumption | (apply ql_cc <;> assumption) | (apply qbb_cc <;> assumption) | (apply qm_cc <;> assumption) | (apply qq_cc <;> assumption) | (apply qv_cc <;> assumption) | (apply qz_cc <;> assumption) | (apply qr_cc <;> assumption) | (apply qh_cc <;> assumption) | (apply qd_cc <;> assumption) | (apply qbm_cc <;> assumption) | (apply qp_cc <;> assumption) | (apply qbg_cc <;> assumption) | (apply qg_cc <;> assumption) | (apply qy_cc <;> assumption) | (apply qj_cc <;> assumption) | (apply qo_cc <;> assumption) | (apply qe_cc <;> assumption) | (apply qbl_cc <;> assumption) | (first | (apply is_true; and_intros <;> (first | rfl | assumption | (apply ql_cc <;> assumption) | (apply qbb_cc <;> assumption) | (apply qm_cc <;> assumption) | (apply qq_cc <;> assumption) | (apply qv_cc <;> assumption) | (apply qz_cc <;> assumption) | (apply qr_cc <;> assumption) | (apply qh_cc <;> assumption) | (apply qd_cc <;> assumption) | (apply qbm_cc <;> assumption) | (apply qp_cc <;> assumption) | (apply qbg_cc <;> assumption) | (apply qg_cc <;> assumption) | (apply qy_cc <;> assumption) | (apply qj_cc <;> assumption) | (apply qo_cc <;> assumption) | (apply qe_cc <;> assumption) | (apply qbl_cc <;> assumption))) | (apply ql_cc <;> assumption) | (apply qbb_cc <;> assumption) | (apply qm_cc <;> assumption) | (apply qq_cc <;> assumption) | (apply qv_cc <;> assumption) | (apply qz_cc <;> assumption) | (apply qr_cc <;> assumption) | (apply qh_cc <;> assumption) | (apply qd_cc <;> assumption) | (apply qbm_cc <;> assumption) | (apply qp_cc <;> assumption) | (apply qbg_cc <;> assumption) | (apply qg_cc <;> assumption) | (apply qy_cc <;> assumption) | (apply qj_cc <;> assumption) | (apply qo_cc <;> assumption) | (apply qe_cc <;> assumption) | (apply qbl_cc <;> assumption)))) | (apply ql_cc <;> assumption) | (apply qbb_cc <;> assumption) | (apply qm_cc <;> assumption) | (apply qq_cc <;> assumption) | (apply qv_cc <;> assumption) | (apply qz_cc <;> assumption) | (apply qr_cc <;> assumption) | (apply qh_cc <;> assumption) | (apply qd_cc <;> assumption) | (apply qbm_cc <;> assumption) | (apply qp_cc <;> assumption) | (apply qbg_cc <;> assumption) | (apply qg_cc <;> assumption) | (apply qy_cc <;> assumption) | (apply qj_cc <;> assumption) | (apply qo_cc <;> assumption) | (apply qe_cc <;> assumption) | (apply qbl_cc <;> assumption)))) | (apply ql_cc <;> assumption) | (apply qbb_cc <;> assumption) | (apply qm_cc <;> assumption) | (apply qq_cc <;> assumption) | (apply qv_cc <;> assumption) | (apply qz_cc <;> assumption) | (apply qr_cc <;> assumption) | (apply qh_cc <;> assumption) | (apply qd_cc <;> assumption) | (apply qbm_cc <;> assumption) | (apply qp_cc <;> assumption) | (apply qbg_cc <;> assumption) | (apply qg_cc <;> assumption) | (apply qy_cc <;> assumption) | (apply qj_cc <;> assumption) | (apply qo_cc <;> assumption) | (apply qe_cc <;> assumption) | (apply qbl_cc <;> assumption)))) | (apply ql_cc <;> assumption) | (apply qbb_cc <;> assumption) | (apply qm_cc <;> assumption) | (apply qq_cc <;> assumption) | (apply qv_cc <;> assumption) | (apply qz_cc <;> assumption) | (apply qr_cc <;> assumption) | (apply qh_cc <;> assumption) | (apply qd_cc <;> assumption) | (apply qbm_cc <;> assumption) | (apply qp_cc <;> assumption) | (apply qbg_cc <;> assumption) | (apply qg_cc <;> assumption) | (apply qy_cc <;> assumption) | (apply qj_cc <;> assumption) | (apply qo_cc <;> assumption) | (apply qe_cc <;> assumption) | (apply qbl_cc <;> assumption)) ?_
    show _ = some (qa_v A cap0); unfold qa_v; rw [if_neg (by rw [hk]; simp)]; rfl
noncomputable def qa_S : List Arg → Option (Bool × Res) := fun xs => match xs with
  | [(false, [(.slice 71, TC.l A)]), (false, [(.func, TC.f 139 [(9, cap0)])])] => some ((qa_c A cap0), qa_mk (qa_v A cap0))
  | _ => .none
theorem qa_e (A : LL) (cap0 : List TC) : runF tab FT D54 live 138 qa_lo [(false, [(.slice 71, TC.l A)]), (false, [(.func, TC.f 139 [(9, cap0)])])] = (qa_t A cap0).run fun p => some (qa_mk p) := by kernel_rfl
theorem qa_s : ∀ xs r, qa_S xs = some (true, r) → runF tab FT D54 live 138 qa_lo xs = some r := by
  intro xs r h
  unfold qa_S at h
  split at h
  · simp only [Option.some.injEq, Prod.mk.injEq] at h
    obtain ⟨h1, rfl⟩ := h
    exact fun_told (qa_e _ _) (qa_l _ _) h1
  · cases h
noncomputable def D55 : Dt := also D54 138 qa_S
theorem d55 : DOk Go.Proofs.Try.prog tab D55 := d54.also mixed_ok tab_ok names_ok (fnLoops_one (by kernel_rfl) qa_is2) qa_s
noncomputable def qba_t (k s : Int) (sg bg : Bool) (NA NU ME BA : LL) (ct : Int) (nm : BS) : Tr (BS × Int × Int × Int × Bool × Bool × LL × LL × LL × LL × Int × Bool) := (.ite ((qa_c ME [TC.s nm]) = true) (.ite ((decide ((qa_v ME [TC.s nm]) < (0 : Int))) = true) (.ok ([], (0 : Int), (0 : Int), (0 : Int), false, false, [], [], [], [], (0 : Int), false))
   (.ite ((0 : Int) ≤ (qa_v ME [TC.s nm]) ∧ (qa_v ME [TC.s nm]) < (ME.length : Int)) (.ok ((nth (row ME (qa_v ME [TC.s nm])) 0).str, (nth (row ME (qa_v ME [TC.s nm])) 1).int, (nth (row ME (qa_v ME [TC.s nm])) 2).int, (nth (row ME (qa_v ME [TC.s nm])) 3).int, (nth (row ME (qa_v ME [TC.s nm])) 4).bool, (nth (row ME (qa_v ME [TC.s nm])) 5).bool, (nth (row ME (qa_v ME [TC.s nm])) 6).list, (nth (row ME (qa_v ME [TC.s nm])) 7).list, (nth (row ME (qa_v ME [TC.s nm])) 8).list, (nth (row ME (qa_v ME [TC.s nm])) 9).list, (nth (row ME (qa_v ME [TC.s nm])) 10).int, true))
    .no))
  .no)
def qba_mk (p : BS × Int × Int × Int × Bool × Bool × LL × LL × LL × LL × Int × Bool) : Res := [(true, [⟨.str, .sh, TC.s (p.1)⟩, ⟨.int .i64, .sh, TC.i (p.2.1)⟩, ⟨.int .i64, .sh, TC.i (p.2.2.1)⟩, ⟨.int .i64, .sh, TC.i (p.2.2.2.1)⟩, ⟨.bool, .sh, TC.b (p.2.2.2.2.1)⟩, ⟨.bool, .sh, TC.b (p.2.2.2.2.2.1)⟩, ⟨.slice 9, .sh, TC.l (p.2.2.2.2.2.2.1)⟩, ⟨.slice 2, .sh, TC.l (p.2.2.2.2.2.2.2.1)⟩, ⟨.slice 71, .sh, TC.l (p.2.2.2.2.2.2.2.2.1)⟩, ⟨.slice 32, .sh, TC.l (p.2.2.2.2.2.2.2.2.2.1)⟩, ⟨.int .i64, .sh, TC.i (p.2.2.2.2.2.2.2.2.2.2.1)⟩]), (false, [⟨.bool, .sh, TC.b (p.2.2.2.2.2.2.2.2.2.2.2)⟩])]
noncomputable def qba_c (k s : Int) (sg bg : Bool) (NA NU ME BA : LL) (ct : Int) (nm : BS) : Bool := ((qa_c ME [TC.s nm]) && (bif (decide ((qa_v ME [TC.s nm]) < (0 : Int))) then true else (is ((0 : Int) ≤ (qa_v ME [TC.s nm]) ∧ (qa_v ME [TC.s nm]) < (ME.length : Int)) && true)))
noncomputable def qba_v (k s : Int) (sg bg : Bool) (NA NU ME BA : LL) (ct : Int) (nm : BS) : BS × Int × Int × Int × Bool × Bool × LL × LL × LL × LL × Int × Bool := (bif (decide ((qa_v ME [TC.s nm]) < (0 : Int))) then ([], (0 : Int), (0 : Int), (0 : Int), false, false, [], [], [], [], (0 : Int), false) else ((nth (row ME (qa_v ME [TC.s nm])) 0).str, (nth (row ME (qa_v ME [TC.s nm])) 1).int, (nth (row ME (qa_v ME [TC.s nm])) 2).int, (nth (row ME (qa_v ME [TC.s nm])) 3).int, (nth (row ME (qa_v ME [TC.s nm])) 4).bool, (nth (row ME (qa_v ME [TC.s nm])) 5).bool, (nth (row ME (qa_v ME [TC.s nm])) 6).list, (nth (row ME (qa_v ME [TC.s nm])) 7).list, (nth (row ME (qa_v ME [TC.s nm])) 8).list, (nth (row ME (qa_v ME [TC.s nm])) 9).list, (nth (row ME (qa_v ME [TC.s nm])) 10).int, true))
theorem qba_l (k s : Int) (sg bg : Bool) (NA NU ME BA : LL) (ct : Int) (nm : BS) : (qba_c k s sg bg NA NU ME BA ct nm) = true → (qba_t k s sg bg NA NU ME BA ct nm).val = some (qba_v k s sg bg NA NU ME BA ct nm) := by
  unfold qba_t qba_v qba_c
  exact fun h => (Tr.gb h fun h => (Tr.ss h (fun h => rfl) (fun h => (Tr.gs h fun h => rfl))))
noncomputable def qba_S : List Arg → Option (Bool × Res) := fun xs => match xs with
  | [(true, [(.int .i64, TC.i k), (.int .i64, TC.i s), (.bool, TC.b sg), (.bool, TC.b bg), (.slice 9, TC.l NA), (.slice 2, TC.l NU), (.slice 71, TC.l ME), (.slice 32, TC.l BA), (.int .i64, TC.i ct)]), (false, [(.str, TC.s nm)])] => some ((qba_c k s sg bg NA NU ME BA ct nm), qba_mk (qba_v k s sg bg NA NU ME BA ct nm))
  | _ => .none
theorem qba_e (k s : Int) (sg bg : Bool) (NA NU ME BA : LL) (ct : Int) (nm : BS) : runF tab FT D55 live 112 noLoops [(true, [(.int .i64, TC.i k), (.int .i64, TC.i s), (.bool, TC.b sg), (.bool, TC.b bg), (.slice 9, TC.l NA), (.slice 2, TC.l NU), (.slice 71, TC.l ME), (.slice 32, TC.l BA), (.int .i64, TC.i ct)]), (false, [(.str, TC.s nm)])] = (qba_t k s sg bg NA NU ME BA ct nm).run fun p => some (qba_mk p) := by kernel_rfl
theorem qba_s : ∀ xs r, qba_S xs = some (true, r) → runF tab FT D55 live 112 noLoops xs = some r := by
  intro xs r h
  unfold qba_S at h
  split at h
  · simp only [Option.some.injEq, Prod.mk.injEq] at h
    obtain ⟨h1, rfl⟩ := h
    exact fun_told (qba_e _ _ _ _ _ _ _ _ _ _) (qba_l _ _ _ _ _ _ _ _ _ _) h1
  · cases h
noncomputable def D56 : Dt := also D55 112 qba_S
theorem d56 : DOk Go.Proofs.Try.prog tab D56 := d55.also mixed_ok tab_ok names_ok noLoops_ok qba_s
theorem mem_ix {ME : LL} {nm : BS} : qa_v ME [TC.s nm] = bif memNo ME nm then -1 else ((memIx ME nm : Nat) : Int) := by
  show (if memNo ME nm = true then (-1 : Int) else ((memIx ME nm : Nat) : Int)) = _
  cases memNo ME nm <;> rfl
theorem qba_cc {k s : Int} {sg bg : Bool} {NA NU ME BA : LL} {ct : Int} {nm : BS} (tM : Typed tab (.slice 71) (.l ME)) : qba_c k s sg bg NA NU ME BA ct nm = true := by
  unfold qba_c
  rw [mem_ix]
  refine andT (is_true tM) ?_
  cases hm : memNo ME nm with
  | true => rfl
  | false =>
    have := memIx_lt hm
    rw [show (bif false then (-1 : Int) else ((memIx ME nm : Nat) : Int)) = ((memIx ME nm : Nat) : Int) from rfl, decide_eq_false (show ¬ ((memIx ME nm : Nat) : Int) < 0 by omega)]
    exact andT (is_true ⟨by omega, by omega⟩) rfl
theorem member_no {k s : Int} {sg bg : Bool} {NA NU ME BA : LL} {ct : Int} {nm : BS} (h : memNo ME nm = true) : (qba_v k s sg bg NA NU ME BA ct nm).2.2.2.2.2.2.2.2.2.2.2 = false := by
  unfold qba_v
  rw [mem_ix, h]; rfl
theorem member_yes {k s : Int} {sg bg : Bool} {NA NU ME BA : LL} {ct : Int} {nm : BS} (h : memNo ME nm = false) : qba_v k s sg bg NA NU ME BA ct nm = ((nth (row ME ((memIx ME nm : Nat) : Int)) 0).str, (nth (row ME ((memIx ME nm : Nat) : Int)) 1).int, (nth (row ME ((memIx ME nm : Nat) : Int)) 2).int, (nth (row ME ((memIx ME nm : Nat) : Int)) 3).int, (nth (row ME ((memIx ME nm : Nat) : Int)) 4).bool, (nth (row ME ((memIx ME nm : Nat) : Int)) 5).bool, (nth (row ME ((memIx ME nm : Nat) : Int)) 6).list, (nth (row ME ((memIx ME nm : Nat) : Int)) 7).list, (nth (row ME ((memIx ME nm : Nat) : Int)) 8).list, (nth (row ME ((memIx ME nm : Nat) : Int)) 9).list, (nth (row ME ((memIx ME nm : Nat) : Int)) 10).int, true) := by
  unfold qba_v
  rw [mem_ix, h, show (bif false then (-1 : Int) else ((memIx ME nm : Nat) : Int)) = ((memIx ME nm : Nat) : Int) from rfl, decide_eq_false (show ¬ ((memIx ME nm : Nat) : Int) < 0 by omega)]
  rfl
noncomputable def qcc_t (a0 : BS) (a1 a2 a3 : Int) (a4 a5 : Bool) (a6 a7 a8 a9 : LL) (a10 : Int) (a11 : List TC) : Tr (Bool) := (.ite ((qba_c ((nth a11 0).int) ((nth a11 1).int) ((nth a11 2).bool) ((nth a11 3).bool) ((nth a11 4).list) ((nth a11 5).list) ((nth a11 6).list) ((nth a11 7).list) ((nth a11 8).int) a0) = true) (.ite ((qba_v ((nth a11 0).int) ((nth a11 1).int) ((nth a11 2).bool) ((nth a11 3).bool) ((nth a11 4).list) ((nth a11 5).list) ((nth a11 6).list) ((nth a11 7).list) ((nth a11 8).int) a0).2.2.2.2.2.2.2.2.2.2.2 = true) (.ite ((qbc_rc ((qba_v ((nth a11 0).int) ((nth a11 1).int) ((nth a11 2).bool) ((nth a11 3).bool) ((nth a11 4).list) ((nth a11 5).list) ((nth a11 6).list) ((nth a11 7).list) ((nth a11 8).int) a0).2.2.1) ((qba_v ((nth a11 0).int) ((nth a11 1).int) ((nth a11 2).bool) ((nth a11 3).bool) ((nth a11 4).list) ((nth a11 5).list) ((nth a11 6).list) ((nth a11 7).list) ((nth a11 8).int) a0).2.2.2.1) ((qba_v ((nth a11 0).int) ((nth a11 1).int) ((nth a11 2).bool) ((nth a11 3).bool) ((nth a11 4).list) ((nth a11 5).list) ((nth a11 6).list) ((nth a11 7).list) ((nth a11 8).int) a0).2.2.2.2.1) ((qba_v ((nth a11 0).int) ((nth a11 1).int) ((nth a11 2).bool) ((nth a11 3).bool) ((nth a11 4).list) ((nth a11 5).list) ((nth a11 6).list) ((nth a11 7).list) ((nth a11 8).int) a0).2.2.2.2.2.1) ((qba_v ((nth a11 0).int) ((nth a11 1).int) ((nth a11 2).bool) ((nth a11 3).bool) ((nth a11 4).list) ((nth a11 5).list) ((nth a11 6).list) ((nth a11 7).list) ((nth a11 8).int) a0).2.2.2.2.2.2.1) ((qba_v ((nth a11 0).int) ((nth a11 1).int) ((nth a11 2).bool) ((nth a11 3).bool) ((nth a11 4).list) ((nth a11 5).list) ((nth a11 6).list) ((nth a11 7).list) ((nth a11 8).int) a0).2.2.2.2.2.2.2.1) ((qba_v ((nth a11 0).int) ((nth a11 1).int) ((nth a11 2).bool) ((nth a11 3).bool) ((nth a11 4).list) ((nth a11 5).list) ((nth a11 6).list) ((nth a11 7).list) ((nth a11 8).int) a0).2.2.2.2.2.2.2.2.1) ((qba_v ((nth a11 0).int) ((nth a11 1).int) ((nth a11 2).bool) ((nth a11 3).bool) ((nth a11 4).list) ((nth a11 5).list) ((nth a11 6).list) ((nth a11 7).list) ((nth a11 8).int) a0).2.2.2.2.2.2.2.2.2.1) ((qba_v ((nth a11 0).int) ((nth a11 1).int) ((nth a11 2).bool) ((nth a11 3).bool) ((nth a11 4).list) ((nth a11 5).list) ((nth a11 6).list) ((nth a11 7).list) ((nth a11 8).int) a0).2.2.2.2.2.2.2.2.2.2.1) a2 a3 a4 a5 a6 a7 a8 a9 a10) = true) (.ok (!(qbc_rv ((qba_v ((nth a11 0).int) ((nth a11 1).int) ((nth a11 2).bool) ((nth a11 3).bool) ((nth a11 4).list) ((nth a11 5).list) ((nth a11 6).list) ((nth a11 7).list) ((nth a11 8).int) a0).2.2.1) ((qba_v ((nth a11 0).int) ((nth a11 1).int) ((nth a11 2).bool) ((nth a11 3).bool) ((nth a11 4).list) ((nth a11 5).list) ((nth a11 6).list) ((nth a11 7).list) ((nth a11 8).int) a0).2.2.2.1) ((qba_v ((nth a11 0).int) ((nth a11 1).int) ((nth a11 2).bool) ((nth a11 3).bool) ((nth a11 4).list) ((nth a11 5).list) ((nth a11 6).list) ((nth a11 7).list) ((nth a11 8).int) a0).2.2.2.2.1) ((qba_v ((nth a11 0).int) ((nth a11 1).int) ((nth a11 2).bool) ((nth a11 3).bool) ((nth a11 4).list) ((nth a11 5).list) ((nth a11 6).list) ((nth a11 7).list) ((nth a11 8).int) a0).2.2.2.2.2.1) ((qba_v ((nth a11 0).int) ((nth a11 1).int) ((nth a11 2).bool) ((nth a11 3).bool) ((nth a11 4).list) ((nth a11 5).list) ((nth a11 6).list) ((nth a11 7).list) ((nth a11 8).int) a0).2.2.2.2.2.2.1) ((qba_v ((nth a11 0).int) ((nth a11 1).int) ((nth a11 2).bool) ((nth a11 3).bool) ((nth a11 4).list) ((nth a11 5).list) ((nth a11 6).list) ((nth a11 7).list) ((nth a11 8).int) a0).2.2.2.2.2.2.2.1) ((qba_v ((nth a11 0).int) ((nth a11 1).int) ((nth a11 2).bool) ((nth a11 3).bool) ((nth a11 4).list) ((nth a11 5).list) ((nth a11 6).list) ((nth a11 7).list) ((nth a11 8).int) a0).2.2.2.2.2.2.2.2.1) ((qba_v ((nth a11 0).int) ((nth a11 1).int) ((nth a11 2).bool) ((nth a11 3).bool) ((nth a11 4).list) ((nth a11 5).list) ((nth a11 6).list) ((nth a11 7).list) ((nth a11 8).int) a0).2.2.2.2.2.2.2.2.2.1) ((qba_v ((nth a11 0).int) ((nth a11 1).int) ((nth a11 2).bool) ((nth a11 3).bool) ((nth a11 4).list) ((nth a11 5).list) ((nth a11 6).list) ((nth a11 7).list) ((nth a11 8).int) a0).2.2.2.2.2.2.2.2.2.2.1) a2 a3 a4 a5 a6 a7 a8 a9 a10)))
    .no)
   (.ok false))
  .no)
def qcc_mk (p : Bool) : Res := [(false, [⟨.bool, .sh, TC.b p⟩])]
noncomputable def qcc_c (a0 : BS) (a1 a2 a3 : Int) (a4 a5 : Bool) (a6 a7 a8 a9 : LL) (a10 : Int) (a11 : List TC) : Bool := ((qba_c ((nth a11 0).int) ((nth a11 1).int) ((nth a11 2).bool) ((nth a11 3).bool) ((nth a11 4).list) ((nth a11 5).list) ((nth a11 6).list) ((nth a11 7).list) ((nth a11 8).int) a0) && (bif (qba_v ((nth a11 0).int) ((nth a11 1).int) ((nth a11 2).bool) ((nth a11 3).bool) ((nth a11 4).list) ((nth a11 5).list) ((nth a11 6).list) ((nth a11 7).list) ((nth a11 8).int) a0).2.2.2.2.2.2.2.2.2.2.2 then ((qbc_rc ((qba_v ((nth a11 0).int) ((nth a11 1).int) ((nth a11 2).bool) ((nth a11 3).bool) ((nth a11 4).list) ((nth a11 5).list) ((nth a11 6).list) ((nth a11 7).list) ((nth a11 8).int) a0).2.2.1) ((qba_v ((nth a11 0).int) ((nth a11 1).int) ((nth a11 2).bool) ((nth a11 3).bool) ((nth a11 4).list) ((nth a11 5).list) ((nth a11 6).list) ((nth a11 7).list) ((nth a11 8).int) a0).2.2.2.1) ((qba_v ((nth a11 0).int) ((nth a11 1).int) ((nth a11 2).bool) ((nth a11 3).bool) ((nth a11 4).list) ((nth a11 5).list) ((nth a11 6).list) ((nth a11 7).list) ((nth a11 8).int) a0).2.2.2.2.1) ((qba_v ((nth a11 0).int) ((nth a11 1).int) ((nth a11 2).bool) ((nth a11 3).bool) ((nth a11 4).list) ((nth a11 5).list) ((nth a11 6).list) ((nth a11 7).list) ((nth a11 8).int) a0).2.2.2.2.2.1) ((qba_v ((nth a11 0).int) ((nth a11 1).int) ((nth a11 2).bool) ((nth a11 3).bool) ((nth a11 4).list) ((nth a11 5).list) ((nth a11 6).list) ((nth a11 7).list) ((nth a11 8).int) a0).2.2.2.2.2.2.1) ((qba_v ((nth a11 0).int) ((nth a11 1).int) ((nth a11 2).bool) ((nth a11 3).bool) ((nth a11 4).list) ((nth a11 5).list) ((nth a11 6).list) ((nth a11 7).list) ((nth a11 8).int) a0).2.2.2.2.2.2.2.1) ((qba_v ((nth a11 0).int) ((nth a11 1).int) ((nth a11 2).bool) ((nth a11 3).bool) ((nth a11 4).list) ((nth a11 5).list) ((nth a11 6).list) ((nth a11 7).list) ((nth a11 8).int) a0).2.2.2.2.2.2.2.2.1) ((qba_v ((nth a11 0).int) ((nth a11 1).int) ((nth a11 2).bool) ((nth a11 3).bool) ((nth a11 4).list) ((nth a11 5).list) ((nth a11 6).list) ((nth a11 7).list) ((nth a11 8).int) a0).2.2.2.2.2.2.2.2.2.1) ((qba_v ((nth a11 0).int) ((nth a11 1).int) ((nth a11 2).bool) ((nth a11 3).bool) ((nth a11 4).list) ((nth a11 5).list) ((nth a11 6).list) ((nth a11 7).list) ((nth a11 8).int) a0).2.2.2.2.2.2.2.2.2.2.1) a2 a3 a4 a5 a6 a7 a8 a9 a10) && true) else true))
noncomputable def qcc_v (a0 : BS) (a1 a2 a3 : Int) (a4 a5 : Bool) (a6 a7 a8 a9 : LL) (a10 : Int) (a11 : List TC) : Bool := (bif (qba_v ((nth a11 0).int) ((nth a11 1).int) ((nth a11 2).bool) ((nth a11 3).bool) ((nth a11 4).list) ((nth a11 5).list) ((nth a11 6).list) ((nth a11 7).list) ((nth a11 8).int) a0).2.2.2.2.2.2.2.2.2.2.2 then (!(qbc_rv ((qba_v ((nth a11 0).int) ((nth a11 1).int) ((nth a11 2).bool) ((nth a11 3).bool) ((nth a11 4).list) ((nth a11 5).list) ((nth a11 6).list) ((nth a11 7).list) ((nth a11 8).int) a0).2.2.1) ((qba_v ((nth a11 0).int) ((nth a11 1).int) ((nth a11 2).bool) ((nth a11 3).bool) ((nth a11 4).list) ((nth a11 5).list) ((nth a11 6).list) ((nth a11 7).list) ((nth a11 8).int) a0).2.2.2.1) ((qba_v ((nth a11 0).int) ((nth a11 1).int) ((nth a11 2).bool) ((nth a11 3).bool) ((nth a11 4).list) ((nth a11 5).list) ((nth a11 6).list) ((nth a11 7).list) ((nth a11 8).int) a0).2.2.2.2.1) ((qba_v ((nth a11 0).int) ((nth a11 1).int) ((nth a11 2).bool) ((nth a11 3).bool) ((nth a11 4).list) ((nth a11 5).list) ((nth a11 6).list) ((nth a11 7).list) ((nth a11 8).int) a0).2.2.2.2.2.1) ((qba_v ((nth a11 0).int) ((nth a11 1).int) ((nth a11 2).bool) ((nth a11 3).bool) ((nth a11 4).list) ((nth a11 5).list) ((nth a11 6).list) ((nth a11 7).list) ((nth a11 8).int) a0).2.2.2.2.2.2.1) ((qba_v ((nth a11 0).int) ((nth a11 1).int) ((nth a11 2).bool) ((nth a11 3).bool) ((nth a11 4).list) ((nth a11 5).list) ((nth a11 6).list) ((nth a11 7).list) ((nth a11 8).int) a0).2.2.2.2.2.2.2.1) ((qba_v ((nth a11 0).int) ((nth a11 1).int) ((nth a11 2).bool) ((nth a11 3).bool) ((nth a11 4).list) ((nth a11 5).list) ((nth a11 6).list) ((nth a11 7).list) ((nth a11 8).int) a0).2.2.2.2.2.2.2.2.1) ((qba_v ((nth a11 0).int) ((nth a11 1).int) ((nth a11 2).bool) ((nth a11 3).bool) ((nth a11 4).list) ((nth a11 5).list) ((nth a11 6).list) ((nth a11 7).list) ((nth a11 8).int) a0).2.2.2.2.2.2.2.2.2.1) ((qba_v ((nth a11 0).int) ((nth a11 1).int) ((nth a11 2).bool) ((nth a11 3).bool) ((nth a11 4).list) ((nth a11 5).list) ((nth a11 6).list) ((nth a11 7).list) ((nth a11 8).int) a0).2.2.2.2.2.2.2.2.2.2.1) a2 a3 a4 a5 a6 a7 a8 a9 a10)) else false)
theorem qcc_l (a0 : BS) (a1 a2 a3 : Int) (a4 a5 : Bool) (a6 a7 a8 a9 : LL) (a10 : Int) (a11 : List TC) : (qcc_c a0 a1 a2 a3 a4 a5 a6 a7 a8 a9 a10 a11) = true → (qcc_t a0 a1 a2 a3 a4 a5 a6 a7 a8 a9 a10 a11).val = some (qcc_v a0 a1 a2 a3 a4 a5 a6 a7 a8 a9 a10 a11) := by
  unfold qcc_t qcc_v qcc_c
  exact fun h => (Tr.gb h fun h => (Tr.ss h (fun h => (Tr.gb h fun h => rfl)) (fun h => rfl)))
noncomputable def qcc_S : List Arg → Option (Bool × Res) := fun xs => match xs with
  | [(true, [(.str, TC.s a0), (.int .i64, TC.i a1), (.int .i64, TC.i a2), (.int .i64, TC.i a3), (.bool, TC.b a4), (.bool, TC.b a5), (.slice 9, TC.l a6), (.slice 2, TC.l a7), (.slice 71, TC.l a8), (.slice 32, TC.l a9), (.int .i64, TC.i a10)]), (false, [(.ptr 32, TC.p a11)]), (false, [(.ptr 35, TC.p [TC.f 51 []])])] => some ((qcc_c a0 a1 a2 a3 a4 a5 a6 a7 a8 a9 a10 a11), qcc_mk (qcc_v a0 a1 a2 a3 a4 a5 a6 a7 a8 a9 a10 a11))
  | _ => .none
theorem qcc_e (a0 : BS) (a1 a2 a3 : Int) (a4 a5 : Bool) (a6 a7 a8 a9 : LL) (a10 : Int) (a11 : List TC) : runF tab FT D56 live 111 noLoops [(true, [(.str, TC.s a0), (.int .i64, TC.i a1), (.int .i64, TC.i a2), (.int .i64, TC.i a3), (.bool, TC.b a4), (.bool, TC.b a5), (.slice 9, TC.l a6), (.slice 2, TC.l a7), (.slice 71, TC.l a8), (.slice 32, TC.l a9), (.int .i64, TC.i a10)]), (false, [(.ptr 32, TC.p a11)]), (false, [(.ptr 35, TC.p [TC.f 51 []])])] = (qcc_t a0 a1 a2 a3 a4 a5 a6 a7 a8 a9 a10 a11).run fun p => some (qcc_mk p) := by kernel_rfl
theorem qcc_s : ∀ xs r, qcc_S xs = some (true, r) → runF tab FT D56 live 111 noLoops xs = some r := by
  intro xs r h
  unfold qcc_S at h
  split at h
  · simp only [Option.some.injEq, Prod.mk.injEq] at h
    obtain ⟨h1, rfl⟩ := h
    exact fun_told (qcc_e _ _ _ _ _ _ _ _ _ _ _ _) (qcc_l _ _ _ _ _ _ _ _ _ _ _ _) h1
  · cases h
noncomputable def D57 : Dt := also D56 111 qcc_S
theorem d57 : DOk Go.Proofs.Try.prog tab D57 := d56.also mixed_ok tab_ok names_ok noLoops_ok qcc_s
abbrev qf_2_σ := LL × List TC × Int × Int
abbrev qf_2_ω := (Int) ⊕ (Unit)
noncomputable def qf_2_step (A : LL) (cap0 : List TC) (m i : Int) : Tr (qf_2_σ ⊕ qf_2_ω) := (.ite ((decide (i < m)) = true) (.ite ((0 : Int) ≤ i ∧ i < (A.length : Int)) (.ite ((qcc_c ((nth (row A i) 0).str) ((nth (row A i) 1).int) ((nth (row A i) 2).int) ((nth (row A i) 3).int) ((nth (row A i) 4).bool) ((nth (row A i) 5).bool) ((nth (row A i) 6).list) ((nth (row A i) 7).list) ((nth (row A i) 8).list) ((nth (row A i) 9).list) ((nth (row A i) 10).int) cap0) = true) (.ite ((qcc_v ((nth (row A i) 0).str) ((nth (row A i) 1).int) ((nth (row A i) 2).int) ((nth (row A i) 3).int) ((nth (row A i) 4).bool) ((nth (row A i) 5).bool) ((nth (row A i) 6).list) ((nth (row A i) 7).list) ((nth (row A i) 8).list) ((nth (row A i) 9).list) ((nth (row A i) 10).int) cap0) = true) (.ok (.inr (.inl i)))
     (.ok (.inl (A, cap0, m, (IntKind.wrap .i64 (i + (1 : Int)))))))
    .no)
   .no)
  (.ok (.inr (.inr ()))))
noncomputable def qf_2_st : qf_2_σ → Tr (qf_2_σ ⊕ qf_2_ω) := fun x => (qf_2_step (x.1) (x.2.1) (x.2.2.1) (x.2.2.2))
noncomputable def qf_k2_1 (A : LL) (cap0 : List TC) (m i : Int) : Bool := A.all (fun x => !(qcc_v ((nth x 0).str) ((nth x 1).int) ((nth x 2).int) ((nth x 3).int) ((nth x 4).bool) ((nth x 5).bool) ((nth x 6).list) ((nth x 7).list) ((nth x 8).list) ((nth x 9).list) ((nth x 10).int) cap0))
noncomputable def qf_o2_2 (A : LL) (cap0 : List TC) (m i : Int) : Bool := is (i = 0 ∧ (Typed tab (.slice 71) (.l A) ∧ (∀ x : List TC, x ∈ A → (qcc_c ((nth x 0).str) ((nth x 1).int) ((nth x 2).int) ((nth x 3).int) ((nth x 4).bool) ((nth x 5).bool) ((nth x 6).list) ((nth x 7).list) ((nth x 8).list) ((nth x 9).list) ((nth x 10).int) cap0) = true)) ∧ m = (A.length : Int))
noncomputable def qf_o2_3 (A : LL) (cap0 : List TC) (m i : Int) : Bool := is (i = 0 ∧ (Typed tab (.slice 71) (.l A) ∧ (∀ x : List TC, x ∈ A → (qcc_c ((nth x 0).str) ((nth x 1).int) ((nth x 2).int) ((nth x 3).int) ((nth x 4).bool) ((nth x 5).bool) ((nth x 6).list) ((nth x 7).list) ((nth x 8).list) ((nth x 9).list) ((nth x 10).int) cap0) = true)) ∧ m = (A.length : Int))
noncomputable def qf_u2_3 (A : LL) (cap0 : List TC) (m i : Int) : Int := (Int.ofNat (A.findIdx fun x => !(fun x => !(qcc_v ((nth x 0).str) ((nth x 1).int) ((nth x 2).int) ((nth x 3).int) ((nth x 4).bool) ((nth x 5).bool) ((nth x 6).list) ((nth x 7).list) ((nth x 8).list) ((nth x 9).list) ((nth x 10).int) cap0)) x))
noncomputable def qf_2_fin (A : LL) (cap0 : List TC) (m i : Int) : Told qf_2_ω := (.br (qf_k2_1 A cap0 m i) (.leaf (qf_o2_2 A cap0 m i) (.inr ())) (.leaf (qf_o2_3 A cap0 m i) (.inl (qf_u2_3 A cap0 m i))))
def qf_2_sl (x : qf_2_σ) : List Slot := [⟨.val false [⟨.slice 71, .sh, TC.l (x.1)⟩], ⟨0, 0⟩⟩, ⟨.val false [⟨.func, .sh, TC.f 111 [(32, x.2.1), (35, [TC.f 51 []])]⟩], ⟨0, 0⟩⟩, ⟨.val false [⟨.int .i64, .sh, TC.i (x.2.2.1)⟩], ⟨0, 0⟩⟩, ⟨.val false [⟨.int .i64, .sh, TC.i (x.2.2.2)⟩], ⟨0, 0⟩⟩]
def qf_2_out : qf_2_ω → Ex × List Slot := (Sum.elim (fun x => (.ret, [⟨.val false [⟨.int .i64, .sh, TC.i x⟩], ⟨0, 0⟩⟩])) (fun x => (.exit 0, [Slot.none])))
noncomputable def qf_lo2 : List Slot → Option (Told (Ex × List Slot)) := fun s => match s with
  | [⟨.val false [⟨.slice 71, .sh, TC.l A⟩], ⟨0, 0⟩⟩, ⟨.val false [⟨.func, .sh, TC.f 111 [(32, cap0), (35, [TC.f 51 []])]⟩], ⟨0, 0⟩⟩, ⟨.val false [⟨.int .i64, .sh, TC.i m⟩], ⟨0, 0⟩⟩, ⟨.val false [⟨.int .i64, .sh, TC.i i⟩], ⟨0, 0⟩⟩] => some (((qf_2_fin A cap0 m i)).map qf_2_out)
  | _ => .none
noncomputable def qf_lo : LoopTeller := fun r s => bif Nat.beq r 2 then qf_lo2 s else .none
theorem qf_2_r (A : LL) (cap0 : List TC) (m i : Int) (fuel : Nat) : rounds (rnd tab FT D57 live 138 qf_lo 0 2) leave (fuel + 1) (qf_2_sl (A, cap0, m, i)) = ((qf_2_step A cap0 m i)).run (goOn (fun s => rounds (rnd tab FT D57 live 138 qf_lo 0 2) leave fuel (qf_2_sl s)) fun w => some (qf_2_out w)) := by kernel_rfl
theorem qf_2_h (A : LL) (cap0 : List TC) (m i : Int) (ow : qf_2_ω) : ((qf_2_fin A cap0 m i)).val = some ow → ∃ fuel, loopN qf_2_st fuel (A, cap0, m, i) = some ow := by
  intro h
  have key : (Typed tab (.slice 71) (.l A) ∧ (∀ x : List TC, x ∈ A → (qcc_c ((nth x 0).str) ((nth x 1).int) ((nth x 2).int) ((nth x 3).int) ((nth x 4).bool) ((nth x 5).bool) ((nth x 6).list) ((nth x 7).list) ((nth x 8).list) ((nth x 9).list) ((nth x 10).int) cap0) = true)) → loopN qf_2_st (A.length + 1) (A, cap0, (A.length : Int), (0 : Int)) = some (if A.all (fun x => !(qcc_v ((nth x 0).str) ((nth x 1).int) ((nth x 2).int) ((nth x 3).int) ((nth x 4).bool) ((nth x 5).bool) ((nth x 6).list) ((nth x 7).list) ((nth x 8).list) ((nth x 9).list) ((nth x 10).int) cap0)) = true then (.inr ()) else (.inl (Int.ofNat (A.findIdx fun x => !(fun x => !(qcc_v ((nth x 0).str) ((nth x 1).int) ((nth x 2).int) ((nth x 3).int) ((nth x 4).bool) ((nth x 5).bool) ((nth x 6).list) ((nth x 7).list) ((nth x 8).list) ((nth x 9).list) ((nth x 10).int) cap0)) x)))) := by
    intro ht
    obtain ⟨ht, hcl⟩ := ht
    have hlen : A.length ≤ 140737488351232 := by have := typed_room ht; simp only [show (tab 71).bytes = 152 from rfl] at this; omega
    have key := loopN_scan (step := qf_2_st) A [] (fun x => !(qcc_v ((nth x 0).str) ((nth x 1).int) ((nth x 2).int) ((nth x 3).int) ((nth x 4).bool) ((nth x 5).bool) ((nth x 6).list) ((nth x 7).list) ((nth x 8).list) ((nth x 9).list) ((nth x 10).int) cap0)) (fun a _ => a) (fun i a => (A, cap0, (A.length : Int), (i : Int))) (fun a => (.inr ())) (fun i a => (.inl (i : Int))) (fun i a hi => ?_) (fun a => ?_) A.length 0 () (by omega)
    · first | (rw [Nat.zero_add] at key; exact key) | exact key
    · have c0 : Typed tab (.str) (.s (nth (A.getD i []) 0).str) := typed_s (typed_cell ht (A.getD i []) (mem_getD hi) 0 (by decide))
      have c6 : Typed tab (.slice 9) (.l (nth (A.getD i []) 6).list) := typed_list (typed_cell ht (A.getD i []) (mem_getD hi) 6 (by decide))
      have c7 : Typed tab (.slice 2) (.l (nth (A.getD i []) 7).list) := typed_list (typed_cell ht (A.getD i []) (mem_getD hi) 7 (by decide))
      have c8 : Typed tab (.slice 71) (.l (nth (A.getD i []) 8).list) := typed_list (typed_cell ht (A.getD i []) (mem_getD hi) 8 (by decide))
      have c9 : Typed tab (.slice 32) (.l (nth (A.getD i []) 9).list) := typed_list (typed_cell ht (A.getD i []) (mem_getD hi) 9 (by decide))
      show (qf_2_step A cap0 (A.length : Int) (i : Int)).val = _
      unfold qf_2_step
      refine Tr.t (by simp; omega) ?_
      skip
      refine Tr.t (by first | omega | (constructor <;> omega)) ?_
      refine Tr.t (by first | (exact hcl (A.getD i []) (mem_getD hi)) | first | (apply is_true; and_intros <;> (first | rfl | assumption | (apply ql_cc <;> assumption) | (apply qbb_cc <;> assumption) | (apply qm_cc <;> assumption) | (apply qq_cc <;> assumption) | (apply qv_cc <;> assumption) | (apply qz_cc <;> assumption) | (apply qr_cc <;> assumption) | (apply qh_cc <;> assumption) | (apply qd_cc <;> assumption) | (apply qbm_cc <;> assumption) | (apply qp_cc <;> assumption) | (apply qbg_cc <;> assumption) | (apply qg_cc <;> assumption) | (apply qy_cc <;> assumption) | (apply qj_cc <;> assumption) | (apply qo_cc <;> assumption) | (apply qe_cc <;> assumption) | (apply qbl_cc <;> assumption) | (first | (apply is_true; and_intros <;> (first | rfl | assumption | (apply ql_cc <;> assumption) | (apply qbb_cc <;> assumption) | (apply qm_cc <;> assumption) | (apply qq_cc <;> assumption) | (apply qv_cc <;> assumption) | (apply qz_cc <;> assumption) | (apply qr_cc <;> assumption) | (apply qh_cc <;> assumption) | (apply qd_cc <;> assumption) | (apply qbm_cc <;> assumption) | (apply qp_cc <;> assumption) | (apply qbg_cc <;> assumption) | (apply qg_cc <;> assumption) | (apply qy_cc <;> assumption) | (apply qj_cc <;> assumption) | (apply qo_cc <;> assumption) | (apply qe_cc <;> assumption) | (apply qbl_cc <;> assumption) | (first | (apply is_true; and_intros <;> (first | rfl | assumption | (apply ql_cc <;> assumption) | (apply qbb_cc <;> assumption) | (apply qm_cc <;> assumption) | (apply qq_cc <;> assumption) | (apply qv_cc <;> assumption) | (apply qz_cc <;> assumption) | (apply qr_cc <;> assumption) | (apply qh_cc <;> assumption) | (apply qd_cc <;> assumption) | (apply qbm_cc <;> assumption) | (apply qp_cc <;> assumption) | (apply qbg_cc <;> assumption) | (apply qg_cc <;> assumption) | (apply qy_cc <;> assumption) | (apply qj_cc <;> assumption) | (apply qo_cc <;> assumption) | (apply qe_cc <;> assumption) | (apply qbl_cc <;> assumption) | (first | (apply is_true; and_intros <;> (first | rfl | assumption | (apply ql_cc <;> assumption) | (apply qbb_cc <;> assumption) | (apply qm_cc <;> assumption) | (apply qq_cc <;> assumption) | (apply qv_cc <;> assumption) | (apply qz_cc <;> assumption) | (apply qr_cc <;> assumption) | (apply qh_cc <;> assumption) | (apply qd_cc <;> assumption) | (apply qbm_cc <;> assumption) | (apply qp_cc <;> assumption) | (apply qbg_cc <;> assumption) | (apply qg_cc <;> assumption) | (apply qy_cc <;> assumption) | (apply qj_cc <;> assumption) | (apply qo_cc <;> assumption) | (apply qe_cc <;> assumption) | (apply qbl_cc <;> assumption))) | (apply ql_cc <;> assumption) | (apply qbb_cc <;> assumption) | (apply qm_cc <;> assumption) | (apply qq_cc <;> assumption) | (apply qv_cc <;> assumption) | (apply qz_cc <;> assumption) | (apply qr_cc <;> assumption) | (apply qh_cc <;> assumption) | (apply qd_cc <;> assumption) | (apply qbm_cc <;> assumption) | (apply qp_cc <;> assumption) | (apply qbg_cc <;> assumption) | (apply qg_cc <;> assumption) | (apply qy_cc <;> assumption) | (apply qj_cc <;> assumption) | (apply qo_cc <;> assumption) | (apply qe_cc <;> assumption) | (apply qbl_cc <;> assumption)))) | (apply ql_cc <;> assumption) | (apply qbb_cc <;> assumption) | (apply qm_cc <;> assumption) | (apply qq_cc <;> assumption) | (apply qv_cc <;> assumption) | (apply qz_cc <;> assumption) | (apply qr_cc <;> assumption) | (apply qh_cc <;> assumption) | (apply qd_cc <;> assumption) | (apply qbm_cc <;> assumption) | (apply qp_cc <;> assumption) | (apply qbg_cc <;> assumption) | (apply qg_cc <;> assumption) | (apply qy_cc <;> assumption) | (apply qj_cc <;> assumption) | (apply qo_cc <;> assumption) | (apply qe_cc <;> assumption) | (apply qbl_cc <;> assumption)))) | (apply ql_cc <;> assumption) | (apply qbb_cc <;> assumption) | (apply qm_cc <;> assumption) | (apply qq_cc <;> assumption) | (apply qv_cc <;> assumption) | (apply qz_cc <;> assumption) | (apply qr_cc <;> assumption) | (apply qh_cc <;> assumption) | (apply qd_cc <;> assumption) | (apply qbm_cc <;> assumption) | (apply qp_cc <;> assumption) | (apply qbg_cc <;> assumption) | (apply qg_cc <;> assumption) | (apply qy_cc <;> assumption) | (apply qj_cc <;> assumption) | (apply qo_cc <;> assumption) | (apply qe_cc <;> assumption) | (apply qbl_cc <;> assumption)))) | (apply ql_cc <;> assumption) | (apply qbb_cc <;> assumption) | (apply qm_cc <;> assumption) | (apply qq_cc <;> assumption) | (apply qv_cc <;> assumption) | (apply qz_cc <;> assumption) | (apply qr_cc <;> assumption) | (apply qh_cc <;> assumption) | (apply qd_cc <;> assumption) | (apply qbm_cc <;> assumption) | (apply qp_cc <;> assumption) | (apply qbg_cc <;> assumption) | (apply qg_cc <;> assumption) | (apply qy_cc <;> assumption) | (apply qj_cc <;> assumption) | (apply qo_cc <;> assumption) | (apply qe_cc <;> assumption) | (apply qbl_cc <;> assumption)) ?_
      refine Tr.b2 (fun hP => ?_) (fun _ => rfl)
      rw [Tr.val_ok, wrap64 (i := (i : Int) + 1) (by omega) (by omega)]; rfl
    · show (qf_2_step A cap0 (A.length : Int) (A.length : Int)).val = _
      refine Tr.n (by simp) ?_
      rfl
  simp only [qf_2_fin, Told.val] at h
  cases hk : A.all (fun x => !(qcc_v ((nth x 0).str) ((nth x 1).int) ((nth x 2).int) ((nth x 3).int) ((nth x 4).bool) ((nth x 5).bool) ((nth x 6).list) ((nth x 7).list) ((nth x 8).list) ((nth x 9).list) ((nth x 10).int) cap0)) with
  | true =>
    rw [if_pos (show qf_k2_1 A cap0 m i = true from hk)] at h
    split at h
    · rename_i ho
      obtain ⟨rfl, ht, rfl⟩ := is_iff.1 ho
      cases h
      refine ⟨_, (key ht).trans ?_⟩
      rw [hk]; rfl
    · cases h
  | false =>
    rw [if_neg (show ¬qf_k2_1 A cap0 m i = true from by rw [show qf_k2_1 A cap0 m i = (A.all (fun x => !(qcc_v ((nth x 0).str) ((nth x 1).int) ((nth x 2).int) ((nth x 3).int) ((nth x 4).bool) ((nth x 5).bool) ((nth x 6).list) ((nth x 7).list) ((nth x 8).list) ((nth x 9).list) ((nth x 10).int) cap0))) from rfl, hk]; simp)] at h
    split at h
    · rename_i ho
      obtain ⟨rfl, ht, rfl⟩ := is_iff.1 ho
      cases h
      refine ⟨_, (key ht).trans ?_⟩
      rw [hk]; rfl
    · cases h
theorem qf_is2 : LoopIs tab FT D57 live 138 qf_lo 0 2 := by
  refine loop_told (sl := qf_2_sl) (step := qf_2_st) (out := qf_2_out) (lor := qf_lo2) (fin := fun x => (qf_2_fin (x.1) (x.2.1) (x.2.2.1) (x.2.2.2))) (fun _ => rfl) ?_ (fun x n => qf_2_r x.1 x.2.1 x.2.2.1 x.2.2.2 n) (fun x ow => qf_2_h x.1 x.2.1 x.2.2.1 x.2.2.2 ow)
  intro s t h
  unfold qf_lo2 at h
  split at h
  · cases h; exact ⟨(_, _, _, _), rfl, rfl⟩
  · cases h
noncomputable def qf_t (A : LL) (cap0 : List TC) : Tr (Int) := (.ite ((qf_k2_1 A cap0 (A.length : Int) (0 : Int)) = true) (.ite ((qf_o2_2 A cap0 (A.length : Int) (0 : Int)) = true) (.ok (-1 : Int))
   .no)
  (.ite ((qf_o2_3 A cap0 (A.length : Int) (0 : Int)) = true) (.ok (qf_u2_3 A cap0 (A.length : Int) (0 : Int)))
   .no))
def qf_mk (p : Int) : Res := [(false, [⟨.int .i64, .sh, TC.i p⟩])]
noncomputable def qf_c (A : LL) (cap0 : List TC) : Bool := is ((Typed tab (.slice 71) (.l A) ∧ (∀ x : List TC, x ∈ A → (qcc_c ((nth x 0).str) ((nth x 1).int) ((nth x 2).int) ((nth x 3).int) ((nth x 4).bool) ((nth x 5).bool) ((nth x 6).list) ((nth x 7).list) ((nth x 8).list) ((nth x 9).list) ((nth x 10).int) cap0) = true)))
noncomputable def qf_v (A : LL) (cap0 : List TC) : Int := if (A.all (fun x => !(qcc_v ((nth x 0).str) ((nth x 1).int) ((nth x 2).int) ((nth x 3).int) ((nth x 4).bool) ((nth x 5).bool) ((nth x 6).list) ((nth x 7).list) ((nth x 8).list) ((nth x 9).list) ((nth x 10).int) cap0))) = true then -1 else (Int.ofNat (A.findIdx fun x => !(fun x => !(qcc_v ((nth x 0).str) ((nth x 1).int) ((nth x 2).int) ((nth x 3).int) ((nth x 4).bool) ((nth x 5).bool) ((nth x 6).list) ((nth x 7).list) ((nth x 8).list) ((nth x 9).list) ((nth x 10).int) cap0)) x))
theorem qf_l (A : LL) (cap0 : List TC) : (qf_c A cap0) = true → (qf_t A cap0).val = some (qf_v A cap0) := by
  intro h
  have ht := is_iff.1 h; obtain ⟨ht2, hcl⟩ := ht
  unfold qf_t
  cases hk : A.all (fun x => !(qcc_v ((nth x 0).str) ((nth x 1).int) ((nth x 2).int) ((nth x 3).int) ((nth x 4).bool) ((nth x 5).bool) ((nth x 6).list) ((nth x 7).list) ((nth x 8).list) ((nth x 9).list) ((nth x 10).int) cap0)) with
  | true =>
    refine Tr.t (show A.all (fun x => !(qcc_v ((nth x 0).str) ((nth x 1).int) ((nth x 2).int) ((nth x 3).int) ((nth x 4).bool) ((nth x 5).bool) ((nth x 6).list) ((nth x 7).list) ((nth x 8).list) ((nth x 9).list) ((nth x 10).int) cap0)) = true from hk) ?_
    refine Tr.t (by first | (apply is_true; and_intros <;> (first | rfl | assumption | (apply ql_cc <;> assumption) | (apply qbb_cc <;> assumption) | (apply qm_cc <;> assumption) | (apply qq_cc <;> assumption) | (apply qv_cc <;> assumption) | (apply qz_cc <;> assumption) | (apply qr_cc <;> assumption) | (apply qh_cc <;> assumption) | (apply qd_cc <;> assumption) | (apply qbm_cc <;> assumption) | (apply qp_cc <;> assumption) | (apply qbg_cc <;> assumption) | (apply qg_cc <;> assumption) | (apply qy_cc <;> assumption) | (apply qj_cc <;> assumption) | (apply qo_cc <;> assumption) | (apply qe_cc <;> assumption) | (apply qbl_cc <;> assumption) | (first | (apply is_true; and_intros <;> (first | rfl | assumption | (apply ql_cc <;> assumption) | (apply qbb_cc <;> assumption) | (apply qm_cc <;> assumption) | (apply qq_cc <;> assumption) | (apply qv_cc <;> assumption) | (apply qz_cc <;> assumption) | (apply qr_cc <;> assumption) | (apply qh_cc <;> assumption) | (apply qd_cc <;> assumption) | (apply qbm_cc <;> assumption) | (apply qp_cc <;> assumption) | (apply qbg_cc <;> assumption) | (apply qg_cc <;> assumption) | (apply qy_cc <;> assumption) | (apply qj_cc <;> assumption) | (apply qo_cc <;> assumption) | (apply qe_cc <;> assumption) | (apply qbl_cc <;> assumption) | (first | (apply is_true; and_intros <;> (first | rfl | assumption | (apply ql_cc <;> assumption) | (apply qbb_cc <;> assumption) | (apply qm_cc <;> assumption) | (apply qq_cc <;> assumption) | (apply qv_cc <;> assumption) | (apply qz_cc <;> assumption) | (apply qr_cc <;> assumption) | (apply qh_cc <;> assumption) | (apply qd_cc <;> assumption) | (apply qbm_cc <;> assumption) | (apply qp_cc <;> assumption) | (apply qbg_cc <;> assumption) | (apply qg_cc <;> assumption) | (apply qy_cc <;> assumption) | (apply qj_cc <;> assumption) | (apply qo_cc <;> assumption) | (apply qe_cc <;> assumption) | (apply qbl_cc <;> assumption) | (first | (apply is_true; and_intros <;> (first | rfl | assumption | (apply ql_cc <;> assumption) | (apply qbb_cc <;> assumption) | (apply qm_cc <;> assumption) | (apply qq_cc <;> assumption) | (apply qv_cc <;> assumption) | (apply qz_cc <;> assumption) | (apply qr_cc <;> assumption) | (apply qh_cc <;> assumption) | (apply qd_cc <;> assumption) | (apply qbm_cc <;> assumption) | (apply qp_cc <;> assumption) | (apply qbg_cc <;> assumption) | (apply qg_cc <;> assumption) | (apply qy_cc <;> assumption) | (apply qj_cc <;> assumption) | (apply qo_cc <;> assumption) | (apply qe_cc <;> assumption) | (apply qbl_cc <;> assumption))) | (apply ql_cc <;> assumption) | (apply qbb_cc <;> assumption) | (apply qm_cc <;> assumption) | (apply qq_cc <;> assumption) | (apply qv_cc <;> assumption) | (apply qz_cc <;> assumption) | (apply qr_cc <;> assumption) | (apply qh_cc <;> assumption) | (apply qd_cc <;> assumption) | (apply qbm_cc <;> assumption) | (apply qp_cc <;> assumption) | (apply qbg_cc <;> assumption) | (apply qg_cc <;> assumption) | (apply qy_cc <;> assumption) | (apply qj_cc <;> assumption) | (apply qo_cc <;> assumption) | (apply qe_cc <;> assumption) | (apply qbl_cc <;> assumption)))) | (apply ql_cc <;> assumption) | (apply qbb_cc <;> assumption) | (apply qm_cc <;> assumption) | (apply qq_cc <;> assumption) | (apply qv_cc <;> assumption) | (apply qz_cc <;> assumption) | (apply qr_cc <;> assumption) | (apply qh_cc <;> assumption) | (apply qd_cc <;> assumption) | (apply qbm_cc <;> assumption) | (apply qp_cc <;> assumption) | (apply qbg_cc <;> assumption) | (apply qg_cc <;> assumption) | (apply qy_cc <;> assumption) | (apply qj_cc <;> assumption) | (apply qo_cc <;> assumption) | (apply qe_cc <;> assumption) | (apply qbl_cc <;> assumption)))) | (apply ql_cc <;> assumption) | (apply qbb_cc <;> assumption) | (apply qm_cc <;> assumption) | (apply qq_cc <;> assumption) | (apply qv_cc <;> assumption) | (apply qz_cc <;> assumption) | (apply qr_cc <;> assumption) | (apply qh_cc <;> assumption) | (apply qd_cc <;> assumption) | (apply qbm_cc <;> assumption) | (apply qp_cc <;> assumption) | (apply qbg_cc <;> assumption) | (apply qg_cc <;> assumption) | (apply qy_cc <;> assumption) | (apply qj_cc <;> assumption) | (apply qo_cc <;> assumption) | (apply qe_cc <;> assumption) | (apply qbl_cc <;> assumption)))) | (apply ql_cc <;> assumption) | (apply qbb_cc <;> assumption) | (apply qm_cc <;> assumption) | (apply qq_cc <;> assumption) | (apply qv_cc <;> assumption) | (apply qz_cc <;> assumption) | (apply qr_cc <;> assumption) | (apply qh_cc <;> assumption) | (apply qd_cc <;> assumption) | (apply qbm_cc <;> assumption) | (apply qp_cc <;> assumption) | (apply qbg_cc <;> assumption) | (apply qg_cc <;> assumption) | (apply qy_cc <;> assumption) | (apply qj_cc <;> assumption) | (apply qo_cc <;> assumption) | (apply qe_cc <;> assumption) | (apply qbl_cc <;> assumption)) ?_
    show _ = some (qf_v A cap0); unfold qf_v; rw [if_pos hk]; rfl
  | false =>
    refine Tr.n (show ¬A.all (fun x => !(qcc_v ((nth x 0).str) ((nth x 1).int) ((nth x 2).int) ((nth x 3).int) ((nth x 4).bool) ((nth x 5).bool) ((nth x 6).list) ((nth x 7).list) ((nth x 8).list) ((nth x 9).list) ((nth x 10).int) cap0)) = true from by rw [hk]; simp) ?_
    refine Tr.t (by first | (apply is_true; and_intros <;> (first | rfl | assumption | (apply ql_cc <;> assumption) | (apply qbb_cc <;> assumption) | (apply qm_cc <;> assumption) | (apply qq_cc <;> assumption) | (apply qv_cc <;> assumption) | (apply qz_cc <;> assumption) | (apply qr_cc <;> assumption) | (apply qh_cc <;> assumption) | (apply qd_cc <;> assumption) | (apply qbm_cc <;> assumption) | (apply qp_cc <;> assumption) | (apply qbg_cc <;> assumption) | (apply qg_cc <;> assumption) | (apply qy_cc <;> assumption) | (apply qj_cc <;> assumption) | (apply qo_cc <;> assumption) | (apply qe_cc <;> assumption) | (apply qbl_cc <;> assumption) | (first | (apply is_true; and_intros <;> (first | rfl | assumption | (apply ql_cc <;> assumption) | (apply qbb_cc <;> assumption) | (apply qm_cc <;> assumption) | (apply qq_cc <;> assumption) | (apply qv_cc <;> assumption) | (apply qz_cc <;> assumption) | (apply qr_cc <;> assumption) | (apply qh_cc <;> assumption) | (apply qd_cc <;> assumption) | (apply qbm_cc <;> assumption) | (apply qp_cc <;> assumption) | (apply qbg_cc <;> assumption) | (apply qg_cc <;> assumption) | (apply qy_cc <;> assumption) | (apply qj_cc <;> assumption) | (apply qo_cc <;> assumption) | (apply qe_cc <;> assumption) | (apply qbl_cc <;> assumption) | (first | (apply is_true; and_intros <;> (first | rfl | assumption | (apply ql_cc <;> assumption) | (apply qbb_cc <;> assumption) | (apply qm_cc <;> assumption) | (apply qq_cc <;> assumption) | (apply qv_cc <;> assumption) | (apply qz_cc <;> assumption) | (apply qr_cc <;> assumption) | (apply qh_cc <;> assumption) | (apply qd_cc <;> assumption) | (apply qbm_cc <;> assumption) | (apply qp_cc <;> assumption) | (apply qbg_cc <;> assumption) | (apply qg_cc <;> assumption) | (apply qy_cc <;> assumption) | (apply qj_cc <;> assumption) | (apply qo_cc <;> assumption) | (apply qe_cc <;> assumption) | (apply qbl_cc <;> assumption) | (first | (apply is_true; and_intros <;> (first | rfl | assumption | (apply ql_cc <;> assumption) | (apply qbb_cc <;> assumption) | (apply qm_cc <;> assumption) | (apply qq_cc <;> assumption) | (apply qv_cc <;> assumption) | (apply qz_cc <;> assumption) | (apply qr_cc <;> assumption) | (apply qh_cc <;> assumption) | (apply qd_cc <;> assumption) | (apply qbm_cc <;> assumption) | (apply qp_cc <;> assumption) | (apply qbg_cc <;> assumption) | (apply qg_cc <;> assumption) | (apply qy_cc <;> assumption) | (apply qj_cc <;> assumption) | (apply qo_cc <;> assumption) | (apply qe_cc <;> assumption) | (apply qbl_cc <;> assumption))) | (apply ql_cc <;> assumption) | (apply qbb_cc <;> assumption) | (apply qm_cc <;> assumption) | (apply qq_cc <;> assumption) | (apply qv_cc <;> assumption) | (apply qz_cc <;> assumption) | (apply qr_cc <;> assumption) | (apply qh_cc <;> assumption) | (apply qd_cc <;> assumption) | (apply qbm_cc <;> assumption) | (apply qp_cc <;> assumption) | (apply qbg_cc <;> assumption) | (apply qg_cc <;> assumption) | (apply qy_cc <;> assumption) | (apply qj_cc <;> assumption) | (apply qo_cc <;> assumption) | (apply qe_cc <;> assumption) | (apply qbl_cc <;> assumption)))) | (apply ql_cc <;> assumption) | (apply qbb_cc <;> assumption) | (apply qm_cc <;> assumption) | (apply qq_cc <;> assumption) | (apply qv_cc <;> assumption) | (apply qz_cc <;> assumption) | (apply qr_cc <;> assumption) | (apply qh_cc <;> assumption) | (apply qd_cc <;> assumption) | (apply qbm_cc <;> assumption) | (apply qp_cc <;> assumption) | (apply qbg_cc <;> assumption) | (apply qg_cc <;> assumption) | (apply qy_cc <;> assumption) | (apply qj_cc <;> assumption) | (apply qo_cc <;> assumption) | (apply qe_cc <;> assumption) | (apply qbl_cc <;> assumption)))) | (apply ql_cc <;> assumption) | (apply qbb_cc <;> assumption) | (apply qm_cc <;> assumption) | (apply qq_cc <;> assumption) | (apply qv_cc <;> assumption) | (apply qz_cc <;> assumption) | (apply qr_cc <;> assumption) | (apply qh_cc <;> assumption) | (apply qd_cc <;> assumption) | (apply qbm_cc <;> assumption) | (apply qp_cc <;> assumption) | (apply qbg_cc <;> assumption) | (apply qg_cc <;> assumption) | (apply qy_cc <;> assumption) | (apply qj_cc <;> assumption) | (apply qo_cc <;> assumption) | (apply qe_cc <;> assumption) | (apply qbl_cc <;> assumption)))) | (apply ql_cc <;> assumption) | (apply qbb_cc <;> assumption) | (apply qm_cc <;> assumption) | (apply qq_cc <;> assumption) | (apply qv_cc <;> assumption) | (apply qz_cc <;> assumption) | (apply qr_cc <;> assumption) | (apply qh_cc <;> assumption) | (apply qd_cc <;> assumption) | (apply qbm_cc <;> assumption) | (apply qp_cc <;> assumption) | (apply qbg_cc <;> assumption) | (apply qg_cc <;> assumption) | (apply qy_cc <;> assumption) | (apply qj_cc <;> assumption) | (apply qo_cc <;> assumption) | (apply qe_cc <;> assumption) | (apply qbl_cc <;> assumption)) ?_
    show _ = some (qf_v A cap0); unfold qf_v; rw [if_neg (by rw [hk]; simp)]; rfl
noncomputable def qf_S : List Arg → Option (Bool × Res) := fun xs => match xs with
  | [(false, [(.slice 71, TC.l A)]), (false, [(.func, TC.f 111 [(32, cap0), (35, [TC.f 51 []])])])] => some ((qf_c A cap0), qf_mk (qf_v A cap0))
  | _ => .none
theorem qf_e (A : LL) (cap0 : List TC) : runF tab FT D57 live 138 qf_lo [(false, [(.slice 71, TC.l A)]), (false, [(.func, TC.f 111 [(32, cap0), (35, [TC.f 51 []])])])] = (qf_t A cap0).run fun p => some (qf_mk p) := by kernel_rfl
theorem qf_s : ∀ xs r, qf_S xs = some (true, r) → runF tab FT D57 live 138 qf_lo xs = some r := by
  intro xs r h
  unfold qf_S at h
  split at h
  · simp only [Option.some.injEq, Prod.mk.injEq] at h
    obtain ⟨h1, rfl⟩ := h
    exact fun_told (qf_e _ _) (qf_l _ _) h1
  · cases h
noncomputable def D58 : Dt := also D57 138 qf_S
theorem d58 : DOk Go.Proofs.Try.prog tab D58 := d57.also mixed_ok tab_ok names_ok (fnLoops_one (by kernel_rfl) qf_is2) qf_s
noncomputable def qbe_t (A : LL) (cap0 : List TC) : Tr (Bool) := (.ite ((qf_c A cap0) = true) (.ok (decide ((qf_v A cap0) ≥ (0 : Int))))
  .no)
def qbe_mk (p : Bool) : Res := [(false, [⟨.bool, .sh, TC.b p⟩])]
noncomputable def qbe_c (A : LL) (cap0 : List TC) : Bool := is (Typed tab (.slice 71) (.l A) ∧ (∀ x : List TC, x ∈ A → (qcc_c ((nth x 0).str) ((nth x 1).int) ((nth x 2).int) ((nth x 3).int) ((nth x 4).bool) ((nth x 5).bool) ((nth x 6).list) ((nth x 7).list) ((nth x 8).list) ((nth x 9).list) ((nth x 10).int) cap0) = true))
noncomputable def qbe_v (A : LL) (cap0 : List TC) : Bool := !(A.all (fun x => !(qcc_v ((nth x 0).str) ((nth x 1).int) ((nth x 2).int) ((nth x 3).int) ((nth x 4).bool) ((nth x 5).bool) ((nth x 6).list) ((nth x 7).list) ((nth x 8).list) ((nth x 9).list) ((nth x 10).int) cap0)))
theorem qbe_l (A : LL) (cap0 : List TC) : (qbe_c A cap0) = true → (qbe_t A cap0).val = some (qbe_v A cap0) := by
  intro h
  have ht := is_iff.1 h
  unfold qbe_t
  refine Tr.t (is_true ht) ?_
  show some (decide (qf_v A cap0 ≥ 0)) = some (!(A.all (fun x => !(qcc_v ((nth x 0).str) ((nth x 1).int) ((nth x 2).int) ((nth x 3).int) ((nth x 4).bool) ((nth x 5).bool) ((nth x 6).list) ((nth x 7).list) ((nth x 8).list) ((nth x 9).list) ((nth x 10).int) cap0))))
  unfold qf_v
  cases hk : A.all (fun x => !(qcc_v ((nth x 0).str) ((nth x 1).int) ((nth x 2).int) ((nth x 3).int) ((nth x 4).bool) ((nth x 5).bool) ((nth x 6).list) ((nth x 7).list) ((nth x 8).list) ((nth x 9).list) ((nth x 10).int) cap0)) <;> simp
noncomputable def qbe_S : List Arg → Option (Bool × Res) := fun xs => match xs with
  | [(false, [(.slice 71, TC.l A)]), (false, [(.func, TC.f 111 [(32, cap0), (35, [TC.f 51 []])])])] => some ((qbe_c A cap0), qbe_mk (qbe_v A cap0))
  | _ => .none
theorem qbe_e (A : LL) (cap0 : List TC) : runF tab FT D58 live 110 noLoops [(false, [(.slice 71, TC.l A)]), (false, [(.func, TC.f 111 [(32, cap0), (35, [TC.f 51 []])])])] = (qbe_t A cap0).run fun p => some (qbe_mk p) := by kernel_rfl
theorem qbe_s : ∀ xs r, qbe_S xs = some (true, r) → runF tab FT D58 live 110 noLoops xs = some r := by
  intro xs r h
  unfold qbe_S at h
  split at h
  · simp only [Option.some.injEq, Prod.mk.injEq] at h
    obtain ⟨h1, rfl⟩ := h
    exact fun_told (qbe_e _ _) (qbe_l _ _) h1
  · cases h
noncomputable def D59 : Dt := also D58 110 qbe_S
theorem d59 : DOk Go.Proofs.Try.prog tab D59 := d58.also mixed_ok tab_ok names_ok noLoops_ok qbe_s
noncomputable def qbx_t (a0 a1 : Int) (a2 a3 : Bool) (a4 a5 a6 a7 : LL) (a8 a9 a10 : Int) (a11 a12 : Bool) (a13 a14 a15 a16 : LL) (a17 : Int) : Tr (Bool) := (.ite ((qcf_v a0 a1 a2 a3 a4 a5 a6 a7 a8) = true) (.ite ((qcf_v a9 a10 a11 a12 a13 a14 a15 a16 a17) = true) (.ok true)
   (.ite ((!(a0 == a9)) = true) (.ok false)
    (.ite ((a0 == (5 : Int)) = true) (.ite ((a8 == a17) = true) (.ite ((0 : Int) ≤ (0 : Int) ∧ (0 : Int) < (a7.length : Int)) (.ite ((0 : Int) ≤ (0 : Int) ∧ (0 : Int) < (a16.length : Int)) (.ite ((qbc_rc ((nth (row a7 (0 : Int)) 0).int) ((nth (row a7 (0 : Int)) 1).int) ((nth (row a7 (0 : Int)) 2).bool) ((nth (row a7 (0 : Int)) 3).bool) ((nth (row a7 (0 : Int)) 4).list) ((nth (row a7 (0 : Int)) 5).list) ((nth (row a7 (0 : Int)) 6).list) ((nth (row a7 (0 : Int)) 7).list) ((nth (row a7 (0 : Int)) 8).int) ((nth (row a16 (0 : Int)) 0).int) ((nth (row a16 (0 : Int)) 1).int) ((nth (row a16 (0 : Int)) 2).bool) ((nth (row a16 (0 : Int)) 3).bool) ((nth (row a16 (0 : Int)) 4).list) ((nth (row a16 (0 : Int)) 5).list) ((nth (row a16 (0 : Int)) 6).list) ((nth (row a16 (0 : Int)) 7).list) ((nth (row a16 (0 : Int)) 8).int)) = true) (.ok (qbc_rv ((nth (row a7 (0 : Int)) 0).int) ((nth (row a7 (0 : Int)) 1).int) ((nth (row a7 (0 : Int)) 2).bool) ((nth (row a7 (0 : Int)) 3).bool) ((nth (row a7 (0 : Int)) 4).list) ((nth (row a7 (0 : Int)) 5).list) ((nth (row a7 (0 : Int)) 6).list) ((nth (row a7 (0 : Int)) 7).list) ((nth (row a7 (0 : Int)) 8).int) ((nth (row a16 (0 : Int)) 0).int) ((nth (row a16 (0 : Int)) 1).int) ((nth (row a16 (0 : Int)) 2).bool) ((nth (row a16 (0 : Int)) 3).bool) ((nth (row a16 (0 : Int)) 4).list) ((nth (row a16 (0 : Int)) 5).list) ((nth (row a16 (0 : Int)) 6).list) ((nth (row a16 (0 : Int)) 7).list) ((nth (row a16 (0 : Int)) 8).int)))
         .no)
        .no)
       .no)
      (.ok false))
     (.ite ((qbe_c a15 [TC.i a0, TC.i a1, TC.b a2, TC.b a3, TC.l a4, TC.l a5, TC.l a6, TC.l a7, TC.i a8]) = true) (.ok (!(qbe_v a15 [TC.i a0, TC.i a1, TC.b a2, TC.b a3, TC.l a4, TC.l a5, TC.l a6, TC.l a7, TC.i a8])))
      .no))))
  (.ite ((!(a0 == a9)) = true) (.ok false)
   (.ite ((a0 == (5 : Int)) = true) (.ite ((a8 == a17) = true) (.ite ((0 : Int) ≤ (0 : Int) ∧ (0 : Int) < (a7.length : Int)) (.ite ((0 : Int) ≤ (0 : Int) ∧ (0 : Int) < (a16.length : Int)) (.ite ((qbc_rc ((nth (row a7 (0 : Int)) 0).int) ((nth (row a7 (0 : Int)) 1).int) ((nth (row a7 (0 : Int)) 2).bool) ((nth (row a7 (0 : Int)) 3).bool) ((nth (row a7 (0 : Int)) 4).list) ((nth (row a7 (0 : Int)) 5).list) ((nth (row a7 (0 : Int)) 6).list) ((nth (row a7 (0 : Int)) 7).list) ((nth (row a7 (0 : Int)) 8).int) ((nth (row a16 (0 : Int)) 0).int) ((nth (row a16 (0 : Int)) 1).int) ((nth (row a16 (0 : Int)) 2).bool) ((nth (row a16 (0 : Int)) 3).bool) ((nth (row a16 (0 : Int)) 4).list) ((nth (row a16 (0 : Int)) 5).list) ((nth (row a16 (0 : Int)) 6).list) ((nth (row a16 (0 : Int)) 7).list) ((nth (row a16 (0 : Int)) 8).int)) = true) (.ok (qbc_rv ((nth (row a7 (0 : Int)) 0).int) ((nth (row a7 (0 : Int)) 1).int) ((nth (row a7 (0 : Int)) 2).bool) ((nth (row a7 (0 : Int)) 3).bool) ((nth (row a7 (0 : Int)) 4).list) ((nth (row a7 (0 : Int)) 5).list) ((nth (row a7 (0 : Int)) 6).list) ((nth (row a7 (0 : Int)) 7).list) ((nth (row a7 (0 : Int)) 8).int) ((nth (row a16 (0 : Int)) 0).int) ((nth (row a16 (0 : Int)) 1).int) ((nth (row a16 (0 : Int)) 2).bool) ((nth (row a16 (0 : Int)) 3).bool) ((nth (row a16 (0 : Int)) 4).list) ((nth (row a16 (0 : Int)) 5).list) ((nth (row a16 (0 : Int)) 6).list) ((nth (row a16 (0 : Int)) 7).list) ((nth (row a16 (0 : Int)) 8).int)))
        .no)
       .no)
      .no)
     (.ok false))
    (.ite ((qbe_c a15 [TC.i a0, TC.i a1, TC.b a2, TC.b a3, TC.l a4, TC.l a5, TC.l a6, TC.l a7, TC.i a8]) = true) (.ok (!(qbe_v a15 [TC.i a0, TC.i a1, TC.b a2, TC.b a3, TC.l a4, TC.l a5, TC.l a6, TC.l a7, TC.i a8])))
     .no))))
end
end
end
end
end
end
end
end
end
end
end Go.Proofs.Ytdcafhfnkblfkaa.V
