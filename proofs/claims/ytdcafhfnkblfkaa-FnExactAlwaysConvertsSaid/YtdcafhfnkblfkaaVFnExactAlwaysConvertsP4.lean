/- What the functions of FnExactAlwaysConverts answer. No condition. -/
import Derived.Test.YtdcafhfnkblfkaaVFnExactAlwaysConvertsP3
namespace Go.Proofs.Ytdcafhfnkblfkaa.V
open Go
set_option maxRecDepth 100000
set_option linter.unusedVariables false
set_option linter.unusedSectionVars false
set_option linter.unusedSimpArgs false
set_option maxHeartbeats 2000000
noncomputable section
section
variable [i_laws_szType : qbp_O]
variable [g_laws_szType : qbp_G]
section
variable [i_laws_toType : qj_O]
variable [g_laws_toType : qj_G]
section
variable [i_spec_l02Size : qu_O]
variable [g_spec_l02Size : qu_G]
section
variable [i_spec_l02Depth : qh_O]
variable [g_spec_l02Depth : qh_G]
section
variable [i_spec_l02Ok : qbs_O]
variable [g_spec_l02Ok : qbs_G]
section
variable [i_spec_l04Can : qbc_O]
variable [g_spec_l04Can : qbc_G]
section
variable [i_spec_l04Always : qi_O]
variable [g_spec_l04Always : qi_G]
section
variable [i_impl_Type_size : qbh_O]
variable [g_impl_Type_size : qbh_G]
section
variable [i_impl_SameType : qbm_O]
variable [g_impl_SameType : qbm_G]
def qdd_S : List Arg → Option (Bool × Res) := fun xs => match xs with
  | [(true, [(.str, TC.s a0), (.int .i64, TC.i a1), (.int .i64, TC.i a2), (.int .i64, TC.i a3), (.bool, TC.b a4), (.bool, TC.b a5), (.slice 9, TC.l a6), (.slice 2, TC.l a7), (.slice 71, TC.l a8), (.slice 32, TC.l a9), (.int .i64, TC.i a10)]), (true, [(.str, TC.s a11), (.int .i64, TC.i a12), (.int .i64, TC.i a13), (.int .i64, TC.i a14), (.bool, TC.b a15), (.bool, TC.b a16), (.slice 9, TC.l a17), (.slice 2, TC.l a18), (.slice 71, TC.l a19), (.slice 32, TC.l a20), (.int .i64, TC.i a21)])] => some ((qdd_c a0 a1 a2 a3 a4 a5 a6 a7 a8 a9 a10 a11 a12 a13 a14 a15 a16 a17 a18 a19 a20 a21), qdd_mk (qdd_v a0 a1 a2 a3 a4 a5 a6 a7 a8 a9 a10 a11 a12 a13 a14 a15 a16 a17 a18 a19 a20 a21))
  | _ => .none
theorem qdd_e (a0 : BS) (a1 a2 a3 : Int) (a4 a5 : Bool) (a6 a7 a8 a9 : LL) (a10 : Int) (a11 : BS) (a12 a13 a14 : Int) (a15 a16 : Bool) (a17 a18 a19 a20 : LL) (a21 : Int) : runF tab FT D41 live 134 noLoops [(true, [(.str, TC.s a0), (.int .i64, TC.i a1), (.int .i64, TC.i a2), (.int .i64, TC.i a3), (.bool, TC.b a4), (.bool, TC.b a5), (.slice 9, TC.l a6), (.slice 2, TC.l a7), (.slice 71, TC.l a8), (.slice 32, TC.l a9), (.int .i64, TC.i a10)]), (true, [(.str, TC.s a11), (.int .i64, TC.i a12), (.int .i64, TC.i a13), (.int .i64, TC.i a14), (.bool, TC.b a15), (.bool, TC.b a16), (.slice 9, TC.l a17), (.slice 2, TC.l a18), (.slice 71, TC.l a19), (.slice 32, TC.l a20), (.int .i64, TC.i a21)])] = (qdd_t a0 a1 a2 a3 a4 a5 a6 a7 a8 a9 a10 a11 a12 a13 a14 a15 a16 a17 a18 a19 a20 a21).run fun p => some (qdd_mk p) := by kernel_rfl
theorem qdd_s : ∀ xs r, qdd_S xs = some (true, r) → runF tab FT D41 live 134 noLoops xs = some r := by
  intro xs r h
  unfold qdd_S at h
  split at h
  · obtain ⟨h1, rfl⟩ := sp h
    exact fun_told (qdd_e ..) (qdd_l _ _ _ _ _ _ _ _ _ _ _ _ _ _ _ _ _ _ _ _ _ _) h1
  · cases h
def D42 : Dt := also D41 134 qdd_S
theorem d42 : DOk Go.Proofs.Try.prog tab D42 := d41.also mixed_ok tab_ok names_ok noLoops_ok qdd_s
def qb_E (x y : List TC) : Bool := qdd_v ((nth x 0).str) ((nth x 1).int) ((nth x 2).int) ((nth x 3).int) ((nth x 4).bool) ((nth x 5).bool) ((nth x 6).list) ((nth x 7).list) ((nth x 8).list) ((nth x 9).list) ((nth x 10).int) ((nth y 0).str) ((nth y 1).int) ((nth y 2).int) ((nth y 3).int) ((nth y 4).bool) ((nth y 5).bool) ((nth y 6).list) ((nth y 7).list) ((nth y 8).list) ((nth y 9).list) ((nth y 10).int)
abbrev qb_4_σ := LL × LL × Int × Int
abbrev qb_4_ω := (Unit) ⊕ (Unit)
def qb_4_step (C A : LL) (m i : Int) : Tr (qb_4_σ ⊕ qb_4_ω) := (.ite ((decide (i < m)) = true) (.ite ((0 : Int) ≤ i ∧ i < (A.length : Int)) (.ite ((0 : Int) ≤ i ∧ i < (C.length : Int)) (.ite ((qdd_c ((nth (row A i) 0).str) ((nth (row A i) 1).int) ((nth (row A i) 2).int) ((nth (row A i) 3).int) ((nth (row A i) 4).bool) ((nth (row A i) 5).bool) ((nth (row A i) 6).list) ((nth (row A i) 7).list) ((nth (row A i) 8).list) ((nth (row A i) 9).list) ((nth (row A i) 10).int) ((nth (row C i) 0).str) ((nth (row C i) 1).int) ((nth (row C i) 2).int) ((nth (row C i) 3).int) ((nth (row C i) 4).bool) ((nth (row C i) 5).bool) ((nth (row C i) 6).list) ((nth (row C i) 7).list) ((nth (row C i) 8).list) ((nth (row C i) 9).list) ((nth (row C i) 10).int)) = true) (.ite ((!(qdd_v ((nth (row A i) 0).str) ((nth (row A i) 1).int) ((nth (row A i) 2).int) ((nth (row A i) 3).int) ((nth (row A i) 4).bool) ((nth (row A i) 5).bool) ((nth (row A i) 6).list) ((nth (row A i) 7).list) ((nth (row A i) 8).list) ((nth (row A i) 9).list) ((nth (row A i) 10).int) ((nth (row C i) 0).str) ((nth (row C i) 1).int) ((nth (row C i) 2).int) ((nth (row C i) 3).int) ((nth (row C i) 4).bool) ((nth (row C i) 5).bool) ((nth (row C i) 6).list) ((nth (row C i) 7).list) ((nth (row C i) 8).list) ((nth (row C i) 9).list) ((nth (row C i) 10).int))) = true) (.ok (.inr (.inl ())))
      (.ok (.inl (C, A, m, (IntKind.wrap .i64 (i + (1 : Int)))))))
     .no)
    .no)
   .no)
  (.ok (.inr (.inr ()))))
def qb_4_st : qb_4_σ → Tr (qb_4_σ ⊕ qb_4_ω) := fun x => (qb_4_step (x.1) (x.2.1) (x.2.2.1) (x.2.2.2))
def qb_k4_1 (C A : LL) (m i : Int) : Bool := allEq qb_E A C
def qb_o4_2 (C A : LL) (m i : Int) : Bool := is (A.length = C.length ∧ i = 0 ∧ Typed tab (.slice 71) (.l A) ∧ m = (A.length : Int) ∧ (∀ x y : List TC, x ∈ A → y ∈ C → qdd_c ((nth x 0).str) ((nth x 1).int) ((nth x 2).int) ((nth x 3).int) ((nth x 4).bool) ((nth x 5).bool) ((nth x 6).list) ((nth x 7).list) ((nth x 8).list) ((nth x 9).list) ((nth x 10).int) ((nth y 0).str) ((nth y 1).int) ((nth y 2).int) ((nth y 3).int) ((nth y 4).bool) ((nth y 5).bool) ((nth y 6).list) ((nth y 7).list) ((nth y 8).list) ((nth y 9).list) ((nth y 10).int) = true))
def qb_o4_3 (C A : LL) (m i : Int) : Bool := (qb_o4_2 C A m i)
def qb_4_fin (C A : LL) (m i : Int) : Told qb_4_ω := (.br (qb_k4_1 C A m i) (.leaf (qb_o4_2 C A m i) (.inr ())) (.leaf (qb_o4_3 C A m i) (.inl ())))
def qb_4_sl (x : qb_4_σ) : List Slot := [⟨.val false [⟨.slice 71, .sh, TC.l (x.1)⟩], ⟨0, 0⟩⟩, ⟨.val false [⟨.func, .sh, TC.f 134 []⟩], ⟨0, 0⟩⟩, ⟨.val false [⟨.slice 71, .sh, TC.l (x.2.1)⟩], ⟨0, 0⟩⟩, ⟨.val false [⟨.int .i64, .sh, TC.i (x.2.2.1)⟩], ⟨0, 0⟩⟩, ⟨.val false [⟨.int .i64, .sh, TC.i (x.2.2.2)⟩], ⟨0, 0⟩⟩]
def qb_4_out : qb_4_ω → Ex × List Slot := (Sum.elim (fun x => (.ret, [⟨.val false [⟨.bool, .sh, TC.b false⟩], ⟨0, 0⟩⟩])) (fun x => (.exit 0, [Slot.none])))
def qb_lo4 : List Slot → Option (Told (Ex × List Slot)) := fun s => match s with
  | [⟨.val false [⟨.slice 71, .sh, TC.l C⟩], ⟨0, 0⟩⟩, ⟨.val false [⟨.func, .sh, TC.f 134 []⟩], ⟨0, 0⟩⟩, ⟨.val false [⟨.slice 71, .sh, TC.l A⟩], ⟨0, 0⟩⟩, ⟨.val false [⟨.int .i64, .sh, TC.i m⟩], ⟨0, 0⟩⟩, ⟨.val false [⟨.int .i64, .sh, TC.i i⟩], ⟨0, 0⟩⟩] => some (((qb_4_fin C A m i)).map qb_4_out)
  | _ => .none
def qb_lo : LoopTeller := fun r s => bif Nat.beq r 4 then qb_lo4 s else .none
theorem qb_4_r (C A : LL) (m i : Int) (fuel : Nat) : rounds (rnd tab FT D42 live 133 qb_lo 0 4) leave (fuel + 1) (qb_4_sl (C, A, m, i)) = ((qb_4_step C A m i)).run (goOn (fun s => rounds (rnd tab FT D42 live 133 qb_lo 0 4) leave fuel (qb_4_sl s)) fun w => some (qb_4_out w)) := by kernel_rfl
theorem qb_4_h (C A : LL) (m i : Int) (ow : qb_4_ω) : ((qb_4_fin C A m i)).val = some ow → ∃ fuel, loopN qb_4_st fuel (C, A, m, i) = some ow := by
  intro h
  have key : A.length = C.length → Typed tab (.slice 71) (.l A) → (∀ x y : List TC, x ∈ A → y ∈ C → qdd_c ((nth x 0).str) ((nth x 1).int) ((nth x 2).int) ((nth x 3).int) ((nth x 4).bool) ((nth x 5).bool) ((nth x 6).list) ((nth x 7).list) ((nth x 8).list) ((nth x 9).list) ((nth x 10).int) ((nth y 0).str) ((nth y 1).int) ((nth y 2).int) ((nth y 3).int) ((nth y 4).bool) ((nth y 5).bool) ((nth y 6).list) ((nth y 7).list) ((nth y 8).list) ((nth y 9).list) ((nth y 10).int) = true) → loopN qb_4_st (A.length + 1) (C, A, (A.length : Int), 0) = some (if allEq qb_E A C = true then .inr () else .inl ()) := by
    intro hl ht hr
    have hlen : A.length ≤ 140737488351232 := by have := typed_room ht; simp only [show (tab 71).bytes = 152 from rfl] at this; omega
    refine loopN_allEq A C qb_E (fun i => (C, A, (A.length : Int), (i : Int))) _ _ hl (fun i hi => ?_) ?_ A.length 0 (by omega)
    · show (qb_4_step C A (A.length : Int) (i : Int)).val = _
      unfold qb_4_step
      refine Tr.t (by simp; omega) ?_
      refine Tr.t (by constructor <;> omega) ?_
      refine Tr.t (by constructor <;> omega) ?_
      refine Tr.t (hr _ _ (mem_getD hi) (mem_getD (by omega))) ?_
      rw [wrap64 (i := (i : Int) + 1) (by omega) (by omega)]
      rw [Tr.val_br]
      show (if (!(qb_E (A.getD i []) (C.getD i []))) = true then _ else _) = _
      cases qb_E (A.getD i []) (C.getD i []) <;> rfl
    · show (qb_4_step C A (A.length : Int) (A.length : Int)).val = _
      refine Tr.n (by simp) ?_
      rfl
  simp only [qb_4_fin, Told.val] at h
  cases hk : allEq qb_E A C with
  | true =>
    rw [if_pos (show qb_k4_1 C A m i = true from hk)] at h
    split at h
    · rename_i ho
      obtain ⟨hl, rfl, ht, rfl, hr⟩ := is_iff.1 ho
      cases h
      refine ⟨_, (key hl ht hr).trans ?_⟩
      rw [hk]; rfl
    · cases h
  | false =>
    rw [if_neg (show ¬qb_k4_1 C A m i = true from by rw [show qb_k4_1 C A m i = allEq qb_E A C from rfl, hk]; simp)] at h
    split at h
    · rename_i ho
      obtain ⟨hl, rfl, ht, rfl, hr⟩ := is_iff.1 ho
      cases h
      refine ⟨_, (key hl ht hr).trans ?_⟩
      rw [hk]; rfl
    · cases h
theorem qb_is4 : LoopIs tab FT D42 live 133 qb_lo 0 4 := by
  refine loop_told (sl := qb_4_sl) (step := qb_4_st) (out := qb_4_out) (lor := qb_lo4) (fin := fun x => (qb_4_fin (x.1) (x.2.1) (x.2.2.1) (x.2.2.2))) (fun _ => rfl) ?_ (fun x n => qb_4_r x.1 x.2.1 x.2.2.1 x.2.2.2 n) (fun x ow => qb_4_h x.1 x.2.1 x.2.2.1 x.2.2.2 ow)
  intro s t h
  unfold qb_lo4 at h
  split at h
  · cases h; exact ⟨(_, _, _, _), rfl, rfl⟩
  · cases h
def qb_t (A C : LL) : Tr (Bool) := (.ite ((!((A.length : Int) == (C.length : Int))) = true) (.ok false)
  (.ite ((qb_k4_1 C A (A.length : Int) (0 : Int)) = true) (.ite ((qb_o4_2 C A (A.length : Int) (0 : Int)) = true) (.ok true)
    .no)
   (.ite ((qb_o4_3 C A (A.length : Int) (0 : Int)) = true) (.ok false)
    .no)))
def qb_mk (p : Bool) : Res := [(false, [⟨.bool, .sh, TC.b p⟩])]
def qb_c (A C : LL) : Bool := is (Typed tab (.slice 71) (.l A) ∧ (∀ x y : List TC, x ∈ A → y ∈ C → qdd_c ((nth x 0).str) ((nth x 1).int) ((nth x 2).int) ((nth x 3).int) ((nth x 4).bool) ((nth x 5).bool) ((nth x 6).list) ((nth x 7).list) ((nth x 8).list) ((nth x 9).list) ((nth x 10).int) ((nth y 0).str) ((nth y 1).int) ((nth y 2).int) ((nth y 3).int) ((nth y 4).bool) ((nth y 5).bool) ((nth y 6).list) ((nth y 7).list) ((nth y 8).list) ((nth y 9).list) ((nth y 10).int) = true))
def qb_v (A C : LL) : Bool := allEq qb_E A C
theorem qb_l (A C : LL) : (qb_c A C) = true → (qb_t A C).val = some (qb_v A C) := by
  intro h
  obtain ⟨ht, hr⟩ := is_iff.1 h
  unfold qb_t
  by_cases hl : A.length = C.length
  · refine Tr.n (by simp [hl]) ?_
    cases hk : allEq qb_E A C with
    | true =>
      refine Tr.t (show allEq qb_E A C = true from hk) ?_
      refine Tr.t (is_true ⟨hl, rfl, ht, rfl, hr⟩) ?_
      show _ = some (allEq qb_E A C); rw [hk]; rfl
    | false =>
      refine Tr.n (show ¬allEq qb_E A C = true from by rw [hk]; simp) ?_
      refine Tr.t (is_true ⟨hl, rfl, ht, rfl, hr⟩) ?_
      show _ = some (allEq qb_E A C); rw [hk]; rfl
  · refine Tr.t (by simp; omega) ?_
    show _ = some (allEq qb_E A C)
    rw [allEq_ne hl]; rfl
def qb_S : List Arg → Option (Bool × Res) := fun xs => match xs with
  | [(false, [(.slice 71, TC.l A)]), (false, [(.slice 71, TC.l C)]), (false, [(.func, TC.f 134 [])])] => some ((qb_c A C), qb_mk (qb_v A C))
  | _ => .none
theorem qb_e (A C : LL) : runF tab FT D42 live 133 qb_lo [(false, [(.slice 71, TC.l A)]), (false, [(.slice 71, TC.l C)]), (false, [(.func, TC.f 134 [])])] = (qb_t A C).run fun p => some (qb_mk p) := by kernel_rfl
theorem qb_s : ∀ xs r, qb_S xs = some (true, r) → runF tab FT D42 live 133 qb_lo xs = some r := by
  intro xs r h
  unfold qb_S at h
  split at h
  · obtain ⟨h1, rfl⟩ := sp h
    exact fun_told (qb_e ..) (qb_l _ _) h1
  · cases h
def D43 : Dt := also D42 133 qb_S
theorem d43 : DOk Go.Proofs.Try.prog tab D43 := d42.also mixed_ok tab_ok names_ok (fnLoops_one (by kernel_rfl) qb_is4) qb_s
def qc_E (x y : List TC) : Bool := qbm_rv ((nth x 0).int) ((nth x 1).int) ((nth x 2).bool) ((nth x 3).bool) ((nth x 4).list) ((nth x 5).list) ((nth x 6).list) ((nth x 7).list) ((nth x 8).int) ((nth y 0).int) ((nth y 1).int) ((nth y 2).bool) ((nth y 3).bool) ((nth y 4).list) ((nth y 5).list) ((nth y 6).list) ((nth y 7).list) ((nth y 8).int)
abbrev qc_4_σ := LL × LL × Int × Int
abbrev qc_4_ω := (Unit) ⊕ (Unit)
def qc_4_step (C A : LL) (m i : Int) : Tr (qc_4_σ ⊕ qc_4_ω) := (.ite ((decide (i < m)) = true) (.ite ((0 : Int) ≤ i ∧ i < (A.length : Int)) (.ite ((0 : Int) ≤ i ∧ i < (C.length : Int)) (.ite ((qbm_rc ((nth (row A i) 0).int) ((nth (row A i) 1).int) ((nth (row A i) 2).bool) ((nth (row A i) 3).bool) ((nth (row A i) 4).list) ((nth (row A i) 5).list) ((nth (row A i) 6).list) ((nth (row A i) 7).list) ((nth (row A i) 8).int) ((nth (row C i) 0).int) ((nth (row C i) 1).int) ((nth (row C i) 2).bool) ((nth (row C i) 3).bool) ((nth (row C i) 4).list) ((nth (row C i) 5).list) ((nth (row C i) 6).list) ((nth (row C i) 7).list) ((nth (row C i) 8).int)) = true) (.ite ((!(qbm_rv ((nth (row A i) 0).int) ((nth (row A i) 1).int) ((nth (row A i) 2).bool) ((nth (row A i) 3).bool) ((nth (row A i) 4).list) ((nth (row A i) 5).list) ((nth (row A i) 6).list) ((nth (row A i) 7).list) ((nth (row A i) 8).int) ((nth (row C i) 0).int) ((nth (row C i) 1).int) ((nth (row C i) 2).bool) ((nth (row C i) 3).bool) ((nth (row C i) 4).list) ((nth (row C i) 5).list) ((nth (row C i) 6).list) ((nth (row C i) 7).list) ((nth (row C i) 8).int))) = true) (.ok (.inr (.inl ())))
      (.ok (.inl (C, A, m, (IntKind.wrap .i64 (i + (1 : Int)))))))
     .no)
    .no)
   .no)
  (.ok (.inr (.inr ()))))
def qc_4_st : qc_4_σ → Tr (qc_4_σ ⊕ qc_4_ω) := fun x => (qc_4_step (x.1) (x.2.1) (x.2.2.1) (x.2.2.2))
def qc_k4_1 (C A : LL) (m i : Int) : Bool := allEq qc_E A C
def qc_o4_2 (C A : LL) (m i : Int) : Bool := is (A.length = C.length ∧ i = 0 ∧ Typed tab (.slice 32) (.l A) ∧ m = (A.length : Int) ∧ (∀ x y : List TC, x ∈ A → y ∈ C → qbm_rc ((nth x 0).int) ((nth x 1).int) ((nth x 2).bool) ((nth x 3).bool) ((nth x 4).list) ((nth x 5).list) ((nth x 6).list) ((nth x 7).list) ((nth x 8).int) ((nth y 0).int) ((nth y 1).int) ((nth y 2).bool) ((nth y 3).bool) ((nth y 4).list) ((nth y 5).list) ((nth y 6).list) ((nth y 7).list) ((nth y 8).int) = true))
def qc_o4_3 (C A : LL) (m i : Int) : Bool := (qc_o4_2 C A m i)
def qc_4_fin (C A : LL) (m i : Int) : Told qc_4_ω := (.br (qc_k4_1 C A m i) (.leaf (qc_o4_2 C A m i) (.inr ())) (.leaf (qc_o4_3 C A m i) (.inl ())))
def qc_4_sl (x : qc_4_σ) : List Slot := [⟨.val false [⟨.slice 32, .sh, TC.l (x.1)⟩], ⟨0, 0⟩⟩, ⟨.val false [⟨.func, .sh, TC.f 102 []⟩], ⟨0, 0⟩⟩, ⟨.val false [⟨.slice 32, .sh, TC.l (x.2.1)⟩], ⟨0, 0⟩⟩, ⟨.val false [⟨.int .i64, .sh, TC.i (x.2.2.1)⟩], ⟨0, 0⟩⟩, ⟨.val false [⟨.int .i64, .sh, TC.i (x.2.2.2)⟩], ⟨0, 0⟩⟩]
def qc_4_out : qc_4_ω → Ex × List Slot := (Sum.elim (fun x => (.ret, [⟨.val false [⟨.bool, .sh, TC.b false⟩], ⟨0, 0⟩⟩])) (fun x => (.exit 0, [Slot.none])))
def qc_lo4 : List Slot → Option (Told (Ex × List Slot)) := fun s => match s with
  | [⟨.val false [⟨.slice 32, .sh, TC.l C⟩], ⟨0, 0⟩⟩, ⟨.val false [⟨.func, .sh, TC.f 102 []⟩], ⟨0, 0⟩⟩, ⟨.val false [⟨.slice 32, .sh, TC.l A⟩], ⟨0, 0⟩⟩, ⟨.val false [⟨.int .i64, .sh, TC.i m⟩], ⟨0, 0⟩⟩, ⟨.val false [⟨.int .i64, .sh, TC.i i⟩], ⟨0, 0⟩⟩] => some (((qc_4_fin C A m i)).map qc_4_out)
  | _ => .none
def qc_lo : LoopTeller := fun r s => bif Nat.beq r 4 then qc_lo4 s else .none
theorem qc_4_r (C A : LL) (m i : Int) (fuel : Nat) : rounds (rnd tab FT D43 live 135 qc_lo 0 4) leave (fuel + 1) (qc_4_sl (C, A, m, i)) = ((qc_4_step C A m i)).run (goOn (fun s => rounds (rnd tab FT D43 live 135 qc_lo 0 4) leave fuel (qc_4_sl s)) fun w => some (qc_4_out w)) := by kernel_rfl
theorem qc_4_h (C A : LL) (m i : Int) (ow : qc_4_ω) : ((qc_4_fin C A m i)).val = some ow → ∃ fuel, loopN qc_4_st fuel (C, A, m, i) = some ow := by
  intro h
  have key : A.length = C.length → Typed tab (.slice 32) (.l A) → (∀ x y : List TC, x ∈ A → y ∈ C → qbm_rc ((nth x 0).int) ((nth x 1).int) ((nth x 2).bool) ((nth x 3).bool) ((nth x 4).list) ((nth x 5).list) ((nth x 6).list) ((nth x 7).list) ((nth x 8).int) ((nth y 0).int) ((nth y 1).int) ((nth y 2).bool) ((nth y 3).bool) ((nth y 4).list) ((nth y 5).list) ((nth y 6).list) ((nth y 7).list) ((nth y 8).int) = true) → loopN qc_4_st (A.length + 1) (C, A, (A.length : Int), 0) = some (if allEq qc_E A C = true then .inr () else .inl ()) := by
    intro hl ht hr
    have hlen : A.length ≤ 140737488351232 := by have := typed_room ht; simp only [show (tab 32).bytes = 128 from rfl] at this; omega
    refine loopN_allEq A C qc_E (fun i => (C, A, (A.length : Int), (i : Int))) _ _ hl (fun i hi => ?_) ?_ A.length 0 (by omega)
    · show (qc_4_step C A (A.length : Int) (i : Int)).val = _
      unfold qc_4_step
      refine Tr.t (by simp; omega) ?_
      refine Tr.t (by constructor <;> omega) ?_
      refine Tr.t (by constructor <;> omega) ?_
      refine Tr.t (hr _ _ (mem_getD hi) (mem_getD (by omega))) ?_
      rw [wrap64 (i := (i : Int) + 1) (by omega) (by omega)]
      rw [Tr.val_br]
      show (if (!(qc_E (A.getD i []) (C.getD i []))) = true then _ else _) = _
      cases qc_E (A.getD i []) (C.getD i []) <;> rfl
    · show (qc_4_step C A (A.length : Int) (A.length : Int)).val = _
      refine Tr.n (by simp) ?_
      rfl
  simp only [qc_4_fin, Told.val] at h
  cases hk : allEq qc_E A C with
  | true =>
    rw [if_pos (show qc_k4_1 C A m i = true from hk)] at h
    split at h
    · rename_i ho
      obtain ⟨hl, rfl, ht, rfl, hr⟩ := is_iff.1 ho
      cases h
      refine ⟨_, (key hl ht hr).trans ?_⟩
      rw [hk]; rfl
    · cases h
  | false =>
    rw [if_neg (show ¬qc_k4_1 C A m i = true from by rw [show qc_k4_1 C A m i = allEq qc_E A C from rfl, hk]; simp)] at h
    split at h
    · rename_i ho
      obtain ⟨hl, rfl, ht, rfl, hr⟩ := is_iff.1 ho
      cases h
      refine ⟨_, (key hl ht hr).trans ?_⟩
      rw [hk]; rfl
    · cases h
theorem qc_is4 : LoopIs tab FT D43 live 135 qc_lo 0 4 := by
  refine loop_told (sl := qc_4_sl) (step := qc_4_st) (out := qc_4_out) (lor := qc_lo4) (fin := fun x => (qc_4_fin (x.1) (x.2.1) (x.2.2.1) (x.2.2.2))) (fun _ => rfl) ?_ (fun x n => qc_4_r x.1 x.2.1 x.2.2.1 x.2.2.2 n) (fun x ow => qc_4_h x.1 x.2.1 x.2.2.1 x.2.2.2 ow)
  intro s t h
  unfold qc_lo4 at h
  split at h
  · cases h; exact ⟨(_, _, _, _), rfl, rfl⟩
  · cases h
def qc_t (A C : LL) : Tr (Bool) := (.ite ((!((A.length : Int) == (C.length : Int))) = true) (.ok false)
  (.ite ((qc_k4_1 C A (A.length : Int) (0 : Int)) = true) (.ite ((qc_o4_2 C A (A.length : Int) (0 : Int)) = true) (.ok true)
    .no)
   (.ite ((qc_o4_3 C A (A.length : Int) (0 : Int)) = true) (.ok false)
    .no)))
def qc_mk (p : Bool) : Res := [(false, [⟨.bool, .sh, TC.b p⟩])]
def qc_c (A C : LL) : Bool := is (Typed tab (.slice 32) (.l A) ∧ (∀ x y : List TC, x ∈ A → y ∈ C → qbm_rc ((nth x 0).int) ((nth x 1).int) ((nth x 2).bool) ((nth x 3).bool) ((nth x 4).list) ((nth x 5).list) ((nth x 6).list) ((nth x 7).list) ((nth x 8).int) ((nth y 0).int) ((nth y 1).int) ((nth y 2).bool) ((nth y 3).bool) ((nth y 4).list) ((nth y 5).list) ((nth y 6).list) ((nth y 7).list) ((nth y 8).int) = true))
def qc_v (A C : LL) : Bool := allEq qc_E A C
theorem qc_l (A C : LL) : (qc_c A C) = true → (qc_t A C).val = some (qc_v A C) := by
  intro h
  obtain ⟨ht, hr⟩ := is_iff.1 h
  unfold qc_t
  by_cases hl : A.length = C.length
  · refine Tr.n (by simp [hl]) ?_
    cases hk : allEq qc_E A C with
    | true =>
      refine Tr.t (show allEq qc_E A C = true from hk) ?_
      refine Tr.t (is_true ⟨hl, rfl, ht, rfl, hr⟩) ?_
      show _ = some (allEq qc_E A C); rw [hk]; rfl
    | false =>
      refine Tr.n (show ¬allEq qc_E A C = true from by rw [hk]; simp) ?_
      refine Tr.t (is_true ⟨hl, rfl, ht, rfl, hr⟩) ?_
      show _ = some (allEq qc_E A C); rw [hk]; rfl
  · refine Tr.t (by simp; omega) ?_
    show _ = some (allEq qc_E A C)
    rw [allEq_ne hl]; rfl
def qc_S : List Arg → Option (Bool × Res) := fun xs => match xs with
  | [(false, [(.slice 32, TC.l A)]), (false, [(.slice 32, TC.l C)]), (false, [(.func, TC.f 102 [])])] => some ((qc_c A C), qc_mk (qc_v A C))
  | _ => .none
theorem qc_e (A C : LL) : runF tab FT D43 live 135 qc_lo [(false, [(.slice 32, TC.l A)]), (false, [(.slice 32, TC.l C)]), (false, [(.func, TC.f 102 [])])] = (qc_t A C).run fun p => some (qc_mk p) := by kernel_rfl
theorem qc_s : ∀ xs r, qc_S xs = some (true, r) → runF tab FT D43 live 135 qc_lo xs = some r := by
  intro xs r h
  unfold qc_S at h
  split at h
  · obtain ⟨h1, rfl⟩ := sp h
    exact fun_told (qc_e ..) (qc_l _ _) h1
  · cases h
def D44 : Dt := also D43 135 qc_S
theorem d44 : DOk Go.Proofs.Try.prog tab D44 := d43.also mixed_ok tab_ok names_ok (fnLoops_one (by kernel_rfl) qc_is4) qc_s
def qbm_t (k s : Int) (sg bg : Bool) (NA NU ME BA : LL) (ct k2 s2 : Int) (sg2 bg2 : Bool) (NA2 NU2 ME2 BA2 : LL) (ct2 : Int) : Tr (Bool) := (.ite ((k == k2) = true) (.ite ((s == s2) = true) (.ite ((sg == sg2) = true) (.ite ((bg == bg2) = true) (.ite ((ct == ct2) = true) (.ite ((qt_c NA NA2) = true) (.ite ((qt_v NA NA2) = true) (.ite ((qy_c NU NU2) = true) (.ite ((qy_v NU NU2) = true) (.ite ((qb_c ME ME2) = true) (.ite ((qb_v ME ME2) = true) (.ite ((qc_c BA BA2) = true) (.ok (qc_v BA BA2))
             .no)
            (.ok false))
           .no)
          (.ok false))
         .no)
        (.ok false))
       .no)
      (.ok false))
     (.ok false))
    (.ok false))
   (.ok false))
  (.ok false))
def qbm_mk (p : Bool) : Res := [(false, [⟨.bool, .sh, TC.b p⟩])]
def qbm_c (k s : Int) (sg bg : Bool) (NA NU ME BA : LL) (ct k2 s2 : Int) (sg2 bg2 : Bool) (NA2 NU2 ME2 BA2 : LL) (ct2 : Int) : Bool := (bif (k == k2) then (bif (s == s2) then (bif (sg == sg2) then (bif (bg == bg2) then (bif (ct == ct2) then ((qt_c NA NA2) && (bif (qt_v NA NA2) then ((qy_c NU NU2) && (bif (qy_v NU NU2) then ((qb_c ME ME2) && (bif (qb_v ME ME2) then ((qc_c BA BA2) && true) else true)) else true)) else true)) else true) else true) else true) else true) else true)
def qbm_v (k s : Int) (sg bg : Bool) (NA NU ME BA : LL) (ct k2 s2 : Int) (sg2 bg2 : Bool) (NA2 NU2 ME2 BA2 : LL) (ct2 : Int) : Bool := (bif (k == k2) then (bif (s == s2) then (bif (sg == sg2) then (bif (bg == bg2) then (bif (ct == ct2) then (bif (qt_v NA NA2) then (bif (qy_v NU NU2) then (bif (qb_v ME ME2) then (qc_v BA BA2) else false) else false) else false) else false) else false) else false) else false) else false)
theorem qbm_l (k s : Int) (sg bg : Bool) (NA NU ME BA : LL) (ct k2 s2 : Int) (sg2 bg2 : Bool) (NA2 NU2 ME2 BA2 : LL) (ct2 : Int) : (qbm_c k s sg bg NA NU ME BA ct k2 s2 sg2 bg2 NA2 NU2 ME2 BA2 ct2) = true → (qbm_t k s sg bg NA NU ME BA ct k2 s2 sg2 bg2 NA2 NU2 ME2 BA2 ct2).val = some (qbm_v k s sg bg NA NU ME BA ct k2 s2 sg2 bg2 NA2 NU2 ME2 BA2 ct2) := by
  unfold qbm_t qbm_v qbm_c
  intro h
  repeat' first | refine Tr.gb h fun h => ?_ | refine Tr.gs h fun h => ?_ | refine Tr.ss h (fun h => ?_) fun h => ?_ | exact rfl
theorem qbm_e (k s : Int) (sg bg : Bool) (NA NU ME BA : LL) (ct k2 s2 : Int) (sg2 bg2 : Bool) (NA2 NU2 ME2 BA2 : LL) (ct2 : Int) : runF tab FT D44 live 102 noLoops [(true, [(.int .i64, TC.i k), (.int .i64, TC.i s), (.bool, TC.b sg), (.bool, TC.b bg), (.slice 9, TC.l NA), (.slice 2, TC.l NU), (.slice 71, TC.l ME), (.slice 32, TC.l BA), (.int .i64, TC.i ct)]), (true, [(.int .i64, TC.i k2), (.int .i64, TC.i s2), (.bool, TC.b sg2), (.bool, TC.b bg2), (.slice 9, TC.l NA2), (.slice 2, TC.l NU2), (.slice 71, TC.l ME2), (.slice 32, TC.l BA2), (.int .i64, TC.i ct2)])] = (qbm_t k s sg bg NA NU ME BA ct k2 s2 sg2 bg2 NA2 NU2 ME2 BA2 ct2).run fun p => some (qbm_mk p) := by kernel_rfl
theorem qbm_nx (k s : Int) (sg bg : Bool) (NA NU ME BA : LL) (ct k2 s2 : Int) (sg2 bg2 : Bool) (NA2 NU2 ME2 BA2 : LL) (ct2 : Int) : is (max (rowsDep ME) (rowsDep BA) < qbm_O.n + 1 ∧ Typed tab (.slice 9) (.l NA) ∧ Typed tab (.slice 2) (.l NU) ∧ Typed tab (.slice 71) (.l ME) ∧ Typed tab (.slice 32) (.l BA) ∧ Typed tab (.slice 9) (.l NA2) ∧ Typed tab (.slice 2) (.l NU2) ∧ Typed tab (.slice 71) (.l ME2) ∧ Typed tab (.slice 32) (.l BA2)) = true → (qbm_c k s sg bg NA NU ME BA ct k2 s2 sg2 bg2 NA2 NU2 ME2 BA2 ct2) = true ∧ (qbm_v k s sg bg NA NU ME BA ct k2 s2 sg2 bg2 NA2 NU2 ME2 BA2 ct2) = sameV k s sg bg NA NU ME BA ct k2 s2 sg2 bg2 NA2 NU2 ME2 BA2 ct2 := by
  intro h
  obtain ⟨hM, a4, a5, a6, a7, b4, b5, b6, b7⟩ := is_iff.1 h
  have q6 : ∀ x y, x ∈ ME → y ∈ ME2 → qbm_rc (nth x 2).int (nth x 3).int (nth x 4).bool (nth x 5).bool (nth x 6).list (nth x 7).list (nth x 8).list (nth x 9).list (nth x 10).int (nth y 2).int (nth y 3).int (nth y 4).bool (nth y 5).bool (nth y 6).list (nth y 7).list (nth y 8).list (nth y 9).list (nth y 10).int = true := fun x y hx hy => is_true ⟨by have a := dep_cell hx 8; have b := dep_cell hx 9; omega, typed_list ((typed_elem a6 hx).2 6 (by decide)), typed_list ((typed_elem a6 hx).2 7 (by decide)), typed_list ((typed_elem a6 hx).2 8 (by decide)), typed_list ((typed_elem a6 hx).2 9 (by decide)), typed_list ((typed_elem b6 hy).2 6 (by decide)), typed_list ((typed_elem b6 hy).2 7 (by decide)), typed_list ((typed_elem b6 hy).2 8 (by decide)), typed_list ((typed_elem b6 hy).2 9 (by decide))⟩
  have q7 : ∀ x y, x ∈ BA → y ∈ BA2 → qbm_rc (nth x 0).int (nth x 1).int (nth x 2).bool (nth x 3).bool (nth x 4).list (nth x 5).list (nth x 6).list (nth x 7).list (nth x 8).int (nth y 0).int (nth y 1).int (nth y 2).bool (nth y 3).bool (nth y 4).list (nth y 5).list (nth y 6).list (nth y 7).list (nth y 8).int = true := fun x y hx hy => is_true ⟨by have a := dep_cell hx 6; have b := dep_cell hx 7; omega, typed_list ((typed_elem a7 hx).2 4 (by decide)), typed_list ((typed_elem a7 hx).2 5 (by decide)), typed_list ((typed_elem a7 hx).2 6 (by decide)), typed_list ((typed_elem a7 hx).2 7 (by decide)), typed_list ((typed_elem b7 hy).2 4 (by decide)), typed_list ((typed_elem b7 hy).2 5 (by decide)), typed_list ((typed_elem b7 hy).2 6 (by decide)), typed_list ((typed_elem b7 hy).2 7 (by decide))⟩
  have c4 : qt_c NA NA2 = true := is_true a4
  have c5 : qy_c NU NU2 = true := is_true a5
  have c6 : qb_c ME ME2 = true := is_true ⟨a6, fun x y hx hy => by simp only [qdd_c, q6 x y hx hy, Bool.and_true, bif_same]⟩
  have c7 : qc_c BA BA2 = true := is_true ⟨a7, q7⟩
  have v4 : qt_v NA NA2 = eqL NA NA2 := allEq_eqL (E := E_9) (fun x y hx hy => by
    constructor
    · intro h
      have hh : (nth x 0).str = (nth y 0).str := by
        simpa [E_9] using h
      have e0 := hh
      have hx' := form_9 a4 hx
      have hy' := form_9 b4 hy
      rw [hx', hy', e0]
    · rintro rfl
      simp [E_9])
  have v5 : qy_v NU NU2 = eqL NU NU2 := allEq_eqL (E := E_2) (fun x y hx hy => by
    constructor
    · intro h
      have hh : (nth x 0).int = (nth y 0).int := by
        simpa [E_2] using h
      have e0 := hh
      have hx' := form_2 a5 hx
      have hy' := form_2 b5 hy
      rw [hx', hy', e0]
    · rintro rfl
      simp [E_2])
  have v6 : qb_v ME ME2 = eqL ME ME2 := allEq_eqL (E := qb_E) (fun x y hx hy => by
    constructor
    · intro h
      have hh : (nth x 0).str = (nth y 0).str ∧ (nth x 1).int = (nth y 1).int ∧ (nth x 2).int = (nth y 2).int ∧ (nth x 3).int = (nth y 3).int ∧ (nth x 4).bool = (nth y 4).bool ∧ (nth x 5).bool = (nth y 5).bool ∧ (nth x 6).list = (nth y 6).list ∧ (nth x 7).list = (nth y 7).list ∧ (nth x 8).list = (nth y 8).list ∧ (nth x 9).list = (nth y 9).list ∧ (nth x 10).int = (nth y 10).int := by
        have h : (bif ((nth x 0).str == (nth y 0).str) then (bif ((nth x 1).int == (nth y 1).int) then sameV (nth x 2).int (nth x 3).int (nth x 4).bool (nth x 5).bool (nth x 6).list (nth x 7).list (nth x 8).list (nth x 9).list (nth x 10).int (nth y 2).int (nth y 3).int (nth y 4).bool (nth y 5).bool (nth y 6).list (nth y 7).list (nth y 8).list (nth y 9).list (nth y 10).int else false) else false) = true := h
        simp only [bif_ft, sameV, Bool.and_eq_true, beq_iff_eq, eqL_iff] at h
        obtain ⟨n, o, h⟩ := h
        exact ⟨n, o, h.1, h.2.1, h.2.2.1, h.2.2.2.1, h.2.2.2.2.2.1, h.2.2.2.2.2.2.1, h.2.2.2.2.2.2.2.1, h.2.2.2.2.2.2.2.2, h.2.2.2.2.1⟩
      obtain ⟨e0, e1, e2, e3, e4, e5, e6, e7, e8, e9, e10⟩ := hh
      have hx' := form_71 a6 hx
      have hy' := form_71 b6 hy
      rw [hx', hy', e0, e1, e2, e3, e4, e5, e6, e7, e8, e9, e10]
    · rintro rfl
      show (bif ((nth x 0).str == (nth x 0).str) then (bif ((nth x 1).int == (nth x 1).int) then sameV (nth x 2).int (nth x 3).int (nth x 4).bool (nth x 5).bool (nth x 6).list (nth x 7).list (nth x 8).list (nth x 9).list (nth x 10).int (nth x 2).int (nth x 3).int (nth x 4).bool (nth x 5).bool (nth x 6).list (nth x 7).list (nth x 8).list (nth x 9).list (nth x 10).int else false) else false) = true
      simp [sameV, eqL_refl])
  have v7 : qc_v BA BA2 = eqL BA BA2 := allEq_eqL (E := qc_E) (fun x y hx hy => by
    constructor
    · intro h
      have hh : (nth x 0).int = (nth y 0).int ∧ (nth x 1).int = (nth y 1).int ∧ (nth x 2).bool = (nth y 2).bool ∧ (nth x 3).bool = (nth y 3).bool ∧ (nth x 4).list = (nth y 4).list ∧ (nth x 5).list = (nth y 5).list ∧ (nth x 6).list = (nth y 6).list ∧ (nth x 7).list = (nth y 7).list ∧ (nth x 8).int = (nth y 8).int := by
        have h : sameV (nth x 0).int (nth x 1).int (nth x 2).bool (nth x 3).bool (nth x 4).list (nth x 5).list (nth x 6).list (nth x 7).list (nth x 8).int (nth y 0).int (nth y 1).int (nth y 2).bool (nth y 3).bool (nth y 4).list (nth y 5).list (nth y 6).list (nth y 7).list (nth y 8).int = true := h
        simp only [sameV, Bool.and_eq_true, beq_iff_eq, eqL_iff] at h
        exact ⟨h.1, h.2.1, h.2.2.1, h.2.2.2.1, h.2.2.2.2.2.1, h.2.2.2.2.2.2.1, h.2.2.2.2.2.2.2.1, h.2.2.2.2.2.2.2.2, h.2.2.2.2.1⟩
      obtain ⟨e0, e1, e2, e3, e4, e5, e6, e7, e8⟩ := hh
      have hx' := form_32 a7 hx
      have hy' := form_32 b7 hy
      rw [hx', hy', e0, e1, e2, e3, e4, e5, e6, e7, e8]
    · rintro rfl
      show sameV (nth x 0).int (nth x 1).int (nth x 2).bool (nth x 3).bool (nth x 4).list (nth x 5).list (nth x 6).list (nth x 7).list (nth x 8).int (nth x 0).int (nth x 1).int (nth x 2).bool (nth x 3).bool (nth x 4).list (nth x 5).list (nth x 6).list (nth x 7).list (nth x 8).int = true
      simp [sameV, eqL_refl])
  constructor
  · unfold qbm_c
    simp only [c4, c5, c6, c7, Bool.true_and, Bool.and_true, bif_same]
  · unfold qbm_v sameV
    rw [v4, v5, v6, v7]
    simp only [bif_ft]
theorem qbm_nxr (k s : Int) (sg bg : Bool) (NA NU ME BA : LL) (ct k2 s2 : Int) (sg2 bg2 : Bool) (NA2 NU2 ME2 BA2 : LL) (ct2 : Int) : qbm_rc (i_impl_SameType := ⟨qbm_O.n + 1⟩) k s sg bg NA NU ME BA ct k2 s2 sg2 bg2 NA2 NU2 ME2 BA2 ct2 = true → (qbm_c k s sg bg NA NU ME BA ct k2 s2 sg2 bg2 NA2 NU2 ME2 BA2 ct2) = true ∧ (qbm_v k s sg bg NA NU ME BA ct k2 s2 sg2 bg2 NA2 NU2 ME2 BA2 ct2) = (qbm_rv k s sg bg NA NU ME BA ct k2 s2 sg2 bg2 NA2 NU2 ME2 BA2 ct2) := fun h => qbm_nx k s sg bg NA NU ME BA ct k2 s2 sg2 bg2 NA2 NU2 ME2 BA2 ct2 h
theorem qbm_rs : ∀ xs r, qbm_rS (i_impl_SameType := ⟨qbm_O.n + 1⟩) xs = some (true, r) → runF tab FT D44 live 102 noLoops xs = some r := by
  intro xs r h
  unfold qbm_rS at h
  split at h
  · obtain ⟨h1, rfl⟩ := sp h
    have hx := qbm_nxr _ _ _ _ _ _ _ _ _ _ _ _ _ _ _ _ _ _ h1
    have ht := fun_told (qbm_e ..) (qbm_l _ _ _ _ _ _ _ _ _ _ _ _ _ _ _ _ _ _) hx.1
    rw [hx.2] at ht
    exact ht
  · cases h
theorem qbm_step : qbm_G (i_impl_SameType := ⟨qbm_O.n + 1⟩) := by
  have h := DOk.also2 (S := qbm_rS (i_impl_SameType := ⟨qbm_O.n + 1⟩)) mixed_ok tab_ok names_ok d40 d44 noLoops_ok qbm_rs
  refine qbm_G.mk (i_impl_SameType := ⟨qbm_O.n + 1⟩) ?_
  exact h
abbrev qn_2_σ := LL × Int × Int × Int
abbrev qn_2_ω := (Int) ⊕ (Unit)
def qn_2_step (A : LL) (v m i : Int) : Tr (qn_2_σ ⊕ qn_2_ω) := (.ite ((decide (i < m)) = true) (.ite ((0 : Int) ≤ i ∧ i < (A.length : Int)) (.ite ((v == (nth (row A i) 0).int) = true) (.ok (.inr (.inl i)))
    (.ok (.inl (A, v, m, (IntKind.wrap .i64 (i + (1 : Int)))))))
   .no)
  (.ok (.inr (.inr ()))))
def qn_2_st : qn_2_σ → Tr (qn_2_σ ⊕ qn_2_ω) := fun x => (qn_2_step (x.1) (x.2.1) (x.2.2.1) (x.2.2.2))
def qn_k2_1 (A : LL) (v m i : Int) : Bool := A.all (fun x => !(v == (nth x 0).int))
def qn_o2_2 (A : LL) (v m i : Int) : Bool := is (i = 0 ∧ A.length ≤ 140737488351232 ∧ m = (A.length : Int))
def qn_o2_3 (A : LL) (v m i : Int) : Bool := is (i = 0 ∧ A.length ≤ 140737488351232 ∧ m = (A.length : Int))
def qn_u2_3 (A : LL) (v m i : Int) : Int := (Int.ofNat (A.findIdx fun x => !(fun x => !(v == (nth x 0).int)) x))
def qn_2_fin (A : LL) (v m i : Int) : Told qn_2_ω := (.br (qn_k2_1 A v m i) (.leaf (qn_o2_2 A v m i) (.inr ())) (.leaf (qn_o2_3 A v m i) (.inl (qn_u2_3 A v m i))))
def qn_2_sl (x : qn_2_σ) : List Slot := [⟨.val false [⟨.slice 2, .sh, TC.l (x.1)⟩], ⟨0, 0⟩⟩, ⟨.val false [⟨.int .i64, .sh, TC.i (x.2.1)⟩], ⟨0, 0⟩⟩, ⟨.val false [⟨.int .i64, .sh, TC.i (x.2.2.1)⟩], ⟨0, 0⟩⟩, ⟨.val false [⟨.int .i64, .sh, TC.i (x.2.2.2)⟩], ⟨0, 0⟩⟩]
def qn_2_out : qn_2_ω → Ex × List Slot := (Sum.elim (fun x => (.ret, [⟨.val false [⟨.int .i64, .sh, TC.i x⟩], ⟨0, 0⟩⟩])) (fun x => (.exit 0, [Slot.none])))
def qn_lo2 : List Slot → Option (Told (Ex × List Slot)) := fun s => match s with
  | [⟨.val false [⟨.slice 2, .sh, TC.l A⟩], ⟨0, 0⟩⟩, ⟨.val false [⟨.int .i64, .sh, TC.i v⟩], ⟨0, 0⟩⟩, ⟨.val false [⟨.int .i64, .sh, TC.i m⟩], ⟨0, 0⟩⟩, ⟨.val false [⟨.int .i64, .sh, TC.i i⟩], ⟨0, 0⟩⟩] => some (((qn_2_fin A v m i)).map qn_2_out)
  | _ => .none
def qn_lo : LoopTeller := fun r s => bif Nat.beq r 2 then qn_lo2 s else .none
theorem qn_2_r (A : LL) (v m i : Int) (fuel : Nat) : rounds (rnd tab FT D44 live 150 qn_lo 0 2) leave (fuel + 1) (qn_2_sl (A, v, m, i)) = ((qn_2_step A v m i)).run (goOn (fun s => rounds (rnd tab FT D44 live 150 qn_lo 0 2) leave fuel (qn_2_sl s)) fun w => some (qn_2_out w)) := by kernel_rfl
theorem qn_2_h (A : LL) (v m i : Int) (ow : qn_2_ω) : ((qn_2_fin A v m i)).val = some ow → ∃ fuel, loopN qn_2_st fuel (A, v, m, i) = some ow := by
  intro h
  have key : A.length ≤ 140737488351232 → loopN qn_2_st (A.length + 1) (A, v, (A.length : Int), (0 : Int)) = some (if A.all (fun x => !(v == (nth x 0).int)) = true then (.inr ()) else (.inl (Int.ofNat (A.findIdx fun x => !(fun x => !(v == (nth x 0).int)) x)))) := by
    intro ht
    have hlen : A.length ≤ 140737488351232 := ht
    have key := loopN_scan (step := qn_2_st) A [] (fun x => !(v == (nth x 0).int)) (fun a _ => a) (fun i a => (A, v, (A.length : Int), (i : Int))) (fun a => (.inr ())) (fun i a => (.inl (i : Int))) (fun i a hi => ?_) (fun a => ?_) A.length 0 () (by omega)
    · first | (rw [Nat.zero_add] at key; exact key) | exact key
    · skip
      show (qn_2_step A v (A.length : Int) (i : Int)).val = _
      unfold qn_2_step
      refine Tr.t (by simp; omega) ?_
      skip
      refine Tr.t (by first | omega | (constructor <;> omega)) ?_
      refine Tr.b2 (fun hP => ?_) (fun _ => rfl)
      rw [Tr.val_ok, wrap64 (i := (i : Int) + 1) (by omega) (by omega)]; rfl
    · show (qn_2_step A v (A.length : Int) (A.length : Int)).val = _
      refine Tr.n (by simp) ?_
      rfl
  simp only [qn_2_fin, Told.val] at h
  cases hk : A.all (fun x => !(v == (nth x 0).int)) with
  | true =>
    rw [if_pos (show qn_k2_1 A v m i = true from hk)] at h
    split at h
    · rename_i ho
      obtain ⟨rfl, ht, rfl⟩ := is_iff.1 ho
      cases h
      refine ⟨_, (key ht).trans ?_⟩
      rw [hk]; rfl
    · cases h
  | false =>
    rw [if_neg (show ¬qn_k2_1 A v m i = true from by rw [show qn_k2_1 A v m i = (A.all (fun x => !(v == (nth x 0).int))) from rfl, hk]; simp)] at h
    split at h
    · rename_i ho
      obtain ⟨rfl, ht, rfl⟩ := is_iff.1 ho
      cases h
      refine ⟨_, (key ht).trans ?_⟩
      rw [hk]; rfl
    · cases h
theorem qn_is2 : LoopIs tab FT D44 live 150 qn_lo 0 2 := by
  refine loop_told (sl := qn_2_sl) (step := qn_2_st) (out := qn_2_out) (lor := qn_lo2) (fin := fun x => (qn_2_fin (x.1) (x.2.1) (x.2.2.1) (x.2.2.2))) (fun _ => rfl) ?_ (fun x n => qn_2_r x.1 x.2.1 x.2.2.1 x.2.2.2 n) (fun x ow => qn_2_h x.1 x.2.1 x.2.2.1 x.2.2.2 ow)
  intro s t h
  unfold qn_lo2 at h
  split at h
  · cases h; exact ⟨(_, _, _, _), rfl, rfl⟩
  · cases h
def qn_t (A : LL) (v : Int) : Tr (Int) := (.ite ((qn_k2_1 A v (A.length : Int) (0 : Int)) = true) (.ite ((qn_o2_2 A v (A.length : Int) (0 : Int)) = true) (.ok (-1 : Int))
   .no)
  (.ite ((qn_o2_3 A v (A.length : Int) (0 : Int)) = true) (.ok (qn_u2_3 A v (A.length : Int) (0 : Int)))
   .no))
def qn_mk (p : Int) : Res := [(false, [⟨.int .i64, .sh, TC.i p⟩])]
def qn_c (A : LL) (v : Int) : Bool := (bif (qn_k2_1 A v (A.length : Int) (0 : Int)) then ((qn_o2_2 A v (A.length : Int) (0 : Int)) && true) else ((qn_o2_3 A v (A.length : Int) (0 : Int)) && true))
def qn_v (A : LL) (v : Int) : Int := (bif (qn_k2_1 A v (A.length : Int) (0 : Int)) then (-1 : Int) else (qn_u2_3 A v (A.length : Int) (0 : Int)))
theorem qn_l (A : LL) (v : Int) : (qn_c A v) = true → (qn_t A v).val = some (qn_v A v) := by
  unfold qn_t qn_v qn_c
  exact fun h => (Tr.ss h (fun h => (Tr.gb h fun h => rfl)) (fun h => (Tr.gb h fun h => rfl)))
def qn_S : List Arg → Option (Bool × Res) := fun xs => match xs with
  | [(false, [(.slice 2, TC.l A)]), (false, [(.int .i64, TC.i v)])] => some ((qn_c A v), qn_mk (qn_v A v))
  | _ => .none
theorem qn_e (A : LL) (v : Int) : runF tab FT D44 live 150 qn_lo [(false, [(.slice 2, TC.l A)]), (false, [(.int .i64, TC.i v)])] = (qn_t A v).run fun p => some (qn_mk p) := by kernel_rfl
theorem qn_s : ∀ xs r, qn_S xs = some (true, r) → runF tab FT D44 live 150 qn_lo xs = some r := by
  intro xs r h
  unfold qn_S at h
  split at h
  · obtain ⟨h1, rfl⟩ := sp h
    exact fun_told (qn_e ..) (qn_l _ _) h1
  · cases h
def D45 : Dt := also D44 150 qn_S
theorem d45 : DOk Go.Proofs.Try.prog tab D45 := d44.also mixed_ok tab_ok names_ok (fnLoops_one (by kernel_rfl) qn_is2) qn_s
theorem qn_cc {A : LL} {v : Int} (hl : A.length ≤ 140737488351232) : (qn_c A v) = true := by
  unfold qn_c
  refine bifT (fun b1 => ?_) (fun b1 => ?_)
  · skip
    refine andT (by exact is_true ⟨rfl, hl, rfl⟩) ?_
    rfl
  · skip
    refine andT (by exact is_true ⟨rfl, hl, rfl⟩) ?_
    rfl
def qck_t (a0 : LL) (a1 : Int) : Tr (Bool) := (.ite ((qn_c a0 a1) = true) (.ok (decide ((qn_v a0 a1) ≥ (0 : Int))))
  .no)
def qck_mk (p : Bool) : Res := [(false, [⟨.bool, .sh, TC.b p⟩])]
def qck_c (a0 : LL) (a1 : Int) : Bool := (qn_c a0 a1)
def qck_v (a0 : LL) (a1 : Int) : Bool := (decide ((qn_v a0 a1) ≥ (0 : Int)))
theorem qck_l (a0 : LL) (a1 : Int) : (qck_c a0 a1) = true → (qck_t a0 a1).val = some (qck_v a0 a1) := by
  intro h
  have hc0 : (qn_c a0 a1) = true := h
  unfold qck_t
  exact (Tr.t hc0 rfl)
def qck_S : List Arg → Option (Bool × Res) := fun xs => match xs with
  | [(false, [(.slice 2, TC.l a0)]), (false, [(.int .i64, TC.i a1)])] => some ((qck_c a0 a1), qck_mk (qck_v a0 a1))
  | _ => .none
theorem qck_e (a0 : LL) (a1 : Int) : runF tab FT D45 live 136 noLoops [(false, [(.slice 2, TC.l a0)]), (false, [(.int .i64, TC.i a1)])] = (qck_t a0 a1).run fun p => some (qck_mk p) := by kernel_rfl
theorem qck_s : ∀ xs r, qck_S xs = some (true, r) → runF tab FT D45 live 136 noLoops xs = some r := by
  intro xs r h
  unfold qck_S at h
  split at h
  · obtain ⟨h1, rfl⟩ := sp h
    exact fun_told (qck_e ..) (qck_l _ _) h1
  · cases h
def D46 : Dt := also D45 136 qck_S
theorem d46 : DOk Go.Proofs.Try.prog tab D46 := d45.also mixed_ok tab_ok names_ok noLoops_ok qck_s
def qda_t (k s : Int) (sg bg : Bool) (NA NU ME BA : LL) (ct : Int) : Tr (Bool) := (.ite ((qck_c [[TC.i (1 : Int)], [TC.i (2 : Int)], [TC.i (4 : Int)], [TC.i (8 : Int)]] s) = true) (.ite ((qck_v [[TC.i (1 : Int)], [TC.i (2 : Int)], [TC.i (4 : Int)], [TC.i (8 : Int)]] s) = true) (.ite (sg = true) (.ite (bg = true) (.ok (!(s == (1 : Int))))
     (.ok true))
    (.ite ((decide (s < (8 : Int))) = true) (.ite (bg = true) (.ok (!(s == (1 : Int))))
      (.ok true))
     (.ok false)))
   (.ok false))
  .no)
def qda_mk (p : Bool) : Res := [(false, [⟨.bool, .sh, TC.b p⟩])]
def qda_c (k s : Int) (sg bg : Bool) (NA NU ME BA : LL) (ct : Int) : Bool := ((qck_c [[TC.i (1 : Int)], [TC.i (2 : Int)], [TC.i (4 : Int)], [TC.i (8 : Int)]] s) && (bif (qck_v [[TC.i (1 : Int)], [TC.i (2 : Int)], [TC.i (4 : Int)], [TC.i (8 : Int)]] s) then (bif sg then (bif bg then true else true) else (bif (decide (s < (8 : Int))) then (bif bg then true else true) else true)) else true))
def qda_v (k s : Int) (sg bg : Bool) (NA NU ME BA : LL) (ct : Int) : Bool := (bif (qck_v [[TC.i (1 : Int)], [TC.i (2 : Int)], [TC.i (4 : Int)], [TC.i (8 : Int)]] s) then (bif sg then (bif bg then (!(s == (1 : Int))) else true) else (bif (decide (s < (8 : Int))) then (bif bg then (!(s == (1 : Int))) else true) else false)) else false)
theorem qda_l (k s : Int) (sg bg : Bool) (NA NU ME BA : LL) (ct : Int) : (qda_c k s sg bg NA NU ME BA ct) = true → (qda_t k s sg bg NA NU ME BA ct).val = some (qda_v k s sg bg NA NU ME BA ct) := by
  unfold qda_t qda_v qda_c
  exact fun h => (Tr.gb h fun h => (Tr.ss h (fun h => (Tr.ss h (fun h => (Tr.ss h (fun h => rfl) (fun h => rfl))) (fun h => (Tr.ss h (fun h => (Tr.ss h (fun h => rfl) (fun h => rfl))) (fun h => rfl))))) (fun h => rfl)))
def qda_S : List Arg → Option (Bool × Res) := fun xs => match xs with
  | [(true, [(.int .i64, TC.i k), (.int .i64, TC.i s), (.bool, TC.b sg), (.bool, TC.b bg), (.slice 9, TC.l NA), (.slice 2, TC.l NU), (.slice 71, TC.l ME), (.slice 32, TC.l BA), (.int .i64, TC.i ct)])] => some ((qda_c k s sg bg NA NU ME BA ct), qda_mk (qda_v k s sg bg NA NU ME BA ct))
  | _ => .none
theorem qda_e (k s : Int) (sg bg : Bool) (NA NU ME BA : LL) (ct : Int) : runF tab FT D46 live 104 noLoops [(true, [(.int .i64, TC.i k), (.int .i64, TC.i s), (.bool, TC.b sg), (.bool, TC.b bg), (.slice 9, TC.l NA), (.slice 2, TC.l NU), (.slice 71, TC.l ME), (.slice 32, TC.l BA), (.int .i64, TC.i ct)])] = (qda_t k s sg bg NA NU ME BA ct).run fun p => some (qda_mk p) := by kernel_rfl
theorem qda_s : ∀ xs r, qda_S xs = some (true, r) → runF tab FT D46 live 104 noLoops xs = some r := by
  intro xs r h
  unfold qda_S at h
  split at h
  · obtain ⟨h1, rfl⟩ := sp h
    exact fun_told (qda_e ..) (qda_l _ _ _ _ _ _ _ _ _) h1
  · cases h
def D47 : Dt := also D46 104 qda_S
theorem d47 : DOk Go.Proofs.Try.prog tab D47 := d46.also mixed_ok tab_ok names_ok noLoops_ok qda_s
theorem qda_cc1 (k s : Int) (sg bg : Bool) (NA NU ME BA : LL) (ct : Int) : qda_c k s sg bg NA NU ME BA ct = true := by
  unfold qda_c
  rw [show qck_c [[TC.i (1 : Int)], [TC.i (2 : Int)], [TC.i (4 : Int)], [TC.i (8 : Int)]] s = true from qn_cc (by show 4 ≤ 140737488351232; omega)]
  simp only [bif_same, Bool.and_self]
theorem qda_vv (k s : Int) (sg bg : Bool) (NA NU ME BA : LL) (ct : Int) : qda_v k s sg bg NA NU ME BA ct = (has4 s && (!((s == 8) && !sg) && !((s == 1) && bg))) := by
  unfold qda_v
  rw [show qck_v [[TC.i (1 : Int)], [TC.i (2 : Int)], [TC.i (4 : Int)], [TC.i (8 : Int)]] s = has4 s from by
    show decide ((bif [[TC.i (1 : Int)], [TC.i (2 : Int)], [TC.i (4 : Int)], [TC.i (8 : Int)]].all (fun x => !(s == (nth x 0).int)) then -1 else Int.ofNat _) ≥ 0) = _
    rw [show [[TC.i (1 : Int)], [TC.i (2 : Int)], [TC.i (4 : Int)], [TC.i (8 : Int)]].all (fun x => !(s == (nth x 0).int)) = !(has4 s) from by
      show (!(s == (1 : Int)) && (!(s == (2 : Int)) && (!(s == (4 : Int)) && (!(s == (8 : Int)) && true)))) = _
      unfold has4
      cases (s == 1) <;> cases (s == 2) <;> cases (s == 4) <;> cases (s == 8) <;> rfl]
    cases has4 s <;> simp]
  cases h4 : has4 s with
  | false => rfl
  | true =>
    rw [show decide (s < 8) = !(s == 8) from by
      unfold has4 at h4
      simp only [Bool.or_eq_true, beq_iff_eq] at h4
      rcases h4 with ((rfl | rfl) | rfl) | rfl <;> decide]
    cases sg <;> cases (s == 8) <;> cases bg <;> cases (s == 1) <;> rfl
def qdb_t (a0 a1 a2 : Int) : Tr (Bool) := (.ite ((decide (a0 ≥ a1)) = true) (.ok (decide (a0 ≤ a2)))
  (.ok false))
def qdb_mk (p : Bool) : Res := [(false, [⟨.bool, .sh, TC.b p⟩])]
def qdb_c (a0 a1 a2 : Int) : Bool := true
def qdb_v (a0 a1 a2 : Int) : Bool := (bif (decide (a0 ≥ a1)) then (decide (a0 ≤ a2)) else false)
theorem qdb_l (a0 a1 a2 : Int) : (qdb_c a0 a1 a2) = true → (qdb_t a0 a1 a2).val = some (qdb_v a0 a1 a2) := by
  intro h
  skip
  unfold qdb_t qdb_v
  exact (Tr.s rfl rfl)
def qdb_S : List Arg → Option (Bool × Res) := fun xs => match xs with
  | [(false, [(.int .i64, TC.i a0)]), (false, [(.int .i64, TC.i a1)]), (false, [(.int .i64, TC.i a2)])] => some (true, qdb_mk (qdb_v a0 a1 a2))
  | _ => .none
theorem qdb_e (a0 a1 a2 : Int) : runF tab FT D47 live 105 noLoops [(false, [(.int .i64, TC.i a0)]), (false, [(.int .i64, TC.i a1)]), (false, [(.int .i64, TC.i a2)])] = (qdb_t a0 a1 a2).run fun p => some (qdb_mk p) := by kernel_rfl
theorem qdb_s : ∀ xs r, qdb_S xs = some (true, r) → runF tab FT D47 live 105 noLoops xs = some r := by
  intro xs r h
  unfold qdb_S at h
  split at h
  · obtain ⟨h1, rfl⟩ := sp h
    exact fun_told (qdb_e ..) (qdb_l _ _ _) rfl
  · cases h
def D48 : Dt := also D47 105 qdb_S
theorem d48 : DOk Go.Proofs.Try.prog tab D48 := d47.also mixed_ok tab_ok names_ok noLoops_ok qdb_s
section
class qbd_O where n : Nat
variable [i_impl_Type_valid : qbd_O]
def qbd_rc (k s : Int) (sg bg : Bool) (NA NU ME BA : LL) (ct d : Int) : Bool := is (max (rowsDep ME) (rowsDep BA) < qbd_O.n ∧ d ≤ 3 ∧ max (rowsDep ME) (rowsDep BA) < qbm_O.n ∧ max (rowsDep ME) (rowsDep BA) < qbh_O.n ∧ Typed tab (.slice 9) (.l NA) ∧ Typed tab (.slice 2) (.l NU) ∧ Typed tab (.slice 71) (.l ME) ∧ Typed tab (.slice 32) (.l BA))
def qbd_rv (k s : Int) (sg bg : Bool) (NA NU ME BA : LL) (ct d : Int) : Bool := validV k s sg bg NA NU ME BA ct d
def qbd_rmk (p : Bool) : Res := [(false, [⟨.bool, .sh, TC.b p⟩])]
def qbd_rS : List Arg → Option (Bool × Res) := fun xs => match xs with
  | [(true, [(.int .i64, TC.i k), (.int .i64, TC.i s), (.bool, TC.b sg), (.bool, TC.b bg), (.slice 9, TC.l NA), (.slice 2, TC.l NU), (.slice 71, TC.l ME), (.slice 32, TC.l BA), (.int .i64, TC.i ct)]), (false, [(.int .i64, TC.i d)])] => some ((qbd_rc k s sg bg NA NU ME BA ct d), qbd_rmk (qbd_rv k s sg bg NA NU ME BA ct d))
  | _ => .none
def D49 : Dt := also D48 73 qbd_rS
class qbd_G : Prop where ok : DOk Go.Proofs.Try.prog tab D49
variable [g_impl_Type_valid : qbd_G]
theorem d49 : DOk Go.Proofs.Try.prog tab D49 := qbd_G.ok
def qbn_t (k s : Int) (sg bg : Bool) (NA NU ME BA : LL) (ct : Int) : Tr (Int × Int) := (.ite (sg = true) (.ite (0 ≤ (IntKind.wrap .i64 ((IntKind.wrap .i64 ((8 : Int) * s)) - (1 : Int)))) (.ite (0 ≤ (IntKind.wrap .i64 ((IntKind.wrap .i64 ((8 : Int) * s)) - (1 : Int)))) (.ok ((IntKind.wrap .i64 ((-1 : Int) * (2 ^ (min ((IntKind.wrap .i64 ((IntKind.wrap .i64 ((8 : Int) * s)) - (1 : Int)))).toNat 64)))), (IntKind.wrap .i64 ((IntKind.wrap .i64 ((1 : Int) * (2 ^ (min ((IntKind.wrap .i64 ((IntKind.wrap .i64 ((8 : Int) * s)) - (1 : Int)))).toNat 64)))) - (1 : Int)))))
    .no)
   .no)
  (.ite (0 ≤ (IntKind.wrap .i64 ((8 : Int) * s))) (.ok ((0 : Int), (IntKind.wrap .i64 ((IntKind.wrap .i64 ((1 : Int) * (2 ^ (min ((IntKind.wrap .i64 ((8 : Int) * s))).toNat 64)))) - (1 : Int)))))
   .no))
def qbn_mk (p : Int × Int) : Res := [(false, [⟨.int .i64, .sh, TC.i (p.1)⟩]), (false, [⟨.int .i64, .sh, TC.i (p.2)⟩])]
def qbn_c (k s : Int) (sg bg : Bool) (NA NU ME BA : LL) (ct : Int) : Bool := (bif sg then (is (0 ≤ (IntKind.wrap .i64 ((IntKind.wrap .i64 ((8 : Int) * s)) - (1 : Int)))) && (is (0 ≤ (IntKind.wrap .i64 ((IntKind.wrap .i64 ((8 : Int) * s)) - (1 : Int)))) && true)) else (is (0 ≤ (IntKind.wrap .i64 ((8 : Int) * s))) && true))
def qbn_v (k s : Int) (sg bg : Bool) (NA NU ME BA : LL) (ct : Int) : Int × Int := (bif sg then ((IntKind.wrap .i64 ((-1 : Int) * (2 ^ (min ((IntKind.wrap .i64 ((IntKind.wrap .i64 ((8 : Int) * s)) - (1 : Int)))).toNat 64)))), (IntKind.wrap .i64 ((IntKind.wrap .i64 ((1 : Int) * (2 ^ (min ((IntKind.wrap .i64 ((IntKind.wrap .i64 ((8 : Int) * s)) - (1 : Int)))).toNat 64)))) - (1 : Int)))) else ((0 : Int), (IntKind.wrap .i64 ((IntKind.wrap .i64 ((1 : Int) * (2 ^ (min ((IntKind.wrap .i64 ((8 : Int) * s))).toNat 64)))) - (1 : Int)))))
theorem qbn_l (k s : Int) (sg bg : Bool) (NA NU ME BA : LL) (ct : Int) : (qbn_c k s sg bg NA NU ME BA ct) = true → (qbn_t k s sg bg NA NU ME BA ct).val = some (qbn_v k s sg bg NA NU ME BA ct) := by
  unfold qbn_t qbn_v qbn_c
  exact fun h => (Tr.ss h (fun h => (Tr.gs h fun h => (Tr.gs h fun h => rfl))) (fun h => (Tr.gs h fun h => rfl)))
def qbn_S : List Arg → Option (Bool × Res) := fun xs => match xs with
  | [(true, [(.int .i64, TC.i k), (.int .i64, TC.i s), (.bool, TC.b sg), (.bool, TC.b bg), (.slice 9, TC.l NA), (.slice 2, TC.l NU), (.slice 71, TC.l ME), (.slice 32, TC.l BA), (.int .i64, TC.i ct)])] => some ((qbn_c k s sg bg NA NU ME BA ct), qbn_mk (qbn_v k s sg bg NA NU ME BA ct))
  | _ => .none
theorem qbn_e (k s : Int) (sg bg : Bool) (NA NU ME BA : LL) (ct : Int) : runF tab FT D49 live 113 noLoops [(true, [(.int .i64, TC.i k), (.int .i64, TC.i s), (.bool, TC.b sg), (.bool, TC.b bg), (.slice 9, TC.l NA), (.slice 2, TC.l NU), (.slice 71, TC.l ME), (.slice 32, TC.l BA), (.int .i64, TC.i ct)])] = (qbn_t k s sg bg NA NU ME BA ct).run fun p => some (qbn_mk p) := by kernel_rfl
theorem qbn_s : ∀ xs r, qbn_S xs = some (true, r) → runF tab FT D49 live 113 noLoops xs = some r := by
  intro xs r h
  unfold qbn_S at h
  split at h
  · obtain ⟨h1, rfl⟩ := sp h
    exact fun_told (qbn_e ..) (qbn_l _ _ _ _ _ _ _ _ _) h1
  · cases h
def D50 : Dt := also D49 113 qbn_S
theorem d50 : DOk Go.Proofs.Try.prog tab D50 := d49.also mixed_ok tab_ok names_ok noLoops_ok qbn_s
theorem irange {k s : Int} {sg bg : Bool} {NA NU ME BA : LL} {ct : Int} (h : intV s sg bg NA NU ME BA ct = true) : qbn_c k s sg bg NA NU ME BA ct = true ∧ (qbn_v k s sg bg NA NU ME BA ct).1 = loV s sg ∧ (qbn_v k s sg bg NA NU ME BA ct).2 = hiV s sg := by
  unfold intV has4 at h
  simp only [Bool.and_eq_true, Bool.or_eq_true, beq_iff_eq] at h
  have hs := h.1.1.1
  have h8 := h.1.1.2
  rcases hs with ((rfl | rfl) | rfl) | rfl <;> cases sg <;> first | (exact ⟨by unfold qbn_c; first | exact andT (is_true (by decide)) (andT (is_true (by decide)) rfl) | exact andT (is_true (by decide)) rfl, by unfold qbn_v loV; decide, by unfold qbn_v hiV; decide⟩) | (exact absurd h8 (by decide))
def qbl_f2 (s : BS) (m i : Int) : (Unit) ⊕ ((BS) ⊕ (BS)) := (bif (decide (((s.getD (i).toNat 0).toNat : Int) ≥ (65 : Int))) then (bif (decide (((s.getD (i).toNat 0).toNat : Int) ≤ (90 : Int))) then (.inl ()) else (bif (decide (((s.getD (i).toNat 0).toNat : Int) ≥ (97 : Int))) then (bif (!(decide (((s.getD (i).toNat 0).toNat : Int) ≤ (122 : Int)))) then (bif (i == (0 : Int)) then (.inr (.inl s)) else (bif (decide (((s.getD (i).toNat 0).toNat : Int) < (48 : Int))) then (bif (!(((s.getD (i).toNat 0).toNat : Int) == (95 : Int))) then (.inr (.inl s)) else (.inl ())) else (bif (decide (((s.getD (i).toNat 0).toNat : Int) > (57 : Int))) then (bif (!(((s.getD (i).toNat 0).toNat : Int) == (95 : Int))) then (.inr (.inl s)) else (.inl ())) else (.inl ())))) else (.inl ())) else (bif (i == (0 : Int)) then (.inr (.inl s)) else (bif (decide (((s.getD (i).toNat 0).toNat : Int) < (48 : Int))) then (bif (!(((s.getD (i).toNat 0).toNat : Int) == (95 : Int))) then (.inr (.inl s)) else (.inl ())) else (bif (decide (((s.getD (i).toNat 0).toNat : Int) > (57 : Int))) then (bif (!(((s.getD (i).toNat 0).toNat : Int) == (95 : Int))) then (.inr (.inl s)) else (.inl ())) else (.inl ())))))) else (bif (decide (((s.getD (i).toNat 0).toNat : Int) ≥ (97 : Int))) then (bif (!(decide (((s.getD (i).toNat 0).toNat : Int) ≤ (122 : Int)))) then (bif (i == (0 : Int)) then (.inr (.inl s)) else (bif (decide (((s.getD (i).toNat 0).toNat : Int) < (48 : Int))) then (bif (!(((s.getD (i).toNat 0).toNat : Int) == (95 : Int))) then (.inr (.inl s)) else (.inl ())) else (bif (decide (((s.getD (i).toNat 0).toNat : Int) > (57 : Int))) then (bif (!(((s.getD (i).toNat 0).toNat : Int) == (95 : Int))) then (.inr (.inl s)) else (.inl ())) else (.inl ())))) else (.inl ())) else (bif (i == (0 : Int)) then (.inr (.inl s)) else (bif (decide (((s.getD (i).toNat 0).toNat : Int) < (48 : Int))) then (bif (!(((s.getD (i).toNat 0).toNat : Int) == (95 : Int))) then (.inr (.inl s)) else (.inl ())) else (bif (decide (((s.getD (i).toNat 0).toNat : Int) > (57 : Int))) then (bif (!(((s.getD (i).toNat 0).toNat : Int) == (95 : Int))) then (.inr (.inl s)) else (.inl ())) else (.inl ()))))))
def qbl_e2 (s : BS) (m : Int) : (BS) ⊕ (BS) := .inr s
def qbl_R2 (s : BS) (m i : Int) : (BS) ⊕ (BS) := iter (fun i a => (qbl_f2 s m (i : Int))) (fun a => (qbl_e2 s m)) (s.length) 0 ()
abbrev qbl_2_σ := BS × Int × Int
abbrev qbl_2_ω := (BS) ⊕ (BS)
def qbl_2_step (s : BS) (m i : Int) : Tr (qbl_2_σ ⊕ qbl_2_ω) := (.ite ((decide (i < m)) = true) (.ite ((0 : Int) ≤ i ∧ i < (s.length : Int)) (.ite ((decide (((s.getD (i).toNat 0).toNat : Int) ≥ (65 : Int))) = true) (.ite ((decide (((s.getD (i).toNat 0).toNat : Int) ≤ (90 : Int))) = true) (.ok (.inl (s, m, (IntKind.wrap .i64 (i + (1 : Int))))))
     (.ite ((decide (((s.getD (i).toNat 0).toNat : Int) ≥ (97 : Int))) = true) (.ite ((!(decide (((s.getD (i).toNat 0).toNat : Int) ≤ (122 : Int)))) = true) (.ite ((i == (0 : Int)) = true) (.ok (.inr (.inl s)))
        (.ite ((decide (((s.getD (i).toNat 0).toNat : Int) < (48 : Int))) = true) (.ite ((!(((s.getD (i).toNat 0).toNat : Int) == (95 : Int))) = true) (.ok (.inr (.inl s)))
          (.ok (.inl (s, m, (IntKind.wrap .i64 (i + (1 : Int)))))))
         (.ite ((decide (((s.getD (i).toNat 0).toNat : Int) > (57 : Int))) = true) (.ite ((!(((s.getD (i).toNat 0).toNat : Int) == (95 : Int))) = true) (.ok (.inr (.inl s)))
           (.ok (.inl (s, m, (IntKind.wrap .i64 (i + (1 : Int)))))))
          (.ok (.inl (s, m, (IntKind.wrap .i64 (i + (1 : Int)))))))))
       (.ok (.inl (s, m, (IntKind.wrap .i64 (i + (1 : Int)))))))
      (.ite ((i == (0 : Int)) = true) (.ok (.inr (.inl s)))
       (.ite ((decide (((s.getD (i).toNat 0).toNat : Int) < (48 : Int))) = true) (.ite ((!(((s.getD (i).toNat 0).toNat : Int) == (95 : Int))) = true) (.ok (.inr (.inl s)))
         (.ok (.inl (s, m, (IntKind.wrap .i64 (i + (1 : Int)))))))
        (.ite ((decide (((s.getD (i).toNat 0).toNat : Int) > (57 : Int))) = true) (.ite ((!(((s.getD (i).toNat 0).toNat : Int) == (95 : Int))) = true) (.ok (.inr (.inl s)))
          (.ok (.inl (s, m, (IntKind.wrap .i64 (i + (1 : Int)))))))
         (.ok (.inl (s, m, (IntKind.wrap .i64 (i + (1 : Int)))))))))))
    (.ite ((decide (((s.getD (i).toNat 0).toNat : Int) ≥ (97 : Int))) = true) (.ite ((!(decide (((s.getD (i).toNat 0).toNat : Int) ≤ (122 : Int)))) = true) (.ite ((i == (0 : Int)) = true) (.ok (.inr (.inl s)))
       (.ite ((decide (((s.getD (i).toNat 0).toNat : Int) < (48 : Int))) = true) (.ite ((!(((s.getD (i).toNat 0).toNat : Int) == (95 : Int))) = true) (.ok (.inr (.inl s)))
         (.ok (.inl (s, m, (IntKind.wrap .i64 (i + (1 : Int)))))))
        (.ite ((decide (((s.getD (i).toNat 0).toNat : Int) > (57 : Int))) = true) (.ite ((!(((s.getD (i).toNat 0).toNat : Int) == (95 : Int))) = true) (.ok (.inr (.inl s)))
          (.ok (.inl (s, m, (IntKind.wrap .i64 (i + (1 : Int)))))))
         (.ok (.inl (s, m, (IntKind.wrap .i64 (i + (1 : Int)))))))))
      (.ok (.inl (s, m, (IntKind.wrap .i64 (i + (1 : Int)))))))
     (.ite ((i == (0 : Int)) = true) (.ok (.inr (.inl s)))
      (.ite ((decide (((s.getD (i).toNat 0).toNat : Int) < (48 : Int))) = true) (.ite ((!(((s.getD (i).toNat 0).toNat : Int) == (95 : Int))) = true) (.ok (.inr (.inl s)))
        (.ok (.inl (s, m, (IntKind.wrap .i64 (i + (1 : Int)))))))
       (.ite ((decide (((s.getD (i).toNat 0).toNat : Int) > (57 : Int))) = true) (.ite ((!(((s.getD (i).toNat 0).toNat : Int) == (95 : Int))) = true) (.ok (.inr (.inl s)))
         (.ok (.inl (s, m, (IntKind.wrap .i64 (i + (1 : Int)))))))
        (.ok (.inl (s, m, (IntKind.wrap .i64 (i + (1 : Int)))))))))))
   .no)
  (.ok (.inr (.inr s))))
def qbl_2_st : qbl_2_σ → Tr (qbl_2_σ ⊕ qbl_2_ω) := fun x => (qbl_2_step (x.1) (x.2.1) (x.2.2))
def qbl_k2_1 (s : BS) (m i : Int) : Bool := sumIs (qbl_R2 s m i)
def qbl_o2_2 (s : BS) (m i : Int) : Bool := is (i = 0 ∧ s.length ≤ 140737488355328 ∧ m = (s.length : Int))
def qbl_o2_3 (s : BS) (m i : Int) : Bool := is (i = 0 ∧ s.length ≤ 140737488355328 ∧ m = (s.length : Int))
def qbl_2_fin (s : BS) (m i : Int) : Told qbl_2_ω := (.br (qbl_k2_1 s m i) (.leaf (qbl_o2_2 s m i) (.inl s)) (.leaf (qbl_o2_3 s m i) (.inr s)))
def qbl_2_sl (x : qbl_2_σ) : List Slot := [⟨.val false [⟨.str, .sh, TC.s (x.1)⟩], ⟨0, 0⟩⟩, ⟨.val false [⟨.int .i64, .sh, TC.i (x.2.1)⟩], ⟨0, 0⟩⟩, ⟨.val false [⟨.int .i64, .sh, TC.i (x.2.2)⟩], ⟨0, 0⟩⟩]
def qbl_2_out : qbl_2_ω → Ex × List Slot := (Sum.elim (fun x => (.ret, [⟨.val false [⟨.str, .sh, TC.s x⟩], ⟨0, 0⟩⟩, ⟨.val false [⟨.bool, .sh, TC.b false⟩], ⟨0, 0⟩⟩])) (fun x => (.exit 0, [⟨.val false [⟨.str, .sh, TC.s x⟩], ⟨0, 0⟩⟩, Slot.none])))
def qbl_lo2 : List Slot → Option (Told (Ex × List Slot)) := fun s => match s with
  | [⟨.val false [⟨.str, .sh, TC.s s⟩], ⟨0, 0⟩⟩, ⟨.val false [⟨.int .i64, .sh, TC.i m⟩], ⟨0, 0⟩⟩, ⟨.val false [⟨.int .i64, .sh, TC.i i⟩], ⟨0, 0⟩⟩] => some (((qbl_2_fin s m i)).map qbl_2_out)
  | _ => .none
def qbl_lo : LoopTeller := fun r s => bif Nat.beq r 2 then qbl_lo2 s else .none
theorem qbl_2_r (s : BS) (m i : Int) (fuel : Nat) : rounds (rnd tab FT D50 live 151 qbl_lo 0 2) leave (fuel + 1) (qbl_2_sl (s, m, i)) = ((qbl_2_step s m i)).run (goOn (fun s => rounds (rnd tab FT D50 live 151 qbl_lo 0 2) leave fuel (qbl_2_sl s)) fun w => some (qbl_2_out w)) := by kernel_rfl
theorem qbl_f2_eq (s : BS) (m i : Int) : qbl_f2 s m i = bif nameB i ((s.getD (i).toNat 0).toNat : Int) then Sum.inl () else Sum.inr (Sum.inl s) := by
  unfold qbl_f2 nameB letterB
  simp only [dlt, dgt]
  generalize ((s.getD i.toNat 0).toNat : Int) = c
  generalize decide (c ≥ 65) = p0, decide (c ≤ 90) = p1, decide (c ≥ 97) = p2, decide (c ≤ 122) = p3, decide (c ≥ 48) = p4, decide (c ≤ 57) = p5, (c == 95) = p6, (i == 0) = p7
  cases p0 <;> cases p1 <;> cases p2 <;> cases p3 <;> cases p4 <;> cases p5 <;> cases p6 <;> cases p7 <;> rfl
theorem qbl_R2_eq (s : BS) (m : Int)  : qbl_R2 s m 0 = bif allI (fun i : Nat => nameB (i : Int) ((s.getD ((i : Int)).toNat 0).toNat : Int)) (s.length) then Sum.inr s else (Sum.inl s) := by
  unfold qbl_R2
  exact (iter_all (P := (fun i : Nat => nameB (i : Int) ((s.getD ((i : Int)).toNat 0).toNat : Int))) (g := fun _ a => a) (w := Sum.inl s) fun j a _ => qbl_f2_eq s m _)
theorem qbl_2_h (s : BS) (m i : Int) (ow : qbl_2_ω) : ((qbl_2_fin s m i)).val = some ow → ∃ fuel, loopN qbl_2_st fuel (s, m, i) = some ow := by
  refine auto_const (R := (qbl_R2 s m i)) rfl (iter_onR (f := (fun i a => (qbl_f2 s m (i : Int)))) (fin := (fun a => (qbl_e2 s m))) (Q := endsAs s s) (fun i a => by unfold qbl_f2; exact (onR_bif (onR_bif trivial (onR_bif (onR_bif (onR_bif rfl (onR_bif (onR_bif rfl trivial) (onR_bif (onR_bif rfl trivial) trivial))) trivial) (onR_bif rfl (onR_bif (onR_bif rfl trivial) (onR_bif (onR_bif rfl trivial) trivial))))) (onR_bif (onR_bif (onR_bif rfl (onR_bif (onR_bif rfl trivial) (onR_bif (onR_bif rfl trivial) trivial))) trivial) (onR_bif rfl (onR_bif (onR_bif rfl trivial) (onR_bif (onR_bif rfl trivial) trivial)))))) (fun _ => rfl) _ _ _) ?_
  intro ho
  have ho : is (i = 0 ∧ s.length ≤ 140737488355328 ∧ m = (s.length : Int)) = true := ho.elim id id
  obtain ⟨rfl, hs, rfl⟩ := is_iff.1 ho
  skip
  refine ⟨(s.length) + 1, ?_⟩
  refine iter_loop (step := qbl_2_st) (s.length) (fun i a => (qbl_f2 s (s.length : Int) (i : Int))) (fun a => (qbl_e2 s (s.length : Int))) (fun i a => (s, (s.length : Int), (i : Int))) (fun _ _ => True) trivial (fun i a hi hI => ⟨?_, fun _ _ => trivial⟩) (fun a hI => ?_)
  · show (qbl_2_step s (s.length : Int) (i : Int)).val = _
    unfold qbl_2_step qbl_f2
    skip
    refine Tr.t (by simp; omega) ?_
    exact (Tr.t (by first | omega | (constructor <;> omega)) (Tr.bf (Tr.bf (by rw [Tr.val_ok, wrap64 (i := (i : Int) + 1) (by omega) (by omega)]; rfl) (Tr.bf (Tr.bf (Tr.bf rfl (Tr.bf (Tr.bf rfl (by rw [Tr.val_ok, wrap64 (i := (i : Int) + 1) (by omega) (by omega)]; rfl)) (Tr.bf (Tr.bf rfl (by rw [Tr.val_ok, wrap64 (i := (i : Int) + 1) (by omega) (by omega)]; rfl)) (by rw [Tr.val_ok, wrap64 (i := (i : Int) + 1) (by omega) (by omega)]; rfl)))) (by rw [Tr.val_ok, wrap64 (i := (i : Int) + 1) (by omega) (by omega)]; rfl)) (Tr.bf rfl (Tr.bf (Tr.bf rfl (by rw [Tr.val_ok, wrap64 (i := (i : Int) + 1) (by omega) (by omega)]; rfl)) (Tr.bf (Tr.bf rfl (by rw [Tr.val_ok, wrap64 (i := (i : Int) + 1) (by omega) (by omega)]; rfl)) (by rw [Tr.val_ok, wrap64 (i := (i : Int) + 1) (by omega) (by omega)]; rfl)))))) (Tr.bf (Tr.bf (Tr.bf rfl (Tr.bf (Tr.bf rfl (by rw [Tr.val_ok, wrap64 (i := (i : Int) + 1) (by omega) (by omega)]; rfl)) (Tr.bf (Tr.bf rfl (by rw [Tr.val_ok, wrap64 (i := (i : Int) + 1) (by omega) (by omega)]; rfl)) (by rw [Tr.val_ok, wrap64 (i := (i : Int) + 1) (by omega) (by omega)]; rfl)))) (by rw [Tr.val_ok, wrap64 (i := (i : Int) + 1) (by omega) (by omega)]; rfl)) (Tr.bf rfl (Tr.bf (Tr.bf rfl (by rw [Tr.val_ok, wrap64 (i := (i : Int) + 1) (by omega) (by omega)]; rfl)) (Tr.bf (Tr.bf rfl (by rw [Tr.val_ok, wrap64 (i := (i : Int) + 1) (by omega) (by omega)]; rfl)) (by rw [Tr.val_ok, wrap64 (i := (i : Int) + 1) (by omega) (by omega)]; rfl)))))))
  · show (qbl_2_step s (s.length : Int) (s.length : Int)).val = _
    refine Tr.n (by first | (simp; done) | (simp; omega) | omega) ?_
    rfl
theorem qbl_is2 : LoopIs tab FT D50 live 151 qbl_lo 0 2 := by
  refine loop_told (sl := qbl_2_sl) (step := qbl_2_st) (out := qbl_2_out) (lor := qbl_lo2) (fin := fun x => (qbl_2_fin (x.1) (x.2.1) (x.2.2))) (fun _ => rfl) ?_ (fun x n => qbl_2_r x.1 x.2.1 x.2.2 n) (fun x ow => qbl_2_h x.1 x.2.1 x.2.2 ow)
  intro s t h
  unfold qbl_lo2 at h
  split at h
  · cases h; exact ⟨(_, _, _), rfl, rfl⟩
  · cases h
def qbl_t (s : BS) : Tr (Bool) := (.ite ((qbl_k2_1 s (s.length : Int) (0 : Int)) = true) (.ite ((qbl_o2_2 s (s.length : Int) (0 : Int)) = true) (.ok false)
   .no)
  (.ite ((qbl_o2_3 s (s.length : Int) (0 : Int)) = true) (.ite ((decide ((s.length : Int) ≥ (1 : Int))) = true) (.ok (decide ((s.length : Int) ≤ (12 : Int))))
    (.ok false))
   .no))
def qbl_mk (p : Bool) : Res := [(false, [⟨.bool, .sh, TC.b p⟩])]
def qbl_c (s : BS) : Bool := (bif (qbl_k2_1 s (s.length : Int) (0 : Int)) then ((qbl_o2_2 s (s.length : Int) (0 : Int)) && true) else ((qbl_o2_3 s (s.length : Int) (0 : Int)) && (bif (decide ((s.length : Int) ≥ (1 : Int))) then true else true)))
def qbl_v (s : BS) : Bool := (bif (qbl_k2_1 s (s.length : Int) (0 : Int)) then false else (bif (decide ((s.length : Int) ≥ (1 : Int))) then (decide ((s.length : Int) ≤ (12 : Int))) else false))
theorem qbl_l (s : BS) : (qbl_c s) = true → (qbl_t s).val = some (qbl_v s) := by
  unfold qbl_t qbl_v qbl_c
  exact fun h => (Tr.ss h (fun h => (Tr.gb h fun h => rfl)) (fun h => (Tr.gb h fun h => (Tr.ss h (fun h => rfl) (fun h => rfl)))))
def qbl_S : List Arg → Option (Bool × Res) := fun xs => match xs with
  | [(false, [(.str, TC.s s)])] => some ((qbl_c s), qbl_mk (qbl_v s))
  | _ => .none
theorem qbl_e (s : BS) : runF tab FT D50 live 151 qbl_lo [(false, [(.str, TC.s s)])] = (qbl_t s).run fun p => some (qbl_mk p) := by kernel_rfl
theorem qbl_s : ∀ xs r, qbl_S xs = some (true, r) → runF tab FT D50 live 151 qbl_lo xs = some r := by
  intro xs r h
  unfold qbl_S at h
  split at h
  · obtain ⟨h1, rfl⟩ := sp h
    exact fun_told (qbl_e _) (qbl_l _) h1
  · cases h
def D51 : Dt := also D50 151 qbl_S
theorem d51 : DOk Go.Proofs.Try.prog tab D51 := d50.also mixed_ok tab_ok names_ok (fnLoops_one (by kernel_rfl) qbl_is2) qbl_s
theorem qbl_cc {s : BS} (hs : Typed tab (.str) (.s s)) : (qbl_c s) = true := by
  unfold qbl_c
  refine bifT (fun b1 => ?_) (fun b1 => ?_)
  · skip
    refine andT (by exact is_true ⟨rfl, by have := typed_str_len hs; omega, rfl⟩) ?_
    rfl
  · skip
    refine andT (by exact is_true ⟨rfl, by have := typed_str_len hs; omega, rfl⟩) ?_
    refine bifT (fun b2 => ?_) (fun b2 => ?_)
    · skip
      rfl
    · skip
      rfl
theorem qbl_vv (s : BS) : qbl_v s = nameOk s := by
  unfold qbl_v qbl_k2_1 nameOk
  rw [qbl_R2_eq]
  generalize allI (fun i : Nat => nameB (i : Int) ((s.getD ((i : Int)).toNat 0).toNat : Int)) s.length = q
  cases q
  · simp [sumIs]
  · show (bif decide ((s.length : Int) ≥ 1) then decide ((s.length : Int) ≤ 12) else false) = (decide ((s.length : Int) ≥ 1) && decide ((s.length : Int) ≤ 12) && true)
    generalize decide ((s.length : Int) ≥ 1) = q1, decide ((s.length : Int) ≤ 12) = q2
    cases q1 <;> cases q2 <;> rfl
abbrev qo_2_σ := LL × BS × Int × Int
abbrev qo_2_ω := (Int) ⊕ (Unit)
def qo_2_step (A : LL) (s : BS) (m i : Int) : Tr (qo_2_σ ⊕ qo_2_ω) := (.ite ((decide (i < m)) = true) (.ite ((0 : Int) ≤ i ∧ i < (A.length : Int)) (.ite ((s == (nth (row A i) 0).str) = true) (.ok (.inr (.inl i)))
    (.ok (.inl (A, s, m, (IntKind.wrap .i64 (i + (1 : Int)))))))
   .no)
  (.ok (.inr (.inr ()))))
def qo_2_st : qo_2_σ → Tr (qo_2_σ ⊕ qo_2_ω) := fun x => (qo_2_step (x.1) (x.2.1) (x.2.2.1) (x.2.2.2))
def qo_k2_1 (A : LL) (s : BS) (m i : Int) : Bool := A.all (fun x => !(s == (nth x 0).str))
def qo_o2_2 (A : LL) (s : BS) (m i : Int) : Bool := is (i = 0 ∧ Typed tab (.slice 9) (.l A) ∧ m = (A.length : Int))
def qo_o2_3 (A : LL) (s : BS) (m i : Int) : Bool := is (i = 0 ∧ Typed tab (.slice 9) (.l A) ∧ m = (A.length : Int))
def qo_u2_3 (A : LL) (s : BS) (m i : Int) : Int := (Int.ofNat (A.findIdx fun x => !(fun x => !(s == (nth x 0).str)) x))
def qo_2_fin (A : LL) (s : BS) (m i : Int) : Told qo_2_ω := (.br (qo_k2_1 A s m i) (.leaf (qo_o2_2 A s m i) (.inr ())) (.leaf (qo_o2_3 A s m i) (.inl (qo_u2_3 A s m i))))
def qo_2_sl (x : qo_2_σ) : List Slot := [⟨.val false [⟨.slice 9, .sh, TC.l (x.1)⟩], ⟨0, 0⟩⟩, ⟨.val false [⟨.str, .sh, TC.s (x.2.1)⟩], ⟨0, 0⟩⟩, ⟨.val false [⟨.int .i64, .sh, TC.i (x.2.2.1)⟩], ⟨0, 0⟩⟩, ⟨.val false [⟨.int .i64, .sh, TC.i (x.2.2.2)⟩], ⟨0, 0⟩⟩]
def qo_2_out : qo_2_ω → Ex × List Slot := (Sum.elim (fun x => (.ret, [⟨.val false [⟨.int .i64, .sh, TC.i x⟩], ⟨0, 0⟩⟩])) (fun x => (.exit 0, [Slot.none])))
def qo_lo2 : List Slot → Option (Told (Ex × List Slot)) := fun s => match s with
  | [⟨.val false [⟨.slice 9, .sh, TC.l A⟩], ⟨0, 0⟩⟩, ⟨.val false [⟨.str, .sh, TC.s s⟩], ⟨0, 0⟩⟩, ⟨.val false [⟨.int .i64, .sh, TC.i m⟩], ⟨0, 0⟩⟩, ⟨.val false [⟨.int .i64, .sh, TC.i i⟩], ⟨0, 0⟩⟩] => some (((qo_2_fin A s m i)).map qo_2_out)
  | _ => .none
def qo_lo : LoopTeller := fun r s => bif Nat.beq r 2 then qo_lo2 s else .none
theorem qo_2_r (A : LL) (s : BS) (m i : Int) (fuel : Nat) : rounds (rnd tab FT D51 live 142 qo_lo 0 2) leave (fuel + 1) (qo_2_sl (A, s, m, i)) = ((qo_2_step A s m i)).run (goOn (fun s => rounds (rnd tab FT D51 live 142 qo_lo 0 2) leave fuel (qo_2_sl s)) fun w => some (qo_2_out w)) := by kernel_rfl
theorem qo_2_h (A : LL) (s : BS) (m i : Int) (ow : qo_2_ω) : ((qo_2_fin A s m i)).val = some ow → ∃ fuel, loopN qo_2_st fuel (A, s, m, i) = some ow := by
  intro h
  have key : Typed tab (.slice 9) (.l A) → loopN qo_2_st (A.length + 1) (A, s, (A.length : Int), (0 : Int)) = some (if A.all (fun x => !(s == (nth x 0).str)) = true then (.inr ()) else (.inl (Int.ofNat (A.findIdx fun x => !(fun x => !(s == (nth x 0).str)) x)))) := by
    intro ht
    have hlen : A.length ≤ 140737488351232 := by have := typed_room ht; simp only [show (tab 9).bytes = 16 from rfl] at this; omega
    have key := loopN_scan (step := qo_2_st) A [] (fun x => !(s == (nth x 0).str)) (fun a _ => a) (fun i a => (A, s, (A.length : Int), (i : Int))) (fun a => (.inr ())) (fun i a => (.inl (i : Int))) (fun i a hi => ?_) (fun a => ?_) A.length 0 () (by omega)
    · first | (rw [Nat.zero_add] at key; exact key) | exact key
    · have c0 : Typed tab (.str) (.s (nth (A.getD i []) 0).str) := typed_s (typed_cell ht (A.getD i []) (mem_getD hi) 0 (by decide))
      show (qo_2_step A s (A.length : Int) (i : Int)).val = _
      unfold qo_2_step
      refine Tr.t (by simp; omega) ?_
      skip
      refine Tr.t (by first | omega | (constructor <;> omega)) ?_
      refine Tr.b2 (fun hP => ?_) (fun _ => rfl)
      rw [Tr.val_ok, wrap64 (i := (i : Int) + 1) (by omega) (by omega)]; rfl
    · show (qo_2_step A s (A.length : Int) (A.length : Int)).val = _
      refine Tr.n (by simp) ?_
      rfl
  simp only [qo_2_fin, Told.val] at h
  cases hk : A.all (fun x => !(s == (nth x 0).str)) with
  | true =>
    rw [if_pos (show qo_k2_1 A s m i = true from hk)] at h
    split at h
    · rename_i ho
      obtain ⟨rfl, ht, rfl⟩ := is_iff.1 ho
      cases h
      refine ⟨_, (key ht).trans ?_⟩
      rw [hk]; rfl
    · cases h
  | false =>
    rw [if_neg (show ¬qo_k2_1 A s m i = true from by rw [show qo_k2_1 A s m i = (A.all (fun x => !(s == (nth x 0).str))) from rfl, hk]; simp)] at h
    split at h
    · rename_i ho
      obtain ⟨rfl, ht, rfl⟩ := is_iff.1 ho
      cases h
      refine ⟨_, (key ht).trans ?_⟩
      rw [hk]; rfl
    · cases h
theorem qo_is2 : LoopIs tab FT D51 live 142 qo_lo 0 2 := by
  refine loop_told (sl := qo_2_sl) (step := qo_2_st) (out := qo_2_out) (lor := qo_lo2) (fin := fun x => (qo_2_fin (x.1) (x.2.1) (x.2.2.1) (x.2.2.2))) (fun _ => rfl) ?_ (fun x n => qo_2_r x.1 x.2.1 x.2.2.1 x.2.2.2 n) (fun x ow => qo_2_h x.1 x.2.1 x.2.2.1 x.2.2.2 ow)
  intro s t h
  unfold qo_lo2 at h
  split at h
  · cases h; exact ⟨(_, _, _, _), rfl, rfl⟩
  · cases h
def qo_t (A : LL) (s : BS) : Tr (Int) := (.ite ((qo_k2_1 A s (A.length : Int) (0 : Int)) = true) (.ite ((qo_o2_2 A s (A.length : Int) (0 : Int)) = true) (.ok (-1 : Int))
   .no)
  (.ite ((qo_o2_3 A s (A.length : Int) (0 : Int)) = true) (.ok (qo_u2_3 A s (A.length : Int) (0 : Int)))
   .no))
def qo_mk (p : Int) : Res := [(false, [⟨.int .i64, .sh, TC.i p⟩])]
def qo_c (A : LL) (s : BS) : Bool := is (((qo_o2_2 A s (A.length : Int) (0 : Int)) = true) ∧ ((qo_o2_3 A s (A.length : Int) (0 : Int)) = true))
def qo_v (A : LL) (s : BS) : Int := (bif (qo_k2_1 A s (A.length : Int) (0 : Int)) then (-1 : Int) else (qo_u2_3 A s (A.length : Int) (0 : Int)))
theorem qo_l (A : LL) (s : BS) : (qo_c A s) = true → (qo_t A s).val = some (qo_v A s) := by
  intro h
  obtain ⟨g0, g1⟩ := is_iff.1 h
  unfold qo_t qo_v
  exact (Tr.s (Tr.t g0 rfl) (Tr.t g1 rfl))
def qo_S : List Arg → Option (Bool × Res) := fun xs => match xs with
  | [(false, [(.slice 9, TC.l A)]), (false, [(.str, TC.s s)])] => some ((qo_c A s), qo_mk (qo_v A s))
  | _ => .none
theorem qo_e (A : LL) (s : BS) : runF tab FT D51 live 142 qo_lo [(false, [(.slice 9, TC.l A)]), (false, [(.str, TC.s s)])] = (qo_t A s).run fun p => some (qo_mk p) := by kernel_rfl
theorem qo_s : ∀ xs r, qo_S xs = some (true, r) → runF tab FT D51 live 142 qo_lo xs = some r := by
  intro xs r h
  unfold qo_S at h
  split at h
  · obtain ⟨h1, rfl⟩ := sp h
    exact fun_told (qo_e ..) (qo_l _ _) h1
  · cases h
def D52 : Dt := also D51 142 qo_S
theorem d52 : DOk Go.Proofs.Try.prog tab D52 := d51.also mixed_ok tab_ok names_ok (fnLoops_one (by kernel_rfl) qo_is2) qo_s
theorem qo_vv (A : LL) (s : BS) : qo_v A s = slotIdx A s := by
  show (bif A.all (fun x => !(s == (nth x 0).str)) then -1 else Int.ofNat (A.findIdx fun x => !(!(s == (nth x 0).str)))) = slotIdx A s
  unfold slotIdx
  have e : ∀ x : List TC, (s == (nth x 0).str) = ((nth x 0).str == s) := fun x => Bool.beq_comm
  simp only [e]
def qch_t (a0 : LL) (a1 : BS) : Tr (Bool) := (.ite ((qo_c a0 a1) = true) (.ok (decide ((qo_v a0 a1) ≥ (0 : Int))))
  .no)
def qch_mk (p : Bool) : Res := [(false, [⟨.bool, .sh, TC.b p⟩])]
def qch_c (a0 : LL) (a1 : BS) : Bool := (qo_c a0 a1)
def qch_v (a0 : LL) (a1 : BS) : Bool := (decide ((qo_v a0 a1) ≥ (0 : Int)))
theorem qch_l (a0 : LL) (a1 : BS) : (qch_c a0 a1) = true → (qch_t a0 a1).val = some (qch_v a0 a1) := by
  intro h
  have hc0 : (qo_c a0 a1) = true := h
  unfold qch_t
  exact (Tr.t hc0 rfl)
def qch_S : List Arg → Option (Bool × Res) := fun xs => match xs with
  | [(false, [(.slice 9, TC.l a0)]), (false, [(.str, TC.s a1)])] => some ((qch_c a0 a1), qch_mk (qch_v a0 a1))
  | _ => .none
theorem qch_e (a0 : LL) (a1 : BS) : runF tab FT D52 live 119 noLoops [(false, [(.slice 9, TC.l a0)]), (false, [(.str, TC.s a1)])] = (qch_t a0 a1).run fun p => some (qch_mk p) := by kernel_rfl
theorem qch_s : ∀ xs r, qch_S xs = some (true, r) → runF tab FT D52 live 119 noLoops xs = some r := by
  intro xs r h
  unfold qch_S at h
  split at h
  · obtain ⟨h1, rfl⟩ := sp h
    exact fun_told (qch_e ..) (qch_l _ _) h1
  · cases h
def D53 : Dt := also D52 119 qch_S
theorem d53 : DOk Go.Proofs.Try.prog tab D53 := d52.also mixed_ok tab_ok names_ok noLoops_ok qch_s
def qr_f2 (A X : LL) (m i : Int) : (Unit) ⊕ ((Unit) ⊕ (Unit)) := (bif (!(qbl_v ((nth (row X i) 0).str))) then (.inr (.inl ())) else (bif (qch_v ((A.take (i).toNat).drop ((0 : Int)).toNat) ((nth (row X i) 0).str)) then (.inr (.inl ())) else (.inl ())))
def qr_e2 (A X : LL) (m : Int) : (Unit) ⊕ (Unit) := .inr ()
def qr_R2 (A X : LL) (m i : Int) : (Unit) ⊕ (Unit) := iter (fun i a => (qr_f2 A X m (i : Int))) (fun a => (qr_e2 A X m)) (A.length) 0 ()
abbrev qr_2_σ := LL × LL × Int × Int
abbrev qr_2_ω := (Unit) ⊕ (Unit)
def qr_2_step (A X : LL) (m i : Int) : Tr (qr_2_σ ⊕ qr_2_ω) := (.ite ((decide (i < m)) = true) (.ite ((0 : Int) ≤ i ∧ i < (X.length : Int)) (.ite ((qbl_c ((nth (row X i) 0).str)) = true) (.ite ((!(qbl_v ((nth (row X i) 0).str))) = true) (.ok (.inr (.inl ())))
     (.ite ((0 : Int) ≤ (0 : Int) ∧ (0 : Int) ≤ i ∧ i ≤ (A.length : Int)) (.ite ((qch_c ((A.take (i).toNat).drop ((0 : Int)).toNat) ((nth (row X i) 0).str)) = true) (.ite ((qch_v ((A.take (i).toNat).drop ((0 : Int)).toNat) ((nth (row X i) 0).str)) = true) (.ok (.inr (.inl ())))
        (.ok (.inl (A, X, m, (IntKind.wrap .i64 (i + (1 : Int)))))))
       .no)
      .no))
    .no)
   .no)
  (.ok (.inr (.inr ()))))
def qr_2_st : qr_2_σ → Tr (qr_2_σ ⊕ qr_2_ω) := fun x => (qr_2_step (x.1) (x.2.1) (x.2.2.1) (x.2.2.2))
def qr_k2_1 (A X : LL) (m i : Int) : Bool := sumIs (qr_R2 A X m i)
def qr_o2_2 (A X : LL) (m i : Int) : Bool := is (i = 0 ∧ A = X ∧ m = (A.length : Int) ∧ Typed tab (.slice 9) (.l A))
def qr_o2_3 (A X : LL) (m i : Int) : Bool := is (i = 0 ∧ A = X ∧ m = (A.length : Int) ∧ Typed tab (.slice 9) (.l A))
def qr_2_fin (A X : LL) (m i : Int) : Told qr_2_ω := (.br (qr_k2_1 A X m i) (.leaf (qr_o2_2 A X m i) (.inl ())) (.leaf (qr_o2_3 A X m i) (.inr ())))
def qr_2_sl (x : qr_2_σ) : List Slot := [⟨.val false [⟨.slice 9, .sh, TC.l (x.1)⟩], ⟨0, 0⟩⟩, ⟨.val false [⟨.slice 9, .sh, TC.l (x.2.1)⟩], ⟨0, 0⟩⟩, ⟨.val false [⟨.int .i64, .sh, TC.i (x.2.2.1)⟩], ⟨0, 0⟩⟩, ⟨.val false [⟨.int .i64, .sh, TC.i (x.2.2.2)⟩], ⟨0, 0⟩⟩]
def qr_2_out : qr_2_ω → Ex × List Slot := (Sum.elim (fun x => (.ret, [⟨.val false [⟨.bool, .sh, TC.b false⟩], ⟨0, 0⟩⟩])) (fun x => (.exit 0, [Slot.none])))
def qr_lo2 : List Slot → Option (Told (Ex × List Slot)) := fun s => match s with
  | [⟨.val false [⟨.slice 9, .sh, TC.l A⟩], ⟨0, 0⟩⟩, ⟨.val false [⟨.slice 9, .sh, TC.l X⟩], ⟨0, 0⟩⟩, ⟨.val false [⟨.int .i64, .sh, TC.i m⟩], ⟨0, 0⟩⟩, ⟨.val false [⟨.int .i64, .sh, TC.i i⟩], ⟨0, 0⟩⟩] => some (((qr_2_fin A X m i)).map qr_2_out)
  | _ => .none
def qr_lo : LoopTeller := fun r s => bif Nat.beq r 2 then qr_lo2 s else .none
theorem qr_2_r (A X : LL) (m i : Int) (fuel : Nat) : rounds (rnd tab FT D53 live 137 qr_lo 0 2) leave (fuel + 1) (qr_2_sl (A, X, m, i)) = ((qr_2_step A X m i)).run (goOn (fun s => rounds (rnd tab FT D53 live 137 qr_lo 0 2) leave fuel (qr_2_sl s)) fun w => some (qr_2_out w)) := by kernel_rfl
theorem qr_f2_eq (A : LL) (m : Int) (i : Nat) (hi : i < A.length) : qr_f2 A A m (i : Int) = bif dnP A (i : Int) then Sum.inl () else Sum.inr (Sum.inl ()) := by
  unfold qr_f2
  have e2 : qch_v ((A.take ((i : Int)).toNat).drop ((0 : Int)).toNat) (nth (row A (i : Int)) 0).str = !(noDupN A (i : Int)) := by
    unfold qch_v noDupN
    rw [qo_vv, slotIdx_in, Int.toNat_natCast, show ((0 : Int)).toNat = 0 from rfl, List.drop_zero, allI_take (by omega)]
    rfl
  rw [e2, qbl_vv]
  show _ = bif (nameOk (nth (row A (i : Int)) 0).str && noDupN A (i : Int)) then _ else _
  cases nameOk (nth (row A (i : Int)) 0).str <;> cases noDupN A (i : Int) <;> rfl
theorem qr_R2_eq (A : LL) (m : Int) : qr_R2 A A m 0 = bif allI (fun i : Nat => dnP A (i : Int)) A.length then Sum.inr () else Sum.inl () := by
  unfold qr_R2
  exact (iter_all (P := fun i : Nat => dnP A (i : Int)) (g := fun _ a => a) (w := Sum.inl ()) fun j a hj => qr_f2_eq A m j hj)
theorem qr_2_h (A X : LL) (m i : Int) (ow : qr_2_ω) : ((qr_2_fin A X m i)).val = some ow → ∃ fuel, loopN qr_2_st fuel (A, X, m, i) = some ow := by
  refine auto_const (R := (qr_R2 A X m i)) rfl (iter_onR (f := (fun i a => (qr_f2 A X m (i : Int)))) (fin := (fun a => (qr_e2 A X m))) (Q := endsAs () ()) (fun i a => by unfold qr_f2; exact (onR_bif rfl (onR_bif rfl trivial))) (fun _ => rfl) _ _ _) ?_
  intro ho
  have ho : is (i = 0 ∧ A = X ∧ m = (A.length : Int) ∧ Typed tab (.slice 9) (.l A)) = true := ho.elim id id
  obtain ⟨rfl, rfl, rfl, ht⟩ := is_iff.1 ho
  have hlen : A.length ≤ 140737488351232 := by have := typed_room ht; simp only [show (tab 9).bytes = 16 from rfl] at this; omega
  refine ⟨(A.length) + 1, ?_⟩
  refine iter_loop (step := qr_2_st) (A.length) (fun i a => (qr_f2 A A (A.length : Int) (i : Int))) (fun a => (qr_e2 A A (A.length : Int))) (fun i a => (A, A, (A.length : Int), (i : Int))) (fun _ _ => True) trivial (fun i a hi hI => ⟨?_, fun _ _ => trivial⟩) (fun a hI => ?_)
  · show (qr_2_step A A (A.length : Int) (i : Int)).val = _
    unfold qr_2_step qr_f2
    have c0 : Typed tab (.str) (.s (nth (A.getD i []) 0).str) := typed_s (typed_cell ht (A.getD i []) (mem_getD hi) 0 (by decide))
    refine Tr.t (by simp; omega) ?_
    exact (Tr.t (by first | omega | (constructor <;> omega) | ((show qo_c _ _ = true; exact is_true ⟨is_true ⟨rfl, typed_take ht, rfl⟩, is_true ⟨rfl, typed_take ht, rfl⟩⟩))) (Tr.t (by first | ((show qo_c _ _ = true; exact is_true ⟨is_true ⟨rfl, typed_take ht, rfl⟩, is_true ⟨rfl, typed_take ht, rfl⟩⟩)) | (first | (apply qbl_cc <;> assumption) | (first | (apply is_true; and_intros <;> (first | rfl | assumption | (apply qq_cc <;> assumption) | (apply qbv_cc <;> assumption) | (apply qv_cc <;> assumption) | (apply qba_cc <;> assumption) | (apply qbf_cc <;> assumption) | (apply qbj_cc <;> assumption) | (apply qz_cc <;> assumption) | (apply qm_cc <;> assumption) | (apply qd_cc <;> assumption) | (apply qcs_cc <;> assumption) | (apply qw_cc <;> assumption) | (apply qcp_cc <;> assumption) | (apply qbo_cc <;> assumption) | (apply qbk_cc <;> assumption) | (apply qcn_cc <;> assumption) | (apply qn_cc <;> assumption) | (apply qbl_cc <;> assumption) | (first | (apply is_true; and_intros <;> (first | rfl | assumption | (apply qq_cc <;> assumption) | (apply qbv_cc <;> assumption) | (apply qv_cc <;> assumption) | (apply qba_cc <;> assumption) | (apply qbf_cc <;> assumption) | (apply qbj_cc <;> assumption) | (apply qz_cc <;> assumption) | (apply qm_cc <;> assumption) | (apply qd_cc <;> assumption) | (apply qcs_cc <;> assumption) | (apply qw_cc <;> assumption) | (apply qcp_cc <;> assumption) | (apply qbo_cc <;> assumption) | (apply qbk_cc <;> assumption) | (apply qcn_cc <;> assumption) | (apply qn_cc <;> assumption) | (apply qbl_cc <;> assumption))) | (apply qq_cc <;> assumption) | (apply qbv_cc <;> assumption) | (apply qv_cc <;> assumption) | (apply qba_cc <;> assumption) | (apply qbf_cc <;> assumption) | (apply qbj_cc <;> assumption) | (apply qz_cc <;> assumption) | (apply qm_cc <;> assumption) | (apply qd_cc <;> assumption) | (apply qcs_cc <;> assumption) | (apply qw_cc <;> assumption) | (apply qcp_cc <;> assumption) | (apply qbo_cc <;> assumption) | (apply qbk_cc <;> assumption) | (apply qcn_cc <;> assumption) | (apply qn_cc <;> assumption) | (apply qbl_cc <;> assumption)))) | (apply qq_cc <;> assumption) | (apply qbv_cc <;> assumption) | (apply qv_cc <;> assumption) | (apply qba_cc <;> assumption) | (apply qbf_cc <;> assumption) | (apply qbj_cc <;> assumption) | (apply qz_cc <;> assumption) | (apply qm_cc <;> assumption) | (apply qd_cc <;> assumption) | (apply qcs_cc <;> assumption) | (apply qw_cc <;> assumption) | (apply qcp_cc <;> assumption) | (apply qbo_cc <;> assumption) | (apply qbk_cc <;> assumption) | (apply qcn_cc <;> assumption) | (apply qn_cc <;> assumption) | (apply qbl_cc <;> assumption)))) (Tr.bf rfl (Tr.t (by first | omega | (constructor <;> omega) | ((show qo_c _ _ = true; exact is_true ⟨is_true ⟨rfl, typed_take ht, rfl⟩, is_true ⟨rfl, typed_take ht, rfl⟩⟩))) (Tr.t (by first | ((show qo_c _ _ = true; exact is_true ⟨is_true ⟨rfl, typed_take ht, rfl⟩, is_true ⟨rfl, typed_take ht, rfl⟩⟩)) | (first | (apply is_true; and_intros <;> (first | rfl | assumption | (apply qq_cc <;> assumption) | (apply qbv_cc <;> assumption) | (apply qv_cc <;> assumption) | (apply qba_cc <;> assumption) | (apply qbf_cc <;> assumption) | (apply qbj_cc <;> assumption) | (apply qz_cc <;> assumption) | (apply qm_cc <;> assumption) | (apply qd_cc <;> assumption) | (apply qcs_cc <;> assumption) | (apply qw_cc <;> assumption) | (apply qcp_cc <;> assumption) | (apply qbo_cc <;> assumption) | (apply qbk_cc <;> assumption) | (apply qcn_cc <;> assumption) | (apply qn_cc <;> assumption) | (apply qbl_cc <;> assumption) | (first | (apply is_true; and_intros <;> (first | rfl | assumption | (apply qq_cc <;> assumption) | (apply qbv_cc <;> assumption) | (apply qv_cc <;> assumption) | (apply qba_cc <;> assumption) | (apply qbf_cc <;> assumption) | (apply qbj_cc <;> assumption) | (apply qz_cc <;> assumption) | (apply qm_cc <;> assumption) | (apply qd_cc <;> assumption) | (apply qcs_cc <;> assumption) | (apply qw_cc <;> assumption) | (apply qcp_cc <;> assumption) | (apply qbo_cc <;> assumption) | (apply qbk_cc <;> assumption) | (apply qcn_cc <;> assumption) | (apply qn_cc <;> assumption) | (apply qbl_cc <;> assumption) | (first | (apply is_true; and_intros <;> (first | rfl | assumption | (apply qq_cc <;> assumption) | (apply qbv_cc <;> assumption) | (apply qv_cc <;> assumption) | (apply qba_cc <;> assumption) | (apply qbf_cc <;> assumption) | (apply qbj_cc <;> assumption) | (apply qz_cc <;> assumption) | (apply qm_cc <;> assumption) | (apply qd_cc <;> assumption) | (apply qcs_cc <;> assumption) | (apply qw_cc <;> assumption) | (apply qcp_cc <;> assumption) | (apply qbo_cc <;> assumption) | (apply qbk_cc <;> assumption) | (apply qcn_cc <;> assumption) | (apply qn_cc <;> assumption) | (apply qbl_cc <;> assumption))) | (apply qq_cc <;> assumption) | (apply qbv_cc <;> assumption) | (apply qv_cc <;> assumption) | (apply qba_cc <;> assumption) | (apply qbf_cc <;> assumption) | (apply qbj_cc <;> assumption) | (apply qz_cc <;> assumption) | (apply qm_cc <;> assumption) | (apply qd_cc <;> assumption) | (apply qcs_cc <;> assumption) | (apply qw_cc <;> assumption) | (apply qcp_cc <;> assumption) | (apply qbo_cc <;> assumption) | (apply qbk_cc <;> assumption) | (apply qcn_cc <;> assumption) | (apply qn_cc <;> assumption) | (apply qbl_cc <;> assumption)))) | (apply qq_cc <;> assumption) | (apply qbv_cc <;> assumption) | (apply qv_cc <;> assumption) | (apply qba_cc <;> assumption) | (apply qbf_cc <;> assumption) | (apply qbj_cc <;> assumption) | (apply qz_cc <;> assumption) | (apply qm_cc <;> assumption) | (apply qd_cc <;> assumption) | (apply qcs_cc <;> assumption) | (apply qw_cc <;> assumption) | (apply qcp_cc <;> assumption) | (apply qbo_cc <;> assumption) | (apply qbk_cc <;> assumption) | (apply qcn_cc <;> assumption) | (apply qn_cc <;> assumption) | (apply qbl_cc <;> assumption)))) | (apply qq_cc <;> assumption) | (apply qbv_cc <;> assumption) | (apply qv_cc <;> assumption) | (apply qba_cc <;> assumption) | (apply qbf_cc <;> assumption) | (apply qbj_cc <;> assumption) | (apply qz_cc <;> assumption) | (apply qm_cc <;> assumption) | (apply qd_cc <;> assumption) | (apply qcs_cc <;> assumption) | (apply qw_cc <;> assumption) | (apply qcp_cc <;> assumption) | (apply qbo_cc <;> assumption) | (apply qbk_cc <;> assumption) | (apply qcn_cc <;> assumption) | (apply qn_cc <;> assumption) | (apply qbl_cc <;> assumption))) (Tr.bf rfl (by rw [Tr.val_ok, wrap64 (i := (i : Int) + 1) (by omega) (by omega)]; rfl)))))))
  · show (qr_2_step A A (A.length : Int) (A.length : Int)).val = _
    refine Tr.n (by first | (simp; done) | (simp; omega) | omega) ?_
    rfl
theorem qr_is2 : LoopIs tab FT D53 live 137 qr_lo 0 2 := by
  refine loop_told (sl := qr_2_sl) (step := qr_2_st) (out := qr_2_out) (lor := qr_lo2) (fin := fun x => (qr_2_fin (x.1) (x.2.1) (x.2.2.1) (x.2.2.2))) (fun _ => rfl) ?_ (fun x n => qr_2_r x.1 x.2.1 x.2.2.1 x.2.2.2 n) (fun x ow => qr_2_h x.1 x.2.1 x.2.2.1 x.2.2.2 ow)
  intro s t h
  unfold qr_lo2 at h
  split at h
  · cases h; exact ⟨(_, _, _, _), rfl, rfl⟩
  · cases h
def qr_t (A : LL) : Tr (Bool) := (.ite ((qr_k2_1 A A (A.length : Int) (0 : Int)) = true) (.ite ((qr_o2_2 A A (A.length : Int) (0 : Int)) = true) (.ok false)
   .no)
  (.ite ((qr_o2_3 A A (A.length : Int) (0 : Int)) = true) (.ok true)
   .no))
def qr_mk (p : Bool) : Res := [(false, [⟨.bool, .sh, TC.b p⟩])]
def qr_c (A : LL) : Bool := (bif (qr_k2_1 A A (A.length : Int) (0 : Int)) then ((qr_o2_2 A A (A.length : Int) (0 : Int)) && true) else ((qr_o2_3 A A (A.length : Int) (0 : Int)) && true))
def qr_v (A : LL) : Bool := (bif (qr_k2_1 A A (A.length : Int) (0 : Int)) then false else true)
theorem qr_l (A : LL) : (qr_c A) = true → (qr_t A).val = some (qr_v A) := by
  unfold qr_t qr_v qr_c
  exact fun h => (Tr.ss h (fun h => (Tr.gb h fun h => rfl)) (fun h => (Tr.gb h fun h => rfl)))
def qr_S : List Arg → Option (Bool × Res) := fun xs => match xs with
  | [(false, [(.slice 9, TC.l A)])] => some ((qr_c A), qr_mk (qr_v A))
  | _ => .none
theorem qr_e (A : LL) : runF tab FT D53 live 137 qr_lo [(false, [(.slice 9, TC.l A)])] = (qr_t A).run fun p => some (qr_mk p) := by kernel_rfl
theorem qr_s : ∀ xs r, qr_S xs = some (true, r) → runF tab FT D53 live 137 qr_lo xs = some r := by
  intro xs r h
  unfold qr_S at h
  split at h
  · obtain ⟨h1, rfl⟩ := sp h
    exact fun_told (qr_e _) (qr_l _) h1
  · cases h
def D54 : Dt := also D53 137 qr_S
theorem d54 : DOk Go.Proofs.Try.prog tab D54 := d53.also mixed_ok tab_ok names_ok (fnLoops_one (by kernel_rfl) qr_is2) qr_s
theorem qr_cc {A : LL} (ht : Typed tab (.slice 9) (.l A)) : (qr_c A) = true := by
  unfold qr_c
  refine bifT (fun b1 => ?_) (fun b1 => ?_)
  · skip
    refine andT (by exact is_true ⟨rfl, rfl, rfl, ht⟩) ?_
    rfl
  · skip
    refine andT (by exact is_true ⟨rfl, rfl, rfl, ht⟩) ?_
    rfl
theorem qr_vv (A : LL) : qr_v A = allI (fun i : Nat => dnP A (i : Int)) A.length := by
  unfold qr_v qr_k2_1
  rw [qr_R2_eq]
  cases allI (fun i : Nat => dnP A (i : Int)) A.length <;> rfl
def qbb_f5 (k s : Int) (sg bg : Bool) (NA NU ME BA : LL) (ct lw hg : Int) (X : LL) (m i : Int) : (Unit) ⊕ ((Int × Int × Bool × Bool × LL × LL × LL × LL × Int) ⊕ (Int × Int × Bool × Bool × LL × LL × LL × LL × Int)) := (bif (!(qdb_v ((nth (row X i) 0).int) lw hg)) then (.inr (.inl (k, s, sg, bg, NA, NU, ME, BA, ct))) else (bif (decide (i > (0 : Int))) then (bif (decide ((nth (row X i) 0).int ≤ (nth (row NU (IntKind.wrap .i64 (i - (1 : Int)))) 0).int)) then (.inr (.inl (k, s, sg, bg, NA, NU, ME, BA, ct))) else (.inl ())) else (.inl ())))
def qbb_e5 (k s : Int) (sg bg : Bool) (NA NU ME BA : LL) (ct lw hg : Int) (X : LL) (m : Int) : (Int × Int × Bool × Bool × LL × LL × LL × LL × Int) ⊕ (Int × Int × Bool × Bool × LL × LL × LL × LL × Int) := .inr (k, s, sg, bg, NA, NU, ME, BA, ct)
def qbb_R5 (k s : Int) (sg bg : Bool) (NA NU ME BA : LL) (ct lw hg : Int) (X : LL) (m i : Int) : (Int × Int × Bool × Bool × LL × LL × LL × LL × Int) ⊕ (Int × Int × Bool × Bool × LL × LL × LL × LL × Int) := iter (fun i a => (qbb_f5 k s sg bg NA NU ME BA ct lw hg X m (i : Int))) (fun a => (qbb_e5 k s sg bg NA NU ME BA ct lw hg X m)) (NU.length) 0 ()
abbrev qbb_5_σ := Int × Int × Bool × Bool × LL × LL × LL × LL × Int × Int × Int × LL × Int × Int
abbrev qbb_5_ω := (Int × Int × Bool × Bool × LL × LL × LL × LL × Int) ⊕ (Int × Int × Bool × Bool × LL × LL × LL × LL × Int)
def qbb_5_step (k s : Int) (sg bg : Bool) (NA NU ME BA : LL) (ct lw hg : Int) (X : LL) (m i : Int) : Tr (qbb_5_σ ⊕ qbb_5_ω) := (.ite ((decide (i < m)) = true) (.ite ((0 : Int) ≤ i ∧ i < (X.length : Int)) (.ite ((!(qdb_v ((nth (row X i) 0).int) lw hg)) = true) (.ok (.inr (.inl (k, s, sg, bg, NA, NU, ME, BA, ct))))
    (.ite ((decide (i > (0 : Int))) = true) (.ite ((0 : Int) ≤ (IntKind.wrap .i64 (i - (1 : Int))) ∧ (IntKind.wrap .i64 (i - (1 : Int))) < (NU.length : Int)) (.ite ((decide ((nth (row X i) 0).int ≤ (nth (row NU (IntKind.wrap .i64 (i - (1 : Int)))) 0).int)) = true) (.ok (.inr (.inl (k, s, sg, bg, NA, NU, ME, BA, ct))))
       (.ok (.inl (k, s, sg, bg, NA, NU, ME, BA, ct, lw, hg, X, m, (IntKind.wrap .i64 (i + (1 : Int)))))))
      .no)
     (.ok (.inl (k, s, sg, bg, NA, NU, ME, BA, ct, lw, hg, X, m, (IntKind.wrap .i64 (i + (1 : Int))))))))
   .no)
  (.ok (.inr (.inr (k, s, sg, bg, NA, NU, ME, BA, ct)))))
def qbb_5_st : qbb_5_σ → Tr (qbb_5_σ ⊕ qbb_5_ω) := fun x => (qbb_5_step (x.1) (x.2.1) (x.2.2.1) (x.2.2.2.1) (x.2.2.2.2.1) (x.2.2.2.2.2.1) (x.2.2.2.2.2.2.1) (x.2.2.2.2.2.2.2.1) (x.2.2.2.2.2.2.2.2.1) (x.2.2.2.2.2.2.2.2.2.1) (x.2.2.2.2.2.2.2.2.2.2.1) (x.2.2.2.2.2.2.2.2.2.2.2.1) (x.2.2.2.2.2.2.2.2.2.2.2.2.1) (x.2.2.2.2.2.2.2.2.2.2.2.2.2))
def qbb_k5_1 (k s : Int) (sg bg : Bool) (NA NU ME BA : LL) (ct lw hg : Int) (X : LL) (m i : Int) : Bool := sumIs (qbb_R5 k s sg bg NA NU ME BA ct lw hg X m i)
def qbb_o5_2 (k s : Int) (sg bg : Bool) (NA NU ME BA : LL) (ct lw hg : Int) (X : LL) (m i : Int) : Bool := is (i = 0 ∧ NU = X ∧ m = (NU.length : Int) ∧ NU.length ≤ 140737488351232)
def qbb_o5_3 (k s : Int) (sg bg : Bool) (NA NU ME BA : LL) (ct lw hg : Int) (X : LL) (m i : Int) : Bool := is (i = 0 ∧ NU = X ∧ m = (NU.length : Int) ∧ NU.length ≤ 140737488351232)
def qbb_5_fin (k s : Int) (sg bg : Bool) (NA NU ME BA : LL) (ct lw hg : Int) (X : LL) (m i : Int) : Told qbb_5_ω := (.br (qbb_k5_1 k s sg bg NA NU ME BA ct lw hg X m i) (.leaf (qbb_o5_2 k s sg bg NA NU ME BA ct lw hg X m i) (.inl (k, s, sg, bg, NA, NU, ME, BA, ct))) (.leaf (qbb_o5_3 k s sg bg NA NU ME BA ct lw hg X m i) (.inr (k, s, sg, bg, NA, NU, ME, BA, ct))))
def qbb_5_sl (x : qbb_5_σ) : List Slot := [⟨.bx 32 [⟨.int .i64, .sh, TC.i (x.1)⟩, ⟨.int .i64, .sh, TC.i (x.2.1)⟩, ⟨.bool, .sh, TC.b (x.2.2.1)⟩, ⟨.bool, .sh, TC.b (x.2.2.2.1)⟩, ⟨.slice 9, .sh, TC.l (x.2.2.2.2.1)⟩, ⟨.slice 2, .sh, TC.l (x.2.2.2.2.2.1)⟩, ⟨.slice 71, .sh, TC.l (x.2.2.2.2.2.2.1)⟩, ⟨.slice 32, .sh, TC.l (x.2.2.2.2.2.2.2.1)⟩, ⟨.int .i64, .sh, TC.i (x.2.2.2.2.2.2.2.2.1)⟩], ⟨0, 0⟩⟩, ⟨.val false [⟨.int .i64, .sh, TC.i (x.2.2.2.2.2.2.2.2.2.1)⟩], ⟨0, 0⟩⟩, ⟨.val false [⟨.int .i64, .sh, TC.i (x.2.2.2.2.2.2.2.2.2.2.1)⟩], ⟨0, 0⟩⟩, ⟨.val false [⟨.slice 2, .sh, TC.l (x.2.2.2.2.2.2.2.2.2.2.2.1)⟩], ⟨0, 0⟩⟩, ⟨.val false [⟨.int .i64, .sh, TC.i (x.2.2.2.2.2.2.2.2.2.2.2.2.1)⟩], ⟨0, 0⟩⟩, ⟨.val false [⟨.int .i64, .sh, TC.i (x.2.2.2.2.2.2.2.2.2.2.2.2.2)⟩], ⟨0, 0⟩⟩]
def qbb_5_out : qbb_5_ω → Ex × List Slot := (Sum.elim (fun x => (.ret, [⟨.bx 32 [⟨.int .i64, .sh, TC.i (x.1)⟩, ⟨.int .i64, .sh, TC.i (x.2.1)⟩, ⟨.bool, .sh, TC.b (x.2.2.1)⟩, ⟨.bool, .sh, TC.b (x.2.2.2.1)⟩, ⟨.slice 9, .sh, TC.l (x.2.2.2.2.1)⟩, ⟨.slice 2, .sh, TC.l (x.2.2.2.2.2.1)⟩, ⟨.slice 71, .sh, TC.l (x.2.2.2.2.2.2.1)⟩, ⟨.slice 32, .sh, TC.l (x.2.2.2.2.2.2.2.1)⟩, ⟨.int .i64, .sh, TC.i (x.2.2.2.2.2.2.2.2)⟩], ⟨0, 0⟩⟩, ⟨.val false [⟨.bool, .sh, TC.b false⟩], ⟨0, 0⟩⟩])) (fun x => (.exit 0, [⟨.bx 32 [⟨.int .i64, .sh, TC.i (x.1)⟩, ⟨.int .i64, .sh, TC.i (x.2.1)⟩, ⟨.bool, .sh, TC.b (x.2.2.1)⟩, ⟨.bool, .sh, TC.b (x.2.2.2.1)⟩, ⟨.slice 9, .sh, TC.l (x.2.2.2.2.1)⟩, ⟨.slice 2, .sh, TC.l (x.2.2.2.2.2.1)⟩, ⟨.slice 71, .sh, TC.l (x.2.2.2.2.2.2.1)⟩, ⟨.slice 32, .sh, TC.l (x.2.2.2.2.2.2.2.1)⟩, ⟨.int .i64, .sh, TC.i (x.2.2.2.2.2.2.2.2)⟩], ⟨0, 0⟩⟩, Slot.none])))
def qbb_lo5 : List Slot → Option (Told (Ex × List Slot)) := fun s => match s with
  | [⟨.bx 32 [⟨.int .i64, .sh, TC.i k⟩, ⟨.int .i64, .sh, TC.i s⟩, ⟨.bool, .sh, TC.b sg⟩, ⟨.bool, .sh, TC.b bg⟩, ⟨.slice 9, .sh, TC.l NA⟩, ⟨.slice 2, .sh, TC.l NU⟩, ⟨.slice 71, .sh, TC.l ME⟩, ⟨.slice 32, .sh, TC.l BA⟩, ⟨.int .i64, .sh, TC.i ct⟩], ⟨0, 0⟩⟩, ⟨.val false [⟨.int .i64, .sh, TC.i lw⟩], ⟨0, 0⟩⟩, ⟨.val false [⟨.int .i64, .sh, TC.i hg⟩], ⟨0, 0⟩⟩, ⟨.val false [⟨.slice 2, .sh, TC.l X⟩], ⟨0, 0⟩⟩, ⟨.val false [⟨.int .i64, .sh, TC.i m⟩], ⟨0, 0⟩⟩, ⟨.val false [⟨.int .i64, .sh, TC.i i⟩], ⟨0, 0⟩⟩] => some (((qbb_5_fin k s sg bg NA NU ME BA ct lw hg X m i)).map qbb_5_out)
  | _ => .none
def qbb_lo : LoopTeller := fun r s => bif Nat.beq r 5 then qbb_lo5 s else .none
theorem qbb_5_r (k s : Int) (sg bg : Bool) (NA NU ME BA : LL) (ct lw hg : Int) (X : LL) (m i : Int) (fuel : Nat) : rounds (rnd tab FT D54 live 106 qbb_lo 0 5) leave (fuel + 1) (qbb_5_sl (k, s, sg, bg, NA, NU, ME, BA, ct, lw, hg, X, m, i)) = ((qbb_5_step k s sg bg NA NU ME BA ct lw hg X m i)).run (goOn (fun s => rounds (rnd tab FT D54 live 106 qbb_lo 0 5) leave fuel (qbb_5_sl s)) fun w => some (qbb_5_out w)) := by kernel_rfl
theorem qbb_f5_eq (k s : Int) (sg bg : Bool) (NA NU ME BA : LL) (ct : Int) (lw hg : Int) (m i : Int) : qbb_f5 k s sg bg NA NU ME BA ct lw hg NU m i = bif numP NU lw hg i then Sum.inl () else Sum.inr (Sum.inl (k, s, sg, bg, NA, NU, ME, BA, ct)) := by
  unfold qbb_f5 numP ascB intAt
  rw [show qdb_v (nth (row NU i) 0).int lw hg = inB (nth (row NU i) 0).int lw hg from rfl, show decide ((nth (row NU (IntKind.wrap .i64 (i - (1 : Int)))) 0).int ≥ (nth (row NU i) 0).int) = decide ((nth (row NU i) 0).int ≤ (nth (row NU (IntKind.wrap .i64 (i - (1 : Int)))) 0).int) from rfl]
  generalize inB (nth (row NU i) 0).int lw hg = p0, decide (i > 0) = p1, decide ((nth (row NU i) 0).int ≤ (nth (row NU (IntKind.wrap .i64 (i - (1 : Int)))) 0).int) = p2
  cases p0 <;> cases p1 <;> cases p2 <;> rfl
theorem qbb_R5_eq (k s : Int) (sg bg : Bool) (NA NU ME BA : LL) (ct : Int) (lw hg : Int) (m : Int) : qbb_R5 k s sg bg NA NU ME BA ct lw hg NU m 0 = bif allI (fun i : Nat => numP NU lw hg (i : Int)) NU.length then Sum.inr (k, s, sg, bg, NA, NU, ME, BA, ct) else Sum.inl (k, s, sg, bg, NA, NU, ME, BA, ct) := by
  unfold qbb_R5
  exact (iter_all (P := fun i : Nat => numP NU lw hg (i : Int)) (g := fun _ a => a) (w := Sum.inl (k, s, sg, bg, NA, NU, ME, BA, ct)) fun j a _ => qbb_f5_eq k s sg bg NA NU ME BA ct lw hg m _)
theorem qbb_5_h (k s : Int) (sg bg : Bool) (NA NU ME BA : LL) (ct lw hg : Int) (X : LL) (m i : Int) (ow : qbb_5_ω) : ((qbb_5_fin k s sg bg NA NU ME BA ct lw hg X m i)).val = some ow → ∃ fuel, loopN qbb_5_st fuel (k, s, sg, bg, NA, NU, ME, BA, ct, lw, hg, X, m, i) = some ow := by
  refine auto_const (R := (qbb_R5 k s sg bg NA NU ME BA ct lw hg X m i)) rfl (iter_onR (f := (fun i a => (qbb_f5 k s sg bg NA NU ME BA ct lw hg X m (i : Int)))) (fin := (fun a => (qbb_e5 k s sg bg NA NU ME BA ct lw hg X m))) (Q := endsAs (k, s, sg, bg, NA, NU, ME, BA, ct) (k, s, sg, bg, NA, NU, ME, BA, ct)) (fun i a => by unfold qbb_f5; exact (onR_bif rfl (onR_bif (onR_bif rfl trivial) trivial))) (fun _ => rfl) _ _ _) ?_
  intro ho
  have ho : is (i = 0 ∧ NU = X ∧ m = (NU.length : Int) ∧ NU.length ≤ 140737488351232) = true := ho.elim id id
  obtain ⟨rfl, rfl, rfl, hl⟩ := is_iff.1 ho
  skip
  refine ⟨(NU.length) + 1, ?_⟩
  refine iter_loop (step := qbb_5_st) (NU.length) (fun i a => (qbb_f5 k s sg bg NA NU ME BA ct lw hg NU (NU.length : Int) (i : Int))) (fun a => (qbb_e5 k s sg bg NA NU ME BA ct lw hg NU (NU.length : Int))) (fun i a => (k, s, sg, bg, NA, NU, ME, BA, ct, lw, hg, NU, (NU.length : Int), (i : Int))) (fun _ _ => True) trivial (fun i a hi hI => ⟨?_, fun _ _ => trivial⟩) (fun a hI => ?_)
  · show (qbb_5_step k s sg bg NA NU ME BA ct lw hg NU (NU.length : Int) (i : Int)).val = _
    unfold qbb_5_step qbb_f5
    skip
    refine Tr.t (by simp; omega) ?_
    exact (Tr.t (by first | omega | (constructor <;> omega) | (simp only [decide_eq_true_eq] at *; rw [wrap64 (by omega) (by omega)]; constructor <;> omega)) (Tr.bh (fun _ => rfl) (fun _ => (Tr.bh (fun _ => (Tr.t (by first | omega | (constructor <;> omega) | (simp only [decide_eq_true_eq] at *; rw [wrap64 (by omega) (by omega)]; constructor <;> omega)) (Tr.bh (fun _ => rfl) (fun _ => (by rw [Tr.val_ok, wrap64 (i := (i : Int) + 1) (by omega) (by omega)]; rfl))))) (fun _ => (by rw [Tr.val_ok, wrap64 (i := (i : Int) + 1) (by omega) (by omega)]; rfl))))))
  · show (qbb_5_step k s sg bg NA NU ME BA ct lw hg NU (NU.length : Int) (NU.length : Int)).val = _
    refine Tr.n (by first | (simp; done) | (simp; omega) | omega) ?_
    rfl
theorem qbb_is5 : LoopIs tab FT D54 live 106 qbb_lo 0 5 := by
  refine loop_told (sl := qbb_5_sl) (step := qbb_5_st) (out := qbb_5_out) (lor := qbb_lo5) (fin := fun x => (qbb_5_fin (x.1) (x.2.1) (x.2.2.1) (x.2.2.2.1) (x.2.2.2.2.1) (x.2.2.2.2.2.1) (x.2.2.2.2.2.2.1) (x.2.2.2.2.2.2.2.1) (x.2.2.2.2.2.2.2.2.1) (x.2.2.2.2.2.2.2.2.2.1) (x.2.2.2.2.2.2.2.2.2.2.1) (x.2.2.2.2.2.2.2.2.2.2.2.1) (x.2.2.2.2.2.2.2.2.2.2.2.2.1) (x.2.2.2.2.2.2.2.2.2.2.2.2.2))) (fun _ => rfl) ?_ (fun x n => qbb_5_r x.1 x.2.1 x.2.2.1 x.2.2.2.1 x.2.2.2.2.1 x.2.2.2.2.2.1 x.2.2.2.2.2.2.1 x.2.2.2.2.2.2.2.1 x.2.2.2.2.2.2.2.2.1 x.2.2.2.2.2.2.2.2.2.1 x.2.2.2.2.2.2.2.2.2.2.1 x.2.2.2.2.2.2.2.2.2.2.2.1 x.2.2.2.2.2.2.2.2.2.2.2.2.1 x.2.2.2.2.2.2.2.2.2.2.2.2.2 n) (fun x ow => qbb_5_h x.1 x.2.1 x.2.2.1 x.2.2.2.1 x.2.2.2.2.1 x.2.2.2.2.2.1 x.2.2.2.2.2.2.1 x.2.2.2.2.2.2.2.1 x.2.2.2.2.2.2.2.2.1 x.2.2.2.2.2.2.2.2.2.1 x.2.2.2.2.2.2.2.2.2.2.1 x.2.2.2.2.2.2.2.2.2.2.2.1 x.2.2.2.2.2.2.2.2.2.2.2.2.1 x.2.2.2.2.2.2.2.2.2.2.2.2.2 ow)
  intro s t h
  unfold qbb_lo5 at h
  split at h
  · cases h; exact ⟨(_, _, _, _, _, _, _, _, _, _, _, _, _, _), rfl, rfl⟩
  · cases h
def qbb_t (k s : Int) (sg bg : Bool) (NA NU ME BA : LL) (ct : Int) : Tr (Bool) := (.ite ((!((BA.length : Int) == (1 : Int))) = true) (.ok false)
  (.ite ((0 : Int) ≤ (0 : Int) ∧ (0 : Int) < (BA.length : Int)) (.ite ((!((nth (row BA (0 : Int)) 0).int == (1 : Int))) = true) (.ok false)
    (.ite ((0 : Int) ≤ (0 : Int) ∧ (0 : Int) < (BA.length : Int)) (.ite ((qbd_rc ((nth (row BA (0 : Int)) 0).int) ((nth (row BA (0 : Int)) 1).int) ((nth (row BA (0 : Int)) 2).bool) ((nth (row BA (0 : Int)) 3).bool) ((nth (row BA (0 : Int)) 4).list) ((nth (row BA (0 : Int)) 5).list) ((nth (row BA (0 : Int)) 6).list) ((nth (row BA (0 : Int)) 7).list) ((nth (row BA (0 : Int)) 8).int) (1 : Int)) = true) (.ite ((!(qbd_rv ((nth (row BA (0 : Int)) 0).int) ((nth (row BA (0 : Int)) 1).int) ((nth (row BA (0 : Int)) 2).bool) ((nth (row BA (0 : Int)) 3).bool) ((nth (row BA (0 : Int)) 4).list) ((nth (row BA (0 : Int)) 5).list) ((nth (row BA (0 : Int)) 6).list) ((nth (row BA (0 : Int)) 7).list) ((nth (row BA (0 : Int)) 8).int) (1 : Int))) = true) (.ok false)
       (.ite ((0 : Int) ≤ (0 : Int) ∧ (0 : Int) < (BA.length : Int)) (.ite ((qbn_c ((nth (row BA (0 : Int)) 0).int) ((nth (row BA (0 : Int)) 1).int) ((nth (row BA (0 : Int)) 2).bool) ((nth (row BA (0 : Int)) 3).bool) ((nth (row BA (0 : Int)) 4).list) ((nth (row BA (0 : Int)) 5).list) ((nth (row BA (0 : Int)) 6).list) ((nth (row BA (0 : Int)) 7).list) ((nth (row BA (0 : Int)) 8).int)) = true) (.ite ((qbb_k5_1 k s sg bg NA NU ME BA ct ((qbn_v ((nth (row BA (0 : Int)) 0).int) ((nth (row BA (0 : Int)) 1).int) ((nth (row BA (0 : Int)) 2).bool) ((nth (row BA (0 : Int)) 3).bool) ((nth (row BA (0 : Int)) 4).list) ((nth (row BA (0 : Int)) 5).list) ((nth (row BA (0 : Int)) 6).list) ((nth (row BA (0 : Int)) 7).list) ((nth (row BA (0 : Int)) 8).int)).1) ((qbn_v ((nth (row BA (0 : Int)) 0).int) ((nth (row BA (0 : Int)) 1).int) ((nth (row BA (0 : Int)) 2).bool) ((nth (row BA (0 : Int)) 3).bool) ((nth (row BA (0 : Int)) 4).list) ((nth (row BA (0 : Int)) 5).list) ((nth (row BA (0 : Int)) 6).list) ((nth (row BA (0 : Int)) 7).list) ((nth (row BA (0 : Int)) 8).int)).2) NU (NU.length : Int) (0 : Int)) = true) (.ite ((qbb_o5_2 k s sg bg NA NU ME BA ct ((qbn_v ((nth (row BA (0 : Int)) 0).int) ((nth (row BA (0 : Int)) 1).int) ((nth (row BA (0 : Int)) 2).bool) ((nth (row BA (0 : Int)) 3).bool) ((nth (row BA (0 : Int)) 4).list) ((nth (row BA (0 : Int)) 5).list) ((nth (row BA (0 : Int)) 6).list) ((nth (row BA (0 : Int)) 7).list) ((nth (row BA (0 : Int)) 8).int)).1) ((qbn_v ((nth (row BA (0 : Int)) 0).int) ((nth (row BA (0 : Int)) 1).int) ((nth (row BA (0 : Int)) 2).bool) ((nth (row BA (0 : Int)) 3).bool) ((nth (row BA (0 : Int)) 4).list) ((nth (row BA (0 : Int)) 5).list) ((nth (row BA (0 : Int)) 6).list) ((nth (row BA (0 : Int)) 7).list) ((nth (row BA (0 : Int)) 8).int)).2) NU (NU.length : Int) (0 : Int)) = true) (.ok false)
           .no)
          (.ite ((qbb_o5_3 k s sg bg NA NU ME BA ct ((qbn_v ((nth (row BA (0 : Int)) 0).int) ((nth (row BA (0 : Int)) 1).int) ((nth (row BA (0 : Int)) 2).bool) ((nth (row BA (0 : Int)) 3).bool) ((nth (row BA (0 : Int)) 4).list) ((nth (row BA (0 : Int)) 5).list) ((nth (row BA (0 : Int)) 6).list) ((nth (row BA (0 : Int)) 7).list) ((nth (row BA (0 : Int)) 8).int)).1) ((qbn_v ((nth (row BA (0 : Int)) 0).int) ((nth (row BA (0 : Int)) 1).int) ((nth (row BA (0 : Int)) 2).bool) ((nth (row BA (0 : Int)) 3).bool) ((nth (row BA (0 : Int)) 4).list) ((nth (row BA (0 : Int)) 5).list) ((nth (row BA (0 : Int)) 6).list) ((nth (row BA (0 : Int)) 7).list) ((nth (row BA (0 : Int)) 8).int)).2) NU (NU.length : Int) (0 : Int)) = true) (.ite ((qdb_v (NU.length : Int) (1 : Int) (6 : Int)) = true) (.ite (((NA.length : Int) == (NU.length : Int)) = true) (.ite ((qr_c NA) = true) (.ok (qr_v NA))
              .no)
             (.ok false))
            (.ok false))
           .no))
         .no)
        .no))
      .no)
     .no))
   .no))
def qbb_mk (p : Bool) : Res := [(false, [⟨.bool, .sh, TC.b p⟩])]
def qbb_c (k s : Int) (sg bg : Bool) (NA NU ME BA : LL) (ct : Int) : Bool := (bif (!((BA.length : Int) == (1 : Int))) then true else (is ((0 : Int) ≤ (0 : Int) ∧ (0 : Int) < (BA.length : Int)) && (bif (!((nth (row BA (0 : Int)) 0).int == (1 : Int))) then true else (is ((0 : Int) ≤ (0 : Int) ∧ (0 : Int) < (BA.length : Int)) && ((qbd_rc ((nth (row BA (0 : Int)) 0).int) ((nth (row BA (0 : Int)) 1).int) ((nth (row BA (0 : Int)) 2).bool) ((nth (row BA (0 : Int)) 3).bool) ((nth (row BA (0 : Int)) 4).list) ((nth (row BA (0 : Int)) 5).list) ((nth (row BA (0 : Int)) 6).list) ((nth (row BA (0 : Int)) 7).list) ((nth (row BA (0 : Int)) 8).int) (1 : Int)) && (bif (!(qbd_rv ((nth (row BA (0 : Int)) 0).int) ((nth (row BA (0 : Int)) 1).int) ((nth (row BA (0 : Int)) 2).bool) ((nth (row BA (0 : Int)) 3).bool) ((nth (row BA (0 : Int)) 4).list) ((nth (row BA (0 : Int)) 5).list) ((nth (row BA (0 : Int)) 6).list) ((nth (row BA (0 : Int)) 7).list) ((nth (row BA (0 : Int)) 8).int) (1 : Int))) then true else (is ((0 : Int) ≤ (0 : Int) ∧ (0 : Int) < (BA.length : Int)) && ((qbn_c ((nth (row BA (0 : Int)) 0).int) ((nth (row BA (0 : Int)) 1).int) ((nth (row BA (0 : Int)) 2).bool) ((nth (row BA (0 : Int)) 3).bool) ((nth (row BA (0 : Int)) 4).list) ((nth (row BA (0 : Int)) 5).list) ((nth (row BA (0 : Int)) 6).list) ((nth (row BA (0 : Int)) 7).list) ((nth (row BA (0 : Int)) 8).int)) && (bif (qbb_k5_1 k s sg bg NA NU ME BA ct ((qbn_v ((nth (row BA (0 : Int)) 0).int) ((nth (row BA (0 : Int)) 1).int) ((nth (row BA (0 : Int)) 2).bool) ((nth (row BA (0 : Int)) 3).bool) ((nth (row BA (0 : Int)) 4).list) ((nth (row BA (0 : Int)) 5).list) ((nth (row BA (0 : Int)) 6).list) ((nth (row BA (0 : Int)) 7).list) ((nth (row BA (0 : Int)) 8).int)).1) ((qbn_v ((nth (row BA (0 : Int)) 0).int) ((nth (row BA (0 : Int)) 1).int) ((nth (row BA (0 : Int)) 2).bool) ((nth (row BA (0 : Int)) 3).bool) ((nth (row BA (0 : Int)) 4).list) ((nth (row BA (0 : Int)) 5).list) ((nth (row BA (0 : Int)) 6).list) ((nth (row BA (0 : Int)) 7).list) ((nth (row BA (0 : Int)) 8).int)).2) NU (NU.length : Int) (0 : Int)) then ((qbb_o5_2 k s sg bg NA NU ME BA ct ((qbn_v ((nth (row BA (0 : Int)) 0).int) ((nth (row BA (0 : Int)) 1).int) ((nth (row BA (0 : Int)) 2).bool) ((nth (row BA (0 : Int)) 3).bool) ((nth (row BA (0 : Int)) 4).list) ((nth (row BA (0 : Int)) 5).list) ((nth (row BA (0 : Int)) 6).list) ((nth (row BA (0 : Int)) 7).list) ((nth (row BA (0 : Int)) 8).int)).1) ((qbn_v ((nth (row BA (0 : Int)) 0).int) ((nth (row BA (0 : Int)) 1).int) ((nth (row BA (0 : Int)) 2).bool) ((nth (row BA (0 : Int)) 3).bool) ((nth (row BA (0 : Int)) 4).list) ((nth (row BA (0 : Int)) 5).list) ((nth (row BA (0 : Int)) 6).list) ((nth (row BA (0 : Int)) 7).list) ((nth (row BA (0 : Int)) 8).int)).2) NU (NU.length : Int) (0 : Int)) && true) else ((qbb_o5_3 k s sg bg NA NU ME BA ct ((qbn_v ((nth (row BA (0 : Int)) 0).int) ((nth (row BA (0 : Int)) 1).int) ((nth (row BA (0 : Int)) 2).bool) ((nth (row BA (0 : Int)) 3).bool) ((nth (row BA (0 : Int)) 4).list) ((nth (row BA (0 : Int)) 5).list) ((nth (row BA (0 : Int)) 6).list) ((nth (row BA (0 : Int)) 7).list) ((nth (row BA (0 : Int)) 8).int)).1) ((qbn_v ((nth (row BA (0 : Int)) 0).int) ((nth (row BA (0 : Int)) 1).int) ((nth (row BA (0 : Int)) 2).bool) ((nth (row BA (0 : Int)) 3).bool) ((nth (row BA (0 : Int)) 4).list) ((nth (row BA (0 : Int)) 5).list) ((nth (row BA (0 : Int)) 6).list) ((nth (row BA (0 : Int)) 7).list) ((nth (row BA (0 : Int)) 8).int)).2) NU (NU.length : Int) (0 : Int)) && (bif (qdb_v (NU.length : Int) (1 : Int) (6 : Int)) then (bif ((NA.length : Int) == (NU.length : Int)) then ((qr_c NA) && true) else true) else true)))))))))))
def qbb_v (k s : Int) (sg bg : Bool) (NA NU ME BA : LL) (ct : Int) : Bool := (bif (!((BA.length : Int) == (1 : Int))) then false else (bif (!((nth (row BA (0 : Int)) 0).int == (1 : Int))) then false else (bif (!(qbd_rv ((nth (row BA (0 : Int)) 0).int) ((nth (row BA (0 : Int)) 1).int) ((nth (row BA (0 : Int)) 2).bool) ((nth (row BA (0 : Int)) 3).bool) ((nth (row BA (0 : Int)) 4).list) ((nth (row BA (0 : Int)) 5).list) ((nth (row BA (0 : Int)) 6).list) ((nth (row BA (0 : Int)) 7).list) ((nth (row BA (0 : Int)) 8).int) (1 : Int))) then false else (bif (qbb_k5_1 k s sg bg NA NU ME BA ct ((qbn_v ((nth (row BA (0 : Int)) 0).int) ((nth (row BA (0 : Int)) 1).int) ((nth (row BA (0 : Int)) 2).bool) ((nth (row BA (0 : Int)) 3).bool) ((nth (row BA (0 : Int)) 4).list) ((nth (row BA (0 : Int)) 5).list) ((nth (row BA (0 : Int)) 6).list) ((nth (row BA (0 : Int)) 7).list) ((nth (row BA (0 : Int)) 8).int)).1) ((qbn_v ((nth (row BA (0 : Int)) 0).int) ((nth (row BA (0 : Int)) 1).int) ((nth (row BA (0 : Int)) 2).bool) ((nth (row BA (0 : Int)) 3).bool) ((nth (row BA (0 : Int)) 4).list) ((nth (row BA (0 : Int)) 5).list) ((nth (row BA (0 : Int)) 6).list) ((nth (row BA (0 : Int)) 7).list) ((nth (row BA (0 : Int)) 8).int)).2) NU (NU.length : Int) (0 : Int)) then false else (bif (qdb_v (NU.length : Int) (1 : Int) (6 : Int)) then (bif ((NA.length : Int) == (NU.length : Int)) then (qr_v NA) else false) else false)))))
theorem qbb_l (k s : Int) (sg bg : Bool) (NA NU ME BA : LL) (ct : Int) : (qbb_c k s sg bg NA NU ME BA ct) = true → (qbb_t k s sg bg NA NU ME BA ct).val = some (qbb_v k s sg bg NA NU ME BA ct) := by
  unfold qbb_t qbb_v qbb_c
  intro h
  repeat' first | refine Tr.gb h fun h => ?_ | refine Tr.gs h fun h => ?_ | refine Tr.ss h (fun h => ?_) fun h => ?_ | exact rfl
def qbb_S : List Arg → Option (Bool × Res) := fun xs => match xs with
  | [(true, [(.int .i64, TC.i k), (.int .i64, TC.i s), (.bool, TC.b sg), (.bool, TC.b bg), (.slice 9, TC.l NA), (.slice 2, TC.l NU), (.slice 71, TC.l ME), (.slice 32, TC.l BA), (.int .i64, TC.i ct)])] => some ((qbb_c k s sg bg NA NU ME BA ct), qbb_mk (qbb_v k s sg bg NA NU ME BA ct))
  | _ => .none
theorem qbb_e (k s : Int) (sg bg : Bool) (NA NU ME BA : LL) (ct : Int) : runF tab FT D54 live 106 qbb_lo [(true, [(.int .i64, TC.i k), (.int .i64, TC.i s), (.bool, TC.b sg), (.bool, TC.b bg), (.slice 9, TC.l NA), (.slice 2, TC.l NU), (.slice 71, TC.l ME), (.slice 32, TC.l BA), (.int .i64, TC.i ct)])] = (qbb_t k s sg bg NA NU ME BA ct).run fun p => some (qbb_mk p) := by kernel_rfl
theorem qbb_s : ∀ xs r, qbb_S xs = some (true, r) → runF tab FT D54 live 106 qbb_lo xs = some r := by
  intro xs r h
  unfold qbb_S at h
  split at h
  · obtain ⟨h1, rfl⟩ := sp h
    exact fun_told (qbb_e ..) (qbb_l _ _ _ _ _ _ _ _ _) h1
  · cases h
def D55 : Dt := also D54 106 qbb_S
theorem d55 : DOk Go.Proofs.Try.prog tab D55 := d54.also mixed_ok tab_ok names_ok (fnLoops_one (by kernel_rfl) qbb_is5) qbb_s
theorem int_of_valid {k s : Int} {sg bg : Bool} {NA NU ME BA : LL} {ct : Int} (hk : k = 1) (h : qbd_rv k s sg bg NA NU ME BA ct 1 = true) : intV s sg bg NA NU ME BA ct = true := by
  subst hk
  have h : (okV 1 s sg bg NA NU ME BA ct && decide (depthV 1 ME BA ≤ 1)) = true := h
  rw [okV_1] at h
  simp only [Bool.and_eq_true] at h
  exact h.1.1
theorem qbb_cc {k : Int} {s : Int} {sg : Bool} {bg : Bool} {NA : LL} {NU : LL} {ME : LL} {BA : LL} {ct : Int} (hb : 0 < BA.length → qbd_rc (nth (row BA (0 : Int)) 0).int (nth (row BA (0 : Int)) 1).int (nth (row BA (0 : Int)) 2).bool (nth (row BA (0 : Int)) 3).bool (nth (row BA (0 : Int)) 4).list (nth (row BA (0 : Int)) 5).list (nth (row BA (0 : Int)) 6).list (nth (row BA (0 : Int)) 7).list (nth (row BA (0 : Int)) 8).int 1 = true) (t4 : Typed tab (.slice 9) (.l NA)) (hl : NU.length ≤ 140737488351232) : (qbb_c k s sg bg NA NU ME BA ct) = true := by
  unfold qbb_c
  refine bifT (fun b1 => ?_) (fun b1 => ?_)
  · skip
    rfl
  · skip
    refine andT (is_true (by have e1 := bneF b1; omega)) ?_
    refine bifT (fun b2 => ?_) (fun b2 => ?_)
    · skip
      rfl
    · skip
      refine andT (is_true (by have e1 := bneF b1; omega)) ?_
      refine andT (by have e1 := bneF b1; exact hb (by omega)) ?_
      refine bifT (fun b3 => ?_) (fun b3 => ?_)
      · skip
        rfl
      · skip
        refine andT (is_true (by have e1 := bneF b1; omega)) ?_
        refine andT (by have e2 := bneF b2; exact (irange (int_of_valid e2 (by simpa using b3))).1) ?_
        refine bifT (fun b4 => ?_) (fun b4 => ?_)
        · skip
          refine andT (by exact is_true ⟨rfl, rfl, rfl, hl⟩) ?_
          rfl
        · skip
          refine andT (by exact is_true ⟨rfl, rfl, rfl, hl⟩) ?_
          refine bifT (fun b5 => ?_) (fun b5 => ?_)
          · skip
            refine bifT (fun b6 => ?_) (fun b6 => ?_)
            · skip
              refine andT (by exact qr_cc t4) ?_
              rfl
            · skip
              rfl
          · skip
            rfl
theorem qbb_vv (k s : Int) (sg bg : Bool) (NA NU ME BA : LL) (ct : Int) : qbb_v k s sg bg NA NU ME BA ct = (((BA.length : Int) == 1) && (((nth (row BA (0 : Int)) 0).int == 1) && (validV (nth (row BA (0 : Int)) 0).int (nth (row BA (0 : Int)) 1).int (nth (row BA (0 : Int)) 2).bool (nth (row BA (0 : Int)) 3).bool (nth (row BA (0 : Int)) 4).list (nth (row BA (0 : Int)) 5).list (nth (row BA (0 : Int)) 6).list (nth (row BA (0 : Int)) 7).list (nth (row BA (0 : Int)) 8).int 1 && (allI (fun i : Nat => numP NU (loV (nth (row BA (0 : Int)) 1).int (nth (row BA (0 : Int)) 2).bool) (hiV (nth (row BA (0 : Int)) 1).int (nth (row BA (0 : Int)) 2).bool) (i : Int)) NU.length && (inB (NU.length : Int) 1 6 && (((NA.length : Int) == (NU.length : Int)) && allI (fun i : Nat => dnP NA (i : Int)) NA.length)))))) := by
  unfold qbb_v
  rw [show ∀ lw hg m, qbb_k5_1 k s sg bg NA NU ME BA ct lw hg NU m 0 = !(allI (fun i : Nat => numP NU lw hg (i : Int)) NU.length) from fun lw hg m => by unfold qbb_k5_1; rw [qbb_R5_eq]; cases allI (fun i : Nat => numP NU lw hg (i : Int)) NU.length <;> rfl]
  rw [qr_vv, show qdb_v (NU.length : Int) 1 6 = inB (NU.length : Int) 1 6 from rfl, show qbd_rv (nth (row BA (0 : Int)) 0).int (nth (row BA (0 : Int)) 1).int (nth (row BA (0 : Int)) 2).bool (nth (row BA (0 : Int)) 3).bool (nth (row BA (0 : Int)) 4).list (nth (row BA (0 : Int)) 5).list (nth (row BA (0 : Int)) 6).list (nth (row BA (0 : Int)) 7).list (nth (row BA (0 : Int)) 8).int 1 = validV (nth (row BA (0 : Int)) 0).int (nth (row BA (0 : Int)) 1).int (nth (row BA (0 : Int)) 2).bool (nth (row BA (0 : Int)) 3).bool (nth (row BA (0 : Int)) 4).list (nth (row BA (0 : Int)) 5).list (nth (row BA (0 : Int)) 6).list (nth (row BA (0 : Int)) 7).list (nth (row BA (0 : Int)) 8).int 1 from rfl]
  simp only [bif_nf, bif_tf, bif_ft, Bool.not_not]
  cases h1 : ((nth (row BA (0 : Int)) 0).int == 1) with
  | false => simp only [Bool.false_and, Bool.and_false]
  | true =>
    cases h2 : validV (nth (row BA (0 : Int)) 0).int (nth (row BA (0 : Int)) 1).int (nth (row BA (0 : Int)) 2).bool (nth (row BA (0 : Int)) 3).bool (nth (row BA (0 : Int)) 4).list (nth (row BA (0 : Int)) 5).list (nth (row BA (0 : Int)) 6).list (nth (row BA (0 : Int)) 7).list (nth (row BA (0 : Int)) 8).int 1 with
    | false => simp only [Bool.false_and, Bool.and_false]
    | true =>
      obtain ⟨-, h3, h4⟩ := irange (k := (nth (row BA (0 : Int)) 0).int) (int_of_valid (beq_iff_eq.1 h1) h2)
      rw [h3, h4]
def qg_f6 (d k s : Int) (sg bg : Bool) (NA NU ME BA : LL) (ct : Int) (X : LL) (m i en : Int) (NM : LL) : (Int × LL) ⊕ ((Int × Int × Bool × Bool × LL × LL × LL × LL × Int × Int × LL) ⊕ (Int × Int × Bool × Bool × LL × LL × LL × LL × Int × Int × LL)) := (bif (!(qbd_rv ((nth (row X i) 2).int) ((nth (row X i) 3).int) ((nth (row X i) 4).bool) ((nth (row X i) 5).bool) ((nth (row X i) 6).list) ((nth (row X i) 7).list) ((nth (row X i) 8).list) ((nth (row X i) 9).list) ((nth (row X i) 10).int) d)) then (.inr (.inl (k, s, sg, bg, NA, NU, ME, BA, ct, en, NM))) else (bif (decide ((nth (row X i) 1).int < en)) then (.inr (.inl (k, s, sg, bg, NA, NU, ME, BA, ct, en, NM))) else (bif (decide ((nth (row X i) 1).int > (24 : Int))) then (.inr (.inl (k, s, sg, bg, NA, NU, ME, BA, ct, en, NM))) else (.inl ((IntKind.wrap .i64 ((nth (row X i) 1).int + (qbh_rv ((nth (row X i) 2).int) ((nth (row X i) 3).int) ((nth (row X i) 4).bool) ((nth (row X i) 5).bool) ((nth (row X i) 6).list) ((nth (row X i) 7).list) ((nth (row X i) 8).list) ((nth (row X i) 9).list) ((nth (row X i) 10).int)))), (NM ++ [[TC.s ((nth (row X i) 0).str)]]))))))
def qg_e6 (d k s : Int) (sg bg : Bool) (NA NU ME BA : LL) (ct : Int) (X : LL) (m en : Int) (NM : LL) : (Int × Int × Bool × Bool × LL × LL × LL × LL × Int × Int × LL) ⊕ (Int × Int × Bool × Bool × LL × LL × LL × LL × Int × Int × LL) := .inr (k, s, sg, bg, NA, NU, ME, BA, ct, en, NM)
def qg_R6 (d k s : Int) (sg bg : Bool) (NA NU ME BA : LL) (ct en : Int) (NM X : LL) (m i : Int) : (Int × Int × Bool × Bool × LL × LL × LL × LL × Int × Int × LL) ⊕ (Int × Int × Bool × Bool × LL × LL × LL × LL × Int × Int × LL) := iter (fun i a => (qg_f6 d k s sg bg NA NU ME BA ct X m (i : Int) (a.1) (a.2))) (fun a => (qg_e6 d k s sg bg NA NU ME BA ct X m (a.1) (a.2))) (ME.length) 0 (en, NM)
abbrev qg_6_σ := Int × Int × Int × Bool × Bool × LL × LL × LL × LL × Int × Int × LL × LL × Int × Int
abbrev qg_6_ω := (Int × Int × Bool × Bool × LL × LL × LL × LL × Int × Int × LL) ⊕ (Int × Int × Bool × Bool × LL × LL × LL × LL × Int × Int × LL)
def qg_6_step (d k s : Int) (sg bg : Bool) (NA NU ME BA : LL) (ct en : Int) (NM X : LL) (m i : Int) : Tr (qg_6_σ ⊕ qg_6_ω) := (.ite ((decide (i < m)) = true) (.ite ((0 : Int) ≤ i ∧ i < (X.length : Int)) (.ite ((qbd_rc ((nth (row X i) 2).int) ((nth (row X i) 3).int) ((nth (row X i) 4).bool) ((nth (row X i) 5).bool) ((nth (row X i) 6).list) ((nth (row X i) 7).list) ((nth (row X i) 8).list) ((nth (row X i) 9).list) ((nth (row X i) 10).int) d) = true) (.ite ((!(qbd_rv ((nth (row X i) 2).int) ((nth (row X i) 3).int) ((nth (row X i) 4).bool) ((nth (row X i) 5).bool) ((nth (row X i) 6).list) ((nth (row X i) 7).list) ((nth (row X i) 8).list) ((nth (row X i) 9).list) ((nth (row X i) 10).int) d)) = true) (.ok (.inr (.inl (k, s, sg, bg, NA, NU, ME, BA, ct, en, NM))))
     (.ite ((decide ((nth (row X i) 1).int < en)) = true) (.ok (.inr (.inl (k, s, sg, bg, NA, NU, ME, BA, ct, en, NM))))
      (.ite ((decide ((nth (row X i) 1).int > (24 : Int))) = true) (.ok (.inr (.inl (k, s, sg, bg, NA, NU, ME, BA, ct, en, NM))))
       (.ite ((qbh_rc ((nth (row X i) 2).int) ((nth (row X i) 3).int) ((nth (row X i) 4).bool) ((nth (row X i) 5).bool) ((nth (row X i) 6).list) ((nth (row X i) 7).list) ((nth (row X i) 8).list) ((nth (row X i) 9).list) ((nth (row X i) 10).int)) = true) (.ite (roomFor (tab 9) (NM ++ [[TC.s ((nth (row X i) 0).str)]]).length) (.ok (.inl (d, k, s, sg, bg, NA, NU, ME, BA, ct, (IntKind.wrap .i64 ((nth (row X i) 1).int + (qbh_rv ((nth (row X i) 2).int) ((nth (row X i) 3).int) ((nth (row X i) 4).bool) ((nth (row X i) 5).bool) ((nth (row X i) 6).list) ((nth (row X i) 7).list) ((nth (row X i) 8).list) ((nth (row X i) 9).list) ((nth (row X i) 10).int)))), (NM ++ [[TC.s ((nth (row X i) 0).str)]]), X, m, (IntKind.wrap .i64 (i + (1 : Int))))))
         .no)
        .no))))
    .no)
   .no)
  (.ok (.inr (.inr (k, s, sg, bg, NA, NU, ME, BA, ct, en, NM)))))
def qg_6_st : qg_6_σ → Tr (qg_6_σ ⊕ qg_6_ω) := fun x => (qg_6_step (x.1) (x.2.1) (x.2.2.1) (x.2.2.2.1) (x.2.2.2.2.1) (x.2.2.2.2.2.1) (x.2.2.2.2.2.2.1) (x.2.2.2.2.2.2.2.1) (x.2.2.2.2.2.2.2.2.1) (x.2.2.2.2.2.2.2.2.2.1) (x.2.2.2.2.2.2.2.2.2.2.1) (x.2.2.2.2.2.2.2.2.2.2.2.1) (x.2.2.2.2.2.2.2.2.2.2.2.2.1) (x.2.2.2.2.2.2.2.2.2.2.2.2.2.1) (x.2.2.2.2.2.2.2.2.2.2.2.2.2.2))
def qg_k6_1 (d k s : Int) (sg bg : Bool) (NA NU ME BA : LL) (ct en : Int) (NM X : LL) (m i : Int) : Bool := sumIs (qg_R6 d k s sg bg NA NU ME BA ct en NM X m i)
def qg_o6_2 (d k s : Int) (sg bg : Bool) (NA NU ME BA : LL) (ct en : Int) (NM X : LL) (m i : Int) : Bool := is (i = 0 ∧ ME = X ∧ m = (ME.length : Int) ∧ en = 0 ∧ NM = [] ∧ Typed tab (.slice 71) (.l ME) ∧ (∀ x : List TC, x ∈ ME → qbd_rc (nth x 2).int (nth x 3).int (nth x 4).bool (nth x 5).bool (nth x 6).list (nth x 7).list (nth x 8).list (nth x 9).list (nth x 10).int d = true) ∧ (∀ x : List TC, x ∈ ME → (!(qbd_rv (nth x 2).int (nth x 3).int (nth x 4).bool (nth x 5).bool (nth x 6).list (nth x 7).list (nth x 8).list (nth x 9).list (nth x 10).int d)) = false → qbh_rc (nth x 2).int (nth x 3).int (nth x 4).bool (nth x 5).bool (nth x 6).list (nth x 7).list (nth x 8).list (nth x 9).list (nth x 10).int = true))
def qg_u6_2_0 (d k s : Int) (sg bg : Bool) (NA NU ME BA : LL) (ct en : Int) (NM X : LL) (m i : Int) : Int := (sumL (qg_R6 d k s sg bg NA NU ME BA ct en NM X m i)).1
def qg_u6_2_1 (d k s : Int) (sg bg : Bool) (NA NU ME BA : LL) (ct en : Int) (NM X : LL) (m i : Int) : Int := (sumL (qg_R6 d k s sg bg NA NU ME BA ct en NM X m i)).2.1
def qg_u6_2_2 (d k s : Int) (sg bg : Bool) (NA NU ME BA : LL) (ct en : Int) (NM X : LL) (m i : Int) : Bool := (sumL (qg_R6 d k s sg bg NA NU ME BA ct en NM X m i)).2.2.1
def qg_u6_2_3 (d k s : Int) (sg bg : Bool) (NA NU ME BA : LL) (ct en : Int) (NM X : LL) (m i : Int) : Bool := (sumL (qg_R6 d k s sg bg NA NU ME BA ct en NM X m i)).2.2.2.1
def qg_u6_2_4 (d k s : Int) (sg bg : Bool) (NA NU ME BA : LL) (ct en : Int) (NM X : LL) (m i : Int) : LL := (sumL (qg_R6 d k s sg bg NA NU ME BA ct en NM X m i)).2.2.2.2.1
def qg_u6_2_5 (d k s : Int) (sg bg : Bool) (NA NU ME BA : LL) (ct en : Int) (NM X : LL) (m i : Int) : LL := (sumL (qg_R6 d k s sg bg NA NU ME BA ct en NM X m i)).2.2.2.2.2.1
def qg_u6_2_6 (d k s : Int) (sg bg : Bool) (NA NU ME BA : LL) (ct en : Int) (NM X : LL) (m i : Int) : LL := (sumL (qg_R6 d k s sg bg NA NU ME BA ct en NM X m i)).2.2.2.2.2.2.1
def qg_u6_2_7 (d k s : Int) (sg bg : Bool) (NA NU ME BA : LL) (ct en : Int) (NM X : LL) (m i : Int) : LL := (sumL (qg_R6 d k s sg bg NA NU ME BA ct en NM X m i)).2.2.2.2.2.2.2.1
def qg_u6_2_8 (d k s : Int) (sg bg : Bool) (NA NU ME BA : LL) (ct en : Int) (NM X : LL) (m i : Int) : Int := (sumL (qg_R6 d k s sg bg NA NU ME BA ct en NM X m i)).2.2.2.2.2.2.2.2.1
def qg_u6_2_9 (d k s : Int) (sg bg : Bool) (NA NU ME BA : LL) (ct en : Int) (NM X : LL) (m i : Int) : Int := (sumL (qg_R6 d k s sg bg NA NU ME BA ct en NM X m i)).2.2.2.2.2.2.2.2.2.1
def qg_u6_2_10 (d k s : Int) (sg bg : Bool) (NA NU ME BA : LL) (ct en : Int) (NM X : LL) (m i : Int) : LL := (sumL (qg_R6 d k s sg bg NA NU ME BA ct en NM X m i)).2.2.2.2.2.2.2.2.2.2
def qg_o6_3 (d k s : Int) (sg bg : Bool) (NA NU ME BA : LL) (ct en : Int) (NM X : LL) (m i : Int) : Bool := (qg_o6_2 d k s sg bg NA NU ME BA ct en NM X m i)
def qg_u6_3_0 (d k s : Int) (sg bg : Bool) (NA NU ME BA : LL) (ct en : Int) (NM X : LL) (m i : Int) : Int := (sumR (qg_R6 d k s sg bg NA NU ME BA ct en NM X m i)).1
def qg_u6_3_1 (d k s : Int) (sg bg : Bool) (NA NU ME BA : LL) (ct en : Int) (NM X : LL) (m i : Int) : Int := (sumR (qg_R6 d k s sg bg NA NU ME BA ct en NM X m i)).2.1
def qg_u6_3_2 (d k s : Int) (sg bg : Bool) (NA NU ME BA : LL) (ct en : Int) (NM X : LL) (m i : Int) : Bool := (sumR (qg_R6 d k s sg bg NA NU ME BA ct en NM X m i)).2.2.1
def qg_u6_3_3 (d k s : Int) (sg bg : Bool) (NA NU ME BA : LL) (ct en : Int) (NM X : LL) (m i : Int) : Bool := (sumR (qg_R6 d k s sg bg NA NU ME BA ct en NM X m i)).2.2.2.1
def qg_u6_3_4 (d k s : Int) (sg bg : Bool) (NA NU ME BA : LL) (ct en : Int) (NM X : LL) (m i : Int) : LL := (sumR (qg_R6 d k s sg bg NA NU ME BA ct en NM X m i)).2.2.2.2.1
def qg_u6_3_5 (d k s : Int) (sg bg : Bool) (NA NU ME BA : LL) (ct en : Int) (NM X : LL) (m i : Int) : LL := (sumR (qg_R6 d k s sg bg NA NU ME BA ct en NM X m i)).2.2.2.2.2.1
def qg_u6_3_6 (d k s : Int) (sg bg : Bool) (NA NU ME BA : LL) (ct en : Int) (NM X : LL) (m i : Int) : LL := (sumR (qg_R6 d k s sg bg NA NU ME BA ct en NM X m i)).2.2.2.2.2.2.1
def qg_u6_3_7 (d k s : Int) (sg bg : Bool) (NA NU ME BA : LL) (ct en : Int) (NM X : LL) (m i : Int) : LL := (sumR (qg_R6 d k s sg bg NA NU ME BA ct en NM X m i)).2.2.2.2.2.2.2.1
def qg_u6_3_8 (d k s : Int) (sg bg : Bool) (NA NU ME BA : LL) (ct en : Int) (NM X : LL) (m i : Int) : Int := (sumR (qg_R6 d k s sg bg NA NU ME BA ct en NM X m i)).2.2.2.2.2.2.2.2.1
def qg_u6_3_9 (d k s : Int) (sg bg : Bool) (NA NU ME BA : LL) (ct en : Int) (NM X : LL) (m i : Int) : Int := (sumR (qg_R6 d k s sg bg NA NU ME BA ct en NM X m i)).2.2.2.2.2.2.2.2.2.1
def qg_u6_3_10 (d k s : Int) (sg bg : Bool) (NA NU ME BA : LL) (ct en : Int) (NM X : LL) (m i : Int) : LL := (sumR (qg_R6 d k s sg bg NA NU ME BA ct en NM X m i)).2.2.2.2.2.2.2.2.2.2
def qg_6_fin (d k s : Int) (sg bg : Bool) (NA NU ME BA : LL) (ct en : Int) (NM X : LL) (m i : Int) : Told qg_6_ω := (.br (qg_k6_1 d k s sg bg NA NU ME BA ct en NM X m i) (.leaf (qg_o6_2 d k s sg bg NA NU ME BA ct en NM X m i) (.inl ((qg_u6_2_0 d k s sg bg NA NU ME BA ct en NM X m i), (qg_u6_2_1 d k s sg bg NA NU ME BA ct en NM X m i), (qg_u6_2_2 d k s sg bg NA NU ME BA ct en NM X m i), (qg_u6_2_3 d k s sg bg NA NU ME BA ct en NM X m i), (qg_u6_2_4 d k s sg bg NA NU ME BA ct en NM X m i), (qg_u6_2_5 d k s sg bg NA NU ME BA ct en NM X m i), (qg_u6_2_6 d k s sg bg NA NU ME BA ct en NM X m i), (qg_u6_2_7 d k s sg bg NA NU ME BA ct en NM X m i), (qg_u6_2_8 d k s sg bg NA NU ME BA ct en NM X m i), (qg_u6_2_9 d k s sg bg NA NU ME BA ct en NM X m i), (qg_u6_2_10 d k s sg bg NA NU ME BA ct en NM X m i)))) (.leaf (qg_o6_3 d k s sg bg NA NU ME BA ct en NM X m i) (.inr ((qg_u6_3_0 d k s sg bg NA NU ME BA ct en NM X m i), (qg_u6_3_1 d k s sg bg NA NU ME BA ct en NM X m i), (qg_u6_3_2 d k s sg bg NA NU ME BA ct en NM X m i), (qg_u6_3_3 d k s sg bg NA NU ME BA ct en NM X m i), (qg_u6_3_4 d k s sg bg NA NU ME BA ct en NM X m i), (qg_u6_3_5 d k s sg bg NA NU ME BA ct en NM X m i), (qg_u6_3_6 d k s sg bg NA NU ME BA ct en NM X m i), (qg_u6_3_7 d k s sg bg NA NU ME BA ct en NM X m i), (qg_u6_3_8 d k s sg bg NA NU ME BA ct en NM X m i), (qg_u6_3_9 d k s sg bg NA NU ME BA ct en NM X m i), (qg_u6_3_10 d k s sg bg NA NU ME BA ct en NM X m i)))))
def qg_6_sl (x : qg_6_σ) : List Slot := [⟨.val false [⟨.int .i64, .sh, TC.i (x.1)⟩], ⟨0, 0⟩⟩, ⟨.bx 32 [⟨.int .i64, .sh, TC.i (x.2.1)⟩, ⟨.int .i64, .sh, TC.i (x.2.2.1)⟩, ⟨.bool, .sh, TC.b (x.2.2.2.1)⟩, ⟨.bool, .sh, TC.b (x.2.2.2.2.1)⟩, ⟨.slice 9, .sh, TC.l (x.2.2.2.2.2.1)⟩, ⟨.slice 2, .sh, TC.l (x.2.2.2.2.2.2.1)⟩, ⟨.slice 71, .sh, TC.l (x.2.2.2.2.2.2.2.1)⟩, ⟨.slice 32, .sh, TC.l (x.2.2.2.2.2.2.2.2.1)⟩, ⟨.int .i64, .sh, TC.i (x.2.2.2.2.2.2.2.2.2.1)⟩], ⟨0, 0⟩⟩, ⟨.val false [⟨.int .i64, .sh, TC.i (x.2.2.2.2.2.2.2.2.2.2.1)⟩], ⟨0, 0⟩⟩, ⟨.val false [⟨.slice 9, .own true, TC.l (x.2.2.2.2.2.2.2.2.2.2.2.1)⟩], ⟨0, 0⟩⟩, ⟨.val false [⟨.slice 71, .sh, TC.l (x.2.2.2.2.2.2.2.2.2.2.2.2.1)⟩], ⟨0, 0⟩⟩, ⟨.val false [⟨.int .i64, .sh, TC.i (x.2.2.2.2.2.2.2.2.2.2.2.2.2.1)⟩], ⟨0, 0⟩⟩, ⟨.val false [⟨.int .i64, .sh, TC.i (x.2.2.2.2.2.2.2.2.2.2.2.2.2.2)⟩], ⟨0, 0⟩⟩]
def qg_6_out : qg_6_ω → Ex × List Slot := (Sum.elim (fun x => (.ret, [⟨.bx 32 [⟨.int .i64, .sh, TC.i (x.1)⟩, ⟨.int .i64, .sh, TC.i (x.2.1)⟩, ⟨.bool, .sh, TC.b (x.2.2.1)⟩, ⟨.bool, .sh, TC.b (x.2.2.2.1)⟩, ⟨.slice 9, .sh, TC.l (x.2.2.2.2.1)⟩, ⟨.slice 2, .sh, TC.l (x.2.2.2.2.2.1)⟩, ⟨.slice 71, .sh, TC.l (x.2.2.2.2.2.2.1)⟩, ⟨.slice 32, .sh, TC.l (x.2.2.2.2.2.2.2.1)⟩, ⟨.int .i64, .sh, TC.i (x.2.2.2.2.2.2.2.2.1)⟩], ⟨0, 0⟩⟩, ⟨.val false [⟨.bool, .sh, TC.b false⟩], ⟨0, 0⟩⟩, ⟨.val false [⟨.int .i64, .sh, TC.i (x.2.2.2.2.2.2.2.2.2.1)⟩], ⟨0, 0⟩⟩, ⟨.val false [⟨.slice 9, .own true, TC.l (x.2.2.2.2.2.2.2.2.2.2)⟩], ⟨0, 0⟩⟩])) (fun x => (.exit 0, [⟨.bx 32 [⟨.int .i64, .sh, TC.i (x.1)⟩, ⟨.int .i64, .sh, TC.i (x.2.1)⟩, ⟨.bool, .sh, TC.b (x.2.2.1)⟩, ⟨.bool, .sh, TC.b (x.2.2.2.1)⟩, ⟨.slice 9, .sh, TC.l (x.2.2.2.2.1)⟩, ⟨.slice 2, .sh, TC.l (x.2.2.2.2.2.1)⟩, ⟨.slice 71, .sh, TC.l (x.2.2.2.2.2.2.1)⟩, ⟨.slice 32, .sh, TC.l (x.2.2.2.2.2.2.2.1)⟩, ⟨.int .i64, .sh, TC.i (x.2.2.2.2.2.2.2.2.1)⟩], ⟨0, 0⟩⟩, Slot.none, ⟨.val false [⟨.int .i64, .sh, TC.i (x.2.2.2.2.2.2.2.2.2.1)⟩], ⟨0, 0⟩⟩, ⟨.val false [⟨.slice 9, .own true, TC.l (x.2.2.2.2.2.2.2.2.2.2)⟩], ⟨0, 0⟩⟩])))
def qg_lo6 : List Slot → Option (Told (Ex × List Slot)) := fun s => match s with
  | [⟨.val false [⟨.int .i64, .sh, TC.i d⟩], ⟨0, 0⟩⟩, ⟨.bx 32 [⟨.int .i64, .sh, TC.i k⟩, ⟨.int .i64, .sh, TC.i s⟩, ⟨.bool, .sh, TC.b sg⟩, ⟨.bool, .sh, TC.b bg⟩, ⟨.slice 9, .sh, TC.l NA⟩, ⟨.slice 2, .sh, TC.l NU⟩, ⟨.slice 71, .sh, TC.l ME⟩, ⟨.slice 32, .sh, TC.l BA⟩, ⟨.int .i64, .sh, TC.i ct⟩], ⟨0, 0⟩⟩, ⟨.val false [⟨.int .i64, .sh, TC.i en⟩], ⟨0, 0⟩⟩, ⟨.val false [⟨.slice 9, .own true, TC.l NM⟩], ⟨0, 0⟩⟩, ⟨.val false [⟨.slice 71, .sh, TC.l X⟩], ⟨0, 0⟩⟩, ⟨.val false [⟨.int .i64, .sh, TC.i m⟩], ⟨0, 0⟩⟩, ⟨.val false [⟨.int .i64, .sh, TC.i i⟩], ⟨0, 0⟩⟩] => some (((qg_6_fin d k s sg bg NA NU ME BA ct en NM X m i)).map qg_6_out)
  | _ => .none
def qg_lo : LoopTeller := fun r s => bif Nat.beq r 6 then qg_lo6 s else .none
theorem qg_6_r (d k s : Int) (sg bg : Bool) (NA NU ME BA : LL) (ct en : Int) (NM X : LL) (m i : Int) (fuel : Nat) : rounds (rnd tab FT D55 live 107 qg_lo 0 6) leave (fuel + 1) (qg_6_sl (d, k, s, sg, bg, NA, NU, ME, BA, ct, en, NM, X, m, i)) = ((qg_6_step d k s sg bg NA NU ME BA ct en NM X m i)).run (goOn (fun s => rounds (rnd tab FT D55 live 107 qg_lo 0 6) leave fuel (qg_6_sl s)) fun w => some (qg_6_out w)) := by kernel_rfl
theorem qg_f6_eq (d : Int) (k s : Int) (sg bg : Bool) (NA NU ME BA : LL) (ct : Int) (m i : Int) (e : Int) (NM : LL) : qg_f6 d k s sg bg NA NU ME BA ct ME m i e NM = bif (validV (nth (row ME i) 2).int (nth (row ME i) 3).int (nth (row ME i) 4).bool (nth (row ME i) 5).bool (nth (row ME i) 6).list (nth (row ME i) 7).list (nth (row ME i) 8).list (nth (row ME i) 9).list (nth (row ME i) 10).int d && (!decide ((nth (row ME i) 1).int < e) && !decide ((nth (row ME i) 1).int > 24))) then Sum.inl (IntKind.wrap .i64 ((nth (row ME i) 1).int + isizeV (nth (row ME i) 2).int (nth (row ME i) 3).int (nth (row ME i) 9).list (nth (row ME i) 10).int), NM ++ [[TC.s (nth (row ME i) 0).str]]) else Sum.inr (Sum.inl (k, s, sg, bg, NA, NU, ME, BA, ct, e, NM)) := by
  unfold qg_f6
  rw [show qbd_rv (nth (row ME i) 2).int (nth (row ME i) 3).int (nth (row ME i) 4).bool (nth (row ME i) 5).bool (nth (row ME i) 6).list (nth (row ME i) 7).list (nth (row ME i) 8).list (nth (row ME i) 9).list (nth (row ME i) 10).int d = validV (nth (row ME i) 2).int (nth (row ME i) 3).int (nth (row ME i) 4).bool (nth (row ME i) 5).bool (nth (row ME i) 6).list (nth (row ME i) 7).list (nth (row ME i) 8).list (nth (row ME i) 9).list (nth (row ME i) 10).int d from rfl]
  generalize validV (nth (row ME i) 2).int (nth (row ME i) 3).int (nth (row ME i) 4).bool (nth (row ME i) 5).bool (nth (row ME i) 6).list (nth (row ME i) 7).list (nth (row ME i) 8).list (nth (row ME i) 9).list (nth (row ME i) 10).int d = p0, decide ((nth (row ME i) 1).int < e) = p1, decide ((nth (row ME i) 1).int > 24) = p2
  cases p0 <;> cases p1 <;> cases p2 <;> rfl
theorem qg_R6_eq (d : Int) (k s : Int) (sg bg : Bool) (NA NU ME BA : LL) (ct m : Int) : ∃ a : Int × LL, qg_R6 d k s sg bg NA NU ME BA ct 0 [] ME m 0 = bif (allI (memI ME) ME.length && ME.all fun x => validV (nth x 2).int (nth x 3).int (nth x 4).bool (nth x 5).bool (nth x 6).list (nth x 7).list (nth x 8).list (nth x 9).list (nth x 10).int d) then Sum.inr (k, s, sg, bg, NA, NU, ME, BA, ct, endI ME ME.length, nmAt ME ME.length) else Sum.inl (k, s, sg, bg, NA, NU, ME, BA, ct, a.1, a.2) := by
  unfold qg_R6
  obtain ⟨a, ha⟩ := iter_along (f := fun i a => qg_f6 d k s sg bg NA NU ME BA ct ME m (i : Int) a.1 a.2) (fin := fun a => qg_e6 d k s sg bg NA NU ME BA ct ME m a.1 a.2) (P := fun i : Nat => validV (nth (row ME (i : Int)) 2).int (nth (row ME (i : Int)) 3).int (nth (row ME (i : Int)) 4).bool (nth (row ME (i : Int)) 5).bool (nth (row ME (i : Int)) 6).list (nth (row ME (i : Int)) 7).list (nth (row ME (i : Int)) 8).list (nth (row ME (i : Int)) 9).list (nth (row ME (i : Int)) 10).int d && (!decide ((nth (row ME (i : Int)) 1).int < endI ME i) && !decide ((nth (row ME (i : Int)) 1).int > 24))) (A := fun j => (endI ME j, nmAt ME j)) (w := fun a => Sum.inl (k, s, sg, bg, NA, NU, ME, BA, ct, a.1, a.2)) (N := ME.length) (fun j _ => qg_f6_eq d k s sg bg NA NU ME BA ct m (j : Int) (endI ME j) (nmAt ME j))
  refine ⟨a, ha.trans ?_⟩
  rw [show allI (fun i : Nat => validV (nth (row ME (i : Int)) 2).int (nth (row ME (i : Int)) 3).int (nth (row ME (i : Int)) 4).bool (nth (row ME (i : Int)) 5).bool (nth (row ME (i : Int)) 6).list (nth (row ME (i : Int)) 7).list (nth (row ME (i : Int)) 8).list (nth (row ME (i : Int)) 9).list (nth (row ME (i : Int)) 10).int d && (!decide ((nth (row ME (i : Int)) 1).int < endI ME i) && !decide ((nth (row ME (i : Int)) 1).int > 24))) ME.length = (allI (memI ME) ME.length && ME.all fun x => validV (nth x 2).int (nth x 3).int (nth x 4).bool (nth x 5).bool (nth x 6).list (nth x 7).list (nth x 8).list (nth x 9).list (nth x 10).int d) from by
    rw [← allI_rows, Bool.and_comm, ← allI_and]
    rfl]
  rfl
theorem qg_6_h (d k s : Int) (sg bg : Bool) (NA NU ME BA : LL) (ct en : Int) (NM X : LL) (m i : Int) (ow : qg_6_ω) : ((qg_6_fin d k s sg bg NA NU ME BA ct en NM X m i)).val = some ow → ∃ fuel, loopN qg_6_st fuel (d, k, s, sg, bg, NA, NU, ME, BA, ct, en, NM, X, m, i) = some ow := by
  refine auto_sum (R := (qg_R6 d k s sg bg NA NU ME BA ct en NM X m i)) rfl rfl rfl ?_
  intro ho
  have ho : is (i = 0 ∧ ME = X ∧ m = (ME.length : Int) ∧ en = 0 ∧ NM = [] ∧ Typed tab (.slice 71) (.l ME) ∧ (∀ x : List TC, x ∈ ME → qbd_rc (nth x 2).int (nth x 3).int (nth x 4).bool (nth x 5).bool (nth x 6).list (nth x 7).list (nth x 8).list (nth x 9).list (nth x 10).int d = true) ∧ (∀ x : List TC, x ∈ ME → (!(qbd_rv (nth x 2).int (nth x 3).int (nth x 4).bool (nth x 5).bool (nth x 6).list (nth x 7).list (nth x 8).list (nth x 9).list (nth x 10).int d)) = false → qbh_rc (nth x 2).int (nth x 3).int (nth x 4).bool (nth x 5).bool (nth x 6).list (nth x 7).list (nth x 8).list (nth x 9).list (nth x 10).int = true)) = true := ho.elim id id
  obtain ⟨rfl, rfl, rfl, rfl, rfl, ht, hr, hz⟩ := is_iff.1 ho
  have hlen : ME.length ≤ 140737488351232 := by have := typed_room ht; simp only [show (tab 71).bytes = 152 from rfl] at this; omega
  have hroom := typed_room ht
  simp only [show (tab 71).bytes = 152 from rfl] at hroom
  refine ⟨(ME.length) + 1, ?_⟩
  refine iter_loop (step := qg_6_st) (a := ((0 : Int), ([] : LL))) (ME.length) (fun i a => (qg_f6 d k s sg bg NA NU ME BA ct ME (ME.length : Int) (i : Int) (a.1) (a.2))) (fun a => (qg_e6 d k s sg bg NA NU ME BA ct ME (ME.length : Int) (a.1) (a.2))) (fun i a => (d, k, s, sg, bg, NA, NU, ME, BA, ct, a.1, a.2, ME, (ME.length : Int), (i : Int))) (fun i (a : Int × LL) => a.2.length = i) rfl (fun i a hi hI => ⟨?_, fun a' h => by
    unfold qg_f6 at h
    generalize (!(qbd_rv (nth (row ME (i : Int)) 2).int (nth (row ME (i : Int)) 3).int (nth (row ME (i : Int)) 4).bool (nth (row ME (i : Int)) 5).bool (nth (row ME (i : Int)) 6).list (nth (row ME (i : Int)) 7).list (nth (row ME (i : Int)) 8).list (nth (row ME (i : Int)) 9).list (nth (row ME (i : Int)) 10).int d)) = q0, decide ((nth (row ME (i : Int)) 1).int < a.1) = q1, decide ((nth (row ME (i : Int)) 1).int > 24) = q2 at h
    cases q0 <;> cases q1 <;> cases q2 <;> first | (cases h; done) | (cases h; show (a.2 ++ _).length = i + 1; rw [List.length_append, hI]; rfl)⟩) (fun a hI => ?_)
  · show (qg_6_step d k s sg bg NA NU ME BA ct (a.1) (a.2) ME (ME.length : Int) (i : Int)).val = _
    unfold qg_6_step qg_f6
    have c0 : Typed tab (.str) (.s (nth (ME.getD i []) 0).str) := typed_s (typed_cell ht (ME.getD i []) (mem_getD hi) 0 (by decide))
    have c6 : Typed tab (.slice 9) (.l (nth (ME.getD i []) 6).list) := typed_list (typed_cell ht (ME.getD i []) (mem_getD hi) 6 (by decide))
    have c7 : Typed tab (.slice 2) (.l (nth (ME.getD i []) 7).list) := typed_list (typed_cell ht (ME.getD i []) (mem_getD hi) 7 (by decide))
    have c8 : Typed tab (.slice 71) (.l (nth (ME.getD i []) 8).list) := typed_list (typed_cell ht (ME.getD i []) (mem_getD hi) 8 (by decide))
    have c9 : Typed tab (.slice 32) (.l (nth (ME.getD i []) 9).list) := typed_list (typed_cell ht (ME.getD i []) (mem_getD hi) 9 (by decide))
    refine Tr.t (by simp; omega) ?_
    exact (Tr.t (by first | omega | (constructor <;> omega) | (exact hr _ (mem_getD (by omega))) | (exact hz _ (mem_getD (by omega)) (by assumption)) | ((unfold roomFor; simp only [show (tab 9).bytes = 16 from rfl, List.length_append, List.length_singleton]; omega))) (Tr.t (by first | omega | (constructor <;> omega) | (exact hr _ (mem_getD (by omega))) | (exact hz _ (mem_getD (by omega)) (by assumption)) | ((unfold roomFor; simp only [show (tab 9).bytes = 16 from rfl, List.length_append, List.length_singleton]; omega))) (Tr.bh (fun _ => rfl) (fun _ => (Tr.bh (fun _ => rfl) (fun _ => (Tr.bh (fun _ => rfl) (fun _ => (Tr.t (by first | omega | (constructor <;> omega) | (exact hr _ (mem_getD (by omega))) | (exact hz _ (mem_getD (by omega)) (by assumption)) | ((unfold roomFor; simp only [show (tab 9).bytes = 16 from rfl, List.length_append, List.length_singleton]; omega))) (Tr.t (by first | omega | (constructor <;> omega) | (exact hr _ (mem_getD (by omega))) | (exact hz _ (mem_getD (by omega)) (by assumption)) | ((unfold roomFor; simp only [show (tab 9).bytes = 16 from rfl, List.length_append, List.length_singleton]; omega))) (by rw [Tr.val_ok, wrap64 (i := (i : Int) + 1) (by omega) (by omega)]; rfl)))))))))))
  · show (qg_6_step d k s sg bg NA NU ME BA ct (a.1) (a.2) ME (ME.length : Int) (ME.length : Int)).val = _
    refine Tr.n (by first | (simp; done) | (simp; omega) | omega) ?_
    rfl
theorem qg_is6 : LoopIs tab FT D55 live 107 qg_lo 0 6 := by
  refine loop_told (sl := qg_6_sl) (step := qg_6_st) (out := qg_6_out) (lor := qg_lo6) (fin := fun x => (qg_6_fin (x.1) (x.2.1) (x.2.2.1) (x.2.2.2.1) (x.2.2.2.2.1) (x.2.2.2.2.2.1) (x.2.2.2.2.2.2.1) (x.2.2.2.2.2.2.2.1) (x.2.2.2.2.2.2.2.2.1) (x.2.2.2.2.2.2.2.2.2.1) (x.2.2.2.2.2.2.2.2.2.2.1) (x.2.2.2.2.2.2.2.2.2.2.2.1) (x.2.2.2.2.2.2.2.2.2.2.2.2.1) (x.2.2.2.2.2.2.2.2.2.2.2.2.2.1) (x.2.2.2.2.2.2.2.2.2.2.2.2.2.2))) (fun _ => rfl) ?_ (fun x n => qg_6_r x.1 x.2.1 x.2.2.1 x.2.2.2.1 x.2.2.2.2.1 x.2.2.2.2.2.1 x.2.2.2.2.2.2.1 x.2.2.2.2.2.2.2.1 x.2.2.2.2.2.2.2.2.1 x.2.2.2.2.2.2.2.2.2.1 x.2.2.2.2.2.2.2.2.2.2.1 x.2.2.2.2.2.2.2.2.2.2.2.1 x.2.2.2.2.2.2.2.2.2.2.2.2.1 x.2.2.2.2.2.2.2.2.2.2.2.2.2.1 x.2.2.2.2.2.2.2.2.2.2.2.2.2.2 n) (fun x ow => qg_6_h x.1 x.2.1 x.2.2.1 x.2.2.2.1 x.2.2.2.2.1 x.2.2.2.2.2.1 x.2.2.2.2.2.2.1 x.2.2.2.2.2.2.2.1 x.2.2.2.2.2.2.2.2.1 x.2.2.2.2.2.2.2.2.2.1 x.2.2.2.2.2.2.2.2.2.2.1 x.2.2.2.2.2.2.2.2.2.2.2.1 x.2.2.2.2.2.2.2.2.2.2.2.2.1 x.2.2.2.2.2.2.2.2.2.2.2.2.2.1 x.2.2.2.2.2.2.2.2.2.2.2.2.2.2 ow)
  intro s t h
  unfold qg_lo6 at h
  split at h
  · cases h; exact ⟨(_, _, _, _, _, _, _, _, _, _, _, _, _, _, _), rfl, rfl⟩
  · cases h
def qg_t (k s : Int) (sg bg : Bool) (NA NU ME BA : LL) (ct d : Int) : Tr (Bool) := (.ite ((!(qdb_v s (1 : Int) (24 : Int))) = true) (.ok false)
  (.ite ((!(qdb_v (ME.length : Int) (1 : Int) (4 : Int))) = true) (.ok false)
   (.ite ((qg_k6_1 d k s sg bg NA NU ME BA ct (0 : Int) [] ME (ME.length : Int) (0 : Int)) = true) (.ite ((qg_o6_2 d k s sg bg NA NU ME BA ct (0 : Int) [] ME (ME.length : Int) (0 : Int)) = true) (.ok false)
     .no)
    (.ite ((qg_o6_3 d k s sg bg NA NU ME BA ct (0 : Int) [] ME (ME.length : Int) (0 : Int)) = true) (.ite ((decide ((qg_u6_3_9 d k s sg bg NA NU ME BA ct (0 : Int) [] ME (ME.length : Int) (0 : Int)) ≤ (qg_u6_3_1 d k s sg bg NA NU ME BA ct (0 : Int) [] ME (ME.length : Int) (0 : Int)))) = true) (.ite ((qr_c (qg_u6_3_10 d k s sg bg NA NU ME BA ct (0 : Int) [] ME (ME.length : Int) (0 : Int))) = true) (.ok (qr_v (qg_u6_3_10 d k s sg bg NA NU ME BA ct (0 : Int) [] ME (ME.length : Int) (0 : Int))))
       .no)
      (.ok false))
     .no))))
def qg_mk (p : Bool) : Res := [(false, [⟨.bool, .sh, TC.b p⟩])]
def qg_c (k s : Int) (sg bg : Bool) (NA NU ME BA : LL) (ct d : Int) : Bool := (bif (!(qdb_v s (1 : Int) (24 : Int))) then true else (bif (!(qdb_v (ME.length : Int) (1 : Int) (4 : Int))) then true else (bif (qg_k6_1 d k s sg bg NA NU ME BA ct (0 : Int) [] ME (ME.length : Int) (0 : Int)) then ((qg_o6_2 d k s sg bg NA NU ME BA ct (0 : Int) [] ME (ME.length : Int) (0 : Int)) && true) else ((qg_o6_3 d k s sg bg NA NU ME BA ct (0 : Int) [] ME (ME.length : Int) (0 : Int)) && (bif (decide ((qg_u6_3_9 d k s sg bg NA NU ME BA ct (0 : Int) [] ME (ME.length : Int) (0 : Int)) ≤ (qg_u6_3_1 d k s sg bg NA NU ME BA ct (0 : Int) [] ME (ME.length : Int) (0 : Int)))) then ((qr_c (qg_u6_3_10 d k s sg bg NA NU ME BA ct (0 : Int) [] ME (ME.length : Int) (0 : Int))) && true) else true)))))
def qg_v (k s : Int) (sg bg : Bool) (NA NU ME BA : LL) (ct d : Int) : Bool := (bif (!(qdb_v s (1 : Int) (24 : Int))) then false else (bif (!(qdb_v (ME.length : Int) (1 : Int) (4 : Int))) then false else (bif (qg_k6_1 d k s sg bg NA NU ME BA ct (0 : Int) [] ME (ME.length : Int) (0 : Int)) then false else (bif (decide ((qg_u6_3_9 d k s sg bg NA NU ME BA ct (0 : Int) [] ME (ME.length : Int) (0 : Int)) ≤ (qg_u6_3_1 d k s sg bg NA NU ME BA ct (0 : Int) [] ME (ME.length : Int) (0 : Int)))) then (qr_v (qg_u6_3_10 d k s sg bg NA NU ME BA ct (0 : Int) [] ME (ME.length : Int) (0 : Int))) else false))))
theorem qg_l (k s : Int) (sg bg : Bool) (NA NU ME BA : LL) (ct d : Int) : (qg_c k s sg bg NA NU ME BA ct d) = true → (qg_t k s sg bg NA NU ME BA ct d).val = some (qg_v k s sg bg NA NU ME BA ct d) := by
  unfold qg_t qg_v qg_c
  exact fun h => (Tr.ss h (fun h => rfl) (fun h => (Tr.ss h (fun h => rfl) (fun h => (Tr.ss h (fun h => (Tr.gb h fun h => rfl)) (fun h => (Tr.gb h fun h => (Tr.ss h (fun h => (Tr.gb h fun h => rfl)) (fun h => rfl)))))))))
def qg_S : List Arg → Option (Bool × Res) := fun xs => match xs with
  | [(true, [(.int .i64, TC.i k), (.int .i64, TC.i s), (.bool, TC.b sg), (.bool, TC.b bg), (.slice 9, TC.l NA), (.slice 2, TC.l NU), (.slice 71, TC.l ME), (.slice 32, TC.l BA), (.int .i64, TC.i ct)]), (false, [(.int .i64, TC.i d)])] => some ((qg_c k s sg bg NA NU ME BA ct d), qg_mk (qg_v k s sg bg NA NU ME BA ct d))
  | _ => .none
theorem qg_e (k s : Int) (sg bg : Bool) (NA NU ME BA : LL) (ct d : Int) : runF tab FT D55 live 107 qg_lo [(true, [(.int .i64, TC.i k), (.int .i64, TC.i s), (.bool, TC.b sg), (.bool, TC.b bg), (.slice 9, TC.l NA), (.slice 2, TC.l NU), (.slice 71, TC.l ME), (.slice 32, TC.l BA), (.int .i64, TC.i ct)]), (false, [(.int .i64, TC.i d)])] = (qg_t k s sg bg NA NU ME BA ct d).run fun p => some (qg_mk p) := by kernel_rfl
theorem qg_s : ∀ xs r, qg_S xs = some (true, r) → runF tab FT D55 live 107 qg_lo xs = some r := by
  intro xs r h
  unfold qg_S at h
  split at h
  · obtain ⟨h1, rfl⟩ := sp h
    exact fun_told (qg_e ..) (qg_l _ _ _ _ _ _ _ _ _ _) h1
  · cases h
def D56 : Dt := also D55 107 qg_S
theorem d56 : DOk Go.Proofs.Try.prog tab D56 := d55.also mixed_ok tab_ok names_ok (fnLoops_one (by kernel_rfl) qg_is6) qg_s
theorem nm_typed {ME : LL} (ht : Typed tab (.slice 71) (.l ME)) : Typed tab (.slice 9) (.l (nmAt ME ME.length)) := by
  have hroom := typed_room ht
  simp only [show (tab 71).bytes = 152 from rfl] at hroom
  have hm : (140737488351232 : Nat) ≤ maxLen := by unfold maxLen; omega
  rw [nmAt_all]
  refine .slice _ _ (by rw [List.length_map, show (tab 9).bytes = 16 from rfl]; show _ ≤ 140737488351232; omega) (by rw [List.length_map]; omega) (fun x hx => ?_) (fun x hx k hk => ?_)
  · obtain ⟨y, _, rfl⟩ := List.mem_map.1 hx; rfl
  · obtain ⟨y, hy, rfl⟩ := List.mem_map.1 hx
    have hk : k = 0 := by have : k < 1 := hk; omega
    subst hk
    exact typed_s ((typed_elem ht hy).2 0 (by decide))
theorem comp_u {d : Int} {k s : Int} {sg bg : Bool} {NA NU ME BA : LL} {ct : Int} {m : Int} (h : qg_k6_1 d k s sg bg NA NU ME BA ct 0 [] ME m 0 = false) : qg_u6_3_10 d k s sg bg NA NU ME BA ct 0 [] ME m 0 = nmAt ME ME.length := by
  unfold qg_u6_3_10
  unfold qg_k6_1 at h
  obtain ⟨a, ha⟩ := qg_R6_eq d k s sg bg NA NU ME BA ct m
  rw [ha] at h ⊢
  generalize (allI (memI ME) ME.length && ME.all fun x => validV (nth x 2).int (nth x 3).int (nth x 4).bool (nth x 5).bool (nth x 6).list (nth x 7).list (nth x 8).list (nth x 9).list (nth x 10).int d) = q at h ⊢
  cases q
  · cases h
  · rfl
theorem qg_cc {k : Int} {s : Int} {sg : Bool} {bg : Bool} {NA : LL} {NU : LL} {ME : LL} {BA : LL} {ct : Int} {d : Int} (ht : Typed tab (.slice 71) (.l ME)) (hr : (∀ x : List TC, x ∈ ME → qbd_rc (nth x 2).int (nth x 3).int (nth x 4).bool (nth x 5).bool (nth x 6).list (nth x 7).list (nth x 8).list (nth x 9).list (nth x 10).int d = true)) (hz : (∀ x : List TC, x ∈ ME → (!(qbd_rv (nth x 2).int (nth x 3).int (nth x 4).bool (nth x 5).bool (nth x 6).list (nth x 7).list (nth x 8).list (nth x 9).list (nth x 10).int d)) = false → qbh_rc (nth x 2).int (nth x 3).int (nth x 4).bool (nth x 5).bool (nth x 6).list (nth x 7).list (nth x 8).list (nth x 9).list (nth x 10).int = true)) : (qg_c k s sg bg NA NU ME BA ct d) = true := by
  unfold qg_c
  refine bifT (fun b1 => ?_) (fun b1 => ?_)
  · skip
    rfl
  · skip
    refine bifT (fun b2 => ?_) (fun b2 => ?_)
    · skip
      rfl
    · skip
      refine bifT (fun b3 => ?_) (fun b3 => ?_)
      · skip
        refine andT (by exact is_true ⟨rfl, rfl, rfl, rfl, rfl, ht, hr, hz⟩) ?_
        rfl
      · skip
        refine andT (by exact is_true ⟨rfl, rfl, rfl, rfl, rfl, ht, hr, hz⟩) ?_
        refine bifT (fun b4 => ?_) (fun b4 => ?_)
        · skip
          refine andT (by rw [comp_u b3]; exact qr_cc (nm_typed ht)) ?_
          rfl
        · skip
          rfl
theorem qg_vv (k s : Int) (sg bg : Bool) (NA NU ME BA : LL) (ct d : Int) : qg_v k s sg bg NA NU ME BA ct d = (inB s 1 24 && (inB (ME.length : Int) 1 4 && ((allI (memI ME) ME.length && ME.all fun x => validV (nth x 2).int (nth x 3).int (nth x 4).bool (nth x 5).bool (nth x 6).list (nth x 7).list (nth x 8).list (nth x 9).list (nth x 10).int d) && (decide (endI ME ME.length ≤ s) && allI (fun i : Nat => dnP ME (i : Int)) ME.length)))) := by
  unfold qg_v
  obtain ⟨a, ha⟩ := qg_R6_eq d k s sg bg NA NU ME BA ct (ME.length : Int)
  unfold qg_k6_1 qg_u6_3_9 qg_u6_3_1 qg_u6_3_10
  rw [ha, show qdb_v s 1 24 = inB s 1 24 from rfl, show qdb_v (ME.length : Int) 1 4 = inB (ME.length : Int) 1 4 from rfl]
  have hn : allI (fun i : Nat => dnP (nmAt ME ME.length) (i : Int)) (nmAt ME ME.length).length = allI (fun i : Nat => dnP ME (i : Int)) ME.length := by
    rw [nmAt_len]
    exact allI_congr fun i hi => by unfold dnP; rw [nm_str hi, nm_dup hi]
  generalize (allI (memI ME) ME.length && ME.all fun x => validV (nth x 2).int (nth x 3).int (nth x 4).bool (nth x 5).bool (nth x 6).list (nth x 7).list (nth x 8).list (nth x 9).list (nth x 10).int d) = q
  cases q
  · simp only [bif_nf, bif_tf, bif_ft, Bool.not_not, Bool.false_and, Bool.and_false]
    show (inB s 1 24 && (inB (ME.length : Int) 1 4 && false)) = false
    simp only [Bool.and_false]
  · show (bif !(inB s 1 24) then false else bif !(inB (ME.length : Int) 1 4) then false else bif false then false else bif decide (endI ME ME.length ≤ s) then qr_v (nmAt ME ME.length) else false) = _
    rw [qr_vv, hn]
    simp only [bif_nf, bif_tf, bif_ft, Bool.not_not, Bool.true_and, Bool.not_false]
def qbd_t (k s : Int) (sg bg : Bool) (NA NU ME BA : LL) (ct d : Int) : Tr (Bool) := (.ite ((decide (d < (1 : Int))) = true) (.ok false)
  (.ite ((qbm_rc k s sg bg NA NU ME BA ct ((qcb_v k s sg bg NA NU ME BA ct).1) ((qcb_v k s sg bg NA NU ME BA ct).2.1) ((qcb_v k s sg bg NA NU ME BA ct).2.2.1) ((qcb_v k s sg bg NA NU ME BA ct).2.2.2.1) ((qcb_v k s sg bg NA NU ME BA ct).2.2.2.2.1) ((qcb_v k s sg bg NA NU ME BA ct).2.2.2.2.2.1) ((qcb_v k s sg bg NA NU ME BA ct).2.2.2.2.2.2.1) ((qcb_v k s sg bg NA NU ME BA ct).2.2.2.2.2.2.2.1) ((qcb_v k s sg bg NA NU ME BA ct).2.2.2.2.2.2.2.2)) = true) (.ite ((!(qbm_rv k s sg bg NA NU ME BA ct ((qcb_v k s sg bg NA NU ME BA ct).1) ((qcb_v k s sg bg NA NU ME BA ct).2.1) ((qcb_v k s sg bg NA NU ME BA ct).2.2.1) ((qcb_v k s sg bg NA NU ME BA ct).2.2.2.1) ((qcb_v k s sg bg NA NU ME BA ct).2.2.2.2.1) ((qcb_v k s sg bg NA NU ME BA ct).2.2.2.2.2.1) ((qcb_v k s sg bg NA NU ME BA ct).2.2.2.2.2.2.1) ((qcb_v k s sg bg NA NU ME BA ct).2.2.2.2.2.2.2.1) ((qcb_v k s sg bg NA NU ME BA ct).2.2.2.2.2.2.2.2))) = true) (.ok false)
    (.ite ((k == (1 : Int)) = true) (.ite ((qda_c k s sg bg NA NU ME BA ct) = true) (.ok (qda_v k s sg bg NA NU ME BA ct))
      .no)
     (.ite ((k == (2 : Int)) = true) (.ok (qdb_v s (1 : Int) (16 : Int)))
      (.ite ((k == (3 : Int)) = true) (.ite ((qbb_c k s sg bg NA NU ME BA ct) = true) (.ok (qbb_v k s sg bg NA NU ME BA ct))
        .no)
       (.ite ((k == (4 : Int)) = true) (.ite ((qg_c k s sg bg NA NU ME BA ct (IntKind.wrap .i64 (d - (1 : Int)))) = true) (.ok (qg_v k s sg bg NA NU ME BA ct (IntKind.wrap .i64 (d - (1 : Int)))))
         .no)
        (.ite ((k == (5 : Int)) = true) (.ite ((qdb_v ct (1 : Int) (4 : Int)) = true) (.ite (((BA.length : Int) == (1 : Int)) = true) (.ite ((0 : Int) ≤ (0 : Int) ∧ (0 : Int) < (BA.length : Int)) (.ite ((qbd_rc ((nth (row BA (0 : Int)) 0).int) ((nth (row BA (0 : Int)) 1).int) ((nth (row BA (0 : Int)) 2).bool) ((nth (row BA (0 : Int)) 3).bool) ((nth (row BA (0 : Int)) 4).list) ((nth (row BA (0 : Int)) 5).list) ((nth (row BA (0 : Int)) 6).list) ((nth (row BA (0 : Int)) 7).list) ((nth (row BA (0 : Int)) 8).int) (IntKind.wrap .i64 (d - (1 : Int)))) = true) (.ite ((qbd_rv ((nth (row BA (0 : Int)) 0).int) ((nth (row BA (0 : Int)) 1).int) ((nth (row BA (0 : Int)) 2).bool) ((nth (row BA (0 : Int)) 3).bool) ((nth (row BA (0 : Int)) 4).list) ((nth (row BA (0 : Int)) 5).list) ((nth (row BA (0 : Int)) 6).list) ((nth (row BA (0 : Int)) 7).list) ((nth (row BA (0 : Int)) 8).int) (IntKind.wrap .i64 (d - (1 : Int)))) = true) (.ite ((qbh_rc k s sg bg NA NU ME BA ct) = true) (.ok (decide ((qbh_rv k s sg bg NA NU ME BA ct) ≤ (24 : Int))))
               .no)
              (.ok false))
             .no)
            .no)
           (.ok false))
          (.ok false))
         (.ite ((k == (6 : Int)) = true) (.ok (s == (2 : Int)))
          (.ok false))))))))
   .no))
def qbd_mk (p : Bool) : Res := [(false, [⟨.bool, .sh, TC.b p⟩])]
def qbd_c (k s : Int) (sg bg : Bool) (NA NU ME BA : LL) (ct d : Int) : Bool := (bif (decide (d < (1 : Int))) then true else ((qbm_rc k s sg bg NA NU ME BA ct ((qcb_v k s sg bg NA NU ME BA ct).1) ((qcb_v k s sg bg NA NU ME BA ct).2.1) ((qcb_v k s sg bg NA NU ME BA ct).2.2.1) ((qcb_v k s sg bg NA NU ME BA ct).2.2.2.1) ((qcb_v k s sg bg NA NU ME BA ct).2.2.2.2.1) ((qcb_v k s sg bg NA NU ME BA ct).2.2.2.2.2.1) ((qcb_v k s sg bg NA NU ME BA ct).2.2.2.2.2.2.1) ((qcb_v k s sg bg NA NU ME BA ct).2.2.2.2.2.2.2.1) ((qcb_v k s sg bg NA NU ME BA ct).2.2.2.2.2.2.2.2)) && (bif (!(qbm_rv k s sg bg NA NU ME BA ct ((qcb_v k s sg bg NA NU ME BA ct).1) ((qcb_v k s sg bg NA NU ME BA ct).2.1) ((qcb_v k s sg bg NA NU ME BA ct).2.2.1) ((qcb_v k s sg bg NA NU ME BA ct).2.2.2.1) ((qcb_v k s sg bg NA NU ME BA ct).2.2.2.2.1) ((qcb_v k s sg bg NA NU ME BA ct).2.2.2.2.2.1) ((qcb_v k s sg bg NA NU ME BA ct).2.2.2.2.2.2.1) ((qcb_v k s sg bg NA NU ME BA ct).2.2.2.2.2.2.2.1) ((qcb_v k s sg bg NA NU ME BA ct).2.2.2.2.2.2.2.2))) then true else (bif (k == (1 : Int)) then ((qda_c k s sg bg NA NU ME BA ct) && true) else (bif (k == (2 : Int)) then true else (bif (k == (3 : Int)) then ((qbb_c k s sg bg NA NU ME BA ct) && true) else (bif (k == (4 : Int)) then ((qg_c k s sg bg NA NU ME BA ct (IntKind.wrap .i64 (d - (1 : Int)))) && true) else (bif (k == (5 : Int)) then (bif (qdb_v ct (1 : Int) (4 : Int)) then (bif ((BA.length : Int) == (1 : Int)) then (is ((0 : Int) ≤ (0 : Int) ∧ (0 : Int) < (BA.length : Int)) && ((qbd_rc ((nth (row BA (0 : Int)) 0).int) ((nth (row BA (0 : Int)) 1).int) ((nth (row BA (0 : Int)) 2).bool) ((nth (row BA (0 : Int)) 3).bool) ((nth (row BA (0 : Int)) 4).list) ((nth (row BA (0 : Int)) 5).list) ((nth (row BA (0 : Int)) 6).list) ((nth (row BA (0 : Int)) 7).list) ((nth (row BA (0 : Int)) 8).int) (IntKind.wrap .i64 (d - (1 : Int)))) && (bif (qbd_rv ((nth (row BA (0 : Int)) 0).int) ((nth (row BA (0 : Int)) 1).int) ((nth (row BA (0 : Int)) 2).bool) ((nth (row BA (0 : Int)) 3).bool) ((nth (row BA (0 : Int)) 4).list) ((nth (row BA (0 : Int)) 5).list) ((nth (row BA (0 : Int)) 6).list) ((nth (row BA (0 : Int)) 7).list) ((nth (row BA (0 : Int)) 8).int) (IntKind.wrap .i64 (d - (1 : Int)))) then ((qbh_rc k s sg bg NA NU ME BA ct) && true) else true))) else true) else true) else (bif (k == (6 : Int)) then true else true)))))))))
end
end
end
end
end
end
end
end
end
end
end
end Go.Proofs.Ytdcafhfnkblfkaa.V
