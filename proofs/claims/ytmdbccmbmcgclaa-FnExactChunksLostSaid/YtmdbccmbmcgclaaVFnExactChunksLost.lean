/- What the functions of FnExactChunksLost answer. No condition. -/
import Derived.Test.YtmdbccmbmcgclaaVFnExactChunksLostP1
namespace Go.Proofs.Ytmdbccmbmcgclaa.V
open Go
set_option maxRecDepth 100000
set_option linter.unusedVariables false
set_option linter.unusedSectionVars false
set_option linter.unusedSimpArgs false
set_option maxHeartbeats 2000000
noncomputable def qg_S : List Arg → Option (Bool × Res) := fun xs => match xs with
  | [(false, [(.slice 2, TC.l A)]), (false, [(.func, TC.f 103 [(22, cap0)])])] => some ((qg_c A cap0), qg_mk (qg_v A cap0))
  | _ => .none
theorem qg_e (A : LL) (cap0 : List TC) : runF tab FT D27 live 138 qg_lo [(false, [(.slice 2, TC.l A)]), (false, [(.func, TC.f 103 [(22, cap0)])])] = (qg_t A cap0).run fun p => some (qg_mk p) := by kernel_rfl
theorem qg_s : ∀ xs r, qg_S xs = some (true, r) → runF tab FT D27 live 138 qg_lo xs = some r := by
  intro xs r h
  unfold qg_S at h
  split at h
  · simp only [Option.some.injEq, Prod.mk.injEq] at h
    obtain ⟨h1, rfl⟩ := h
    exact fun_told (qg_e _ _) (qg_l _ _) h1
  · cases h
noncomputable def D28 : Dt := also D27 138 qg_S
theorem d28 : DOk Go.Proofs.Try.prog tab D28 := d27.also mixed_ok tab_ok names_ok (fnLoops_one (by kernel_rfl) qg_is2) qg_s
theorem qn_row {A : LL} {x : List TC} (h : Typed tab (.slice 2) (.l A)) (hx : x ∈ A) : x.length = 1 ∧ [TC.i ((nth x 0).int)] = x := by
  obtain ⟨hl, hk⟩ := typed_elem h hx
  have e0 : TC.i ((nth x 0).int) = nth x 0 := typed_int_eq (hk 0 (by decide))
  refine ⟨hl, ?_⟩
  rw [e0]
  exact (row_eta hl).symm
abbrev qn_5_σ := LL × List TC × Int × Int × LL
abbrev qn_5_ω := (LL × Int × LL)
noncomputable def qn_5_step (S : LL) (cap0 : List TC) (i j : Int) (Z : LL) : Tr (qn_5_σ ⊕ qn_5_ω) := (.ite ((decide (j < (S.length : Int))) = true) (.ite ((0 : Int) ≤ j ∧ j < (S.length : Int)) (.ite ((qf_c ((nth (row S j) 0).int) cap0) = true) (.ite ((!(qf_v ((nth (row S j) 0).int) cap0)) = true) (.ite ((0 : Int) ≤ i ∧ i < (S.length : Int)) (.ok (.inl ((S.set (i).toNat (splice (row S i) 0 [TC.i ((nth (row S j) 0).int)])), cap0, (IntKind.wrap .i64 (i + (1 : Int))), (IntKind.wrap .i64 (j + (1 : Int))), Z)))
      .no)
     (.ok (.inl (S, cap0, i, (IntKind.wrap .i64 (j + (1 : Int))), Z))))
    .no)
   .no)
  (.ok (.inr (S, i, Z))))
noncomputable def qn_5_st : qn_5_σ → Tr (qn_5_σ ⊕ qn_5_ω) := fun x => (qn_5_step (x.1) (x.2.1) (x.2.2.1) (x.2.2.2.1) (x.2.2.2.2))
noncomputable def qn_o5_1 (S : LL) (cap0 : List TC) (i j : Int) (Z : LL) : Bool := is (Typed tab (.slice 2) (.l S) ∧ 0 ≤ i ∧ i < j ∧ j ≤ (S.length : Int) ∧ Typed tab (.slice 2) (.l (nth cap0 0).list))
noncomputable def qn_u5_1_0 (S : LL) (cap0 : List TC) (i j : Int) (Z : LL) : LL := (delL (fun x => !(qf_v ((nth x 0).int) cap0)) (S.drop j.toNat) S i.toNat).1
noncomputable def qn_u5_1_1 (S : LL) (cap0 : List TC) (i j : Int) (Z : LL) : Int := (((delL (fun x => !(qf_v ((nth x 0).int) cap0)) (S.drop j.toNat) S i.toNat).2 : Nat) : Int)
noncomputable def qn_5_fin (S : LL) (cap0 : List TC) (i j : Int) (Z : LL) : Told qn_5_ω := (.leaf (qn_o5_1 S cap0 i j Z) ((qn_u5_1_0 S cap0 i j Z), (qn_u5_1_1 S cap0 i j Z), Z))
def qn_5_sl (x : qn_5_σ) : List Slot := [⟨.val false [⟨.slice 2, .own true, TC.l (x.1)⟩], ⟨0, 0⟩⟩, ⟨.val false [⟨.func, .sh, TC.f 103 [(22, x.2.1)]⟩], ⟨0, 0⟩⟩, ⟨.val false [⟨.int .i64, .sh, TC.i (x.2.2.1)⟩], ⟨0, 0⟩⟩, ⟨.val false [⟨.int .i64, .sh, TC.i (x.2.2.2.1)⟩], ⟨0, 0⟩⟩, ⟨.gv [⟨.slice 2, .gone, TC.l (x.2.2.2.2)⟩], ⟨0, 0⟩⟩]
def qn_5_out : qn_5_ω → Ex × List Slot := (fun x => (.exit 0, [⟨.val false [⟨.slice 2, .own true, TC.l (x.1)⟩], ⟨0, 0⟩⟩, Slot.none, ⟨.val false [⟨.int .i64, .sh, TC.i (x.2.1)⟩], ⟨0, 0⟩⟩, ⟨.gv [⟨.slice 2, .gone, TC.l (x.2.2)⟩], ⟨0, 0⟩⟩]))
noncomputable def qn_lo5 : List Slot → Option (Told (Ex × List Slot)) := fun s => match s with
  | [⟨.val false [⟨.slice 2, .own true, TC.l S⟩], ⟨0, 0⟩⟩, ⟨.val false [⟨.func, .sh, TC.f 103 [(22, cap0)]⟩], ⟨0, 0⟩⟩, ⟨.val false [⟨.int .i64, .sh, TC.i i⟩], ⟨0, 0⟩⟩, ⟨.val false [⟨.int .i64, .sh, TC.i j⟩], ⟨0, 0⟩⟩, ⟨.gv [⟨.slice 2, .gone, TC.l Z⟩], ⟨0, 0⟩⟩] => some (((qn_5_fin S cap0 i j Z)).map qn_5_out)
  | _ => .none
noncomputable def qn_lo : LoopTeller := fun r s => bif Nat.beq r 5 then qn_lo5 s else .none
theorem qn_5_r (S : LL) (cap0 : List TC) (i j : Int) (Z : LL) (fuel : Nat) : rounds (rnd tab FT D28 live 102 qn_lo 0 5) leave (fuel + 1) (qn_5_sl (S, cap0, i, j, Z)) = ((qn_5_step S cap0 i j Z)).run (goOn (fun s => rounds (rnd tab FT D28 live 102 qn_lo 0 5) leave fuel (qn_5_sl s)) fun w => some (qn_5_out w)) := by kernel_rfl
theorem qn_5_h (S : LL) (cap0 : List TC) (i j : Int) (Z : LL) (ow : qn_5_ω) : ((qn_5_fin S cap0 i j Z)).val = some ow → ∃ fuel, loopN qn_5_st fuel (S, cap0, i, j, Z) = some ow := by
  intro h
  refine auto_leaf (R := ((delL (fun x => !(qf_v ((nth x 0).int) cap0)) (S.drop (j).toNat) S (i).toNat).1, (((delL (fun x => !(qf_v ((nth x 0).int) cap0)) (S.drop (j).toNat) S (i).toNat).2 : Nat) : Int), Z)) (fun ho => ?_) h
  obtain ⟨ht, h0, h1, h2, hcl⟩ := is_iff.1 ho
  obtain ⟨i0, rfl⟩ := Int.eq_ofNat_of_zero_le h0
  obtain ⟨j0, rfl⟩ := Int.eq_ofNat_of_zero_le (show (0 : Int) ≤ j by omega)
  have hlen : S.length ≤ 140737488351232 := by have := typed_room ht; simp only [show (tab 2).bytes = 8 from rfl] at this; omega
  have key : ∀ (xs : LL) (j i : Nat) (S' : LL), S.drop j = xs → S'.length = S.length → (∀ p : Nat, j ≤ p → row S' (p : Int) = row S (p : Int)) → (∀ x, x ∈ S' → x ∈ S) → i < j → j ≤ S.length →
      ∃ fuel, loopN qn_5_st fuel (S', cap0, (i : Int), (j : Int), Z) = some ((delL (fun x => !(qf_v ((nth x 0).int) cap0)) xs S' i).1, (((delL (fun x => !(qf_v ((nth x 0).int) cap0)) xs S' i).2 : Nat) : Int), Z) := by
    intro xs
    induction xs with
    | nil =>
      intro j i S' hx hl hp hm hij hj
      have hjl : j = S.length := by
        have := congrArg List.length hx
        rw [List.length_drop, List.length_nil] at this
        omega
      refine ⟨1, loopN_end ?_⟩
      show (qn_5_step S' cap0 (i : Int) (j : Int) Z).val = _
      unfold qn_5_step
      refine Tr.n (by simp; omega) ?_
      rfl
    | cons x xs ih =>
      intro j i S' hx hl hp hm hij hj
      obtain ⟨hjl, hrow, hdr⟩ := row_drop hx
      have hxS : x ∈ S := by rw [← hrow, row_nat]; exact mem_getD hjl
      have hiS : row S' (i : Int) ∈ S := hm _ (by rw [row_nat]; exact mem_getD (by omega))
      have hr := hp j (Nat.le_refl _)
      rw [hrow] at hr
      have hfx := (qn_row ht hxS).2
      have hw1 : IntKind.wrap .i64 ((j : Int) + 1) = ((j + 1 : Nat) : Int) := by rw [wrap64 (by omega) (by omega)]; rfl
      have hw2 : IntKind.wrap .i64 ((i : Int) + 1) = ((i + 1 : Nat) : Int) := by rw [wrap64 (by omega) (by omega)]; rfl
      cases hP : (fun x => !(qf_v ((nth x 0).int) cap0)) x with
      | true =>
        obtain ⟨fuel, hf⟩ := ih (j + 1) (i + 1) (S'.set i x) hdr (by rw [List.length_set]; exact hl) (fun p hpj => by
          have := hp p (by omega)
          rw [row_nat] at this ⊢
          rw [List.getD_eq_getElem?_getD, List.getElem?_set_ne (by omega), ← List.getD_eq_getElem?_getD]
          exact this) (fun y hy => (List.mem_or_eq_of_mem_set hy).elim (hm y) (fun e => e ▸ hxS)) (by omega) (by omega)
        refine ⟨fuel + 1, ?_⟩
        have hst : (qn_5_st (S', cap0, (i : Int), (j : Int), Z)).val = some (Sum.inl (S'.set i x, cap0, ((i + 1 : Nat) : Int), ((j + 1 : Nat) : Int), Z)) := by
          show (qn_5_step S' cap0 (i : Int) (j : Int) Z).val = _
          unfold qn_5_step
          rw [hr, hw1, hw2, hfx]
          refine Tr.t (by simp; omega) (Tr.t (by constructor <;> omega) (Tr.t (qf_cc hcl) (Tr.t hP (Tr.t (by constructor <;> omega) ?_))))
          have hsp : splice (row S' (i : Int)) 0 x = x := by
            unfold splice
            rw [List.take_zero, List.nil_append, List.drop_of_length_le (by rw [(qn_row ht hiS).1, (qn_row ht hxS).1]; omega), List.append_nil]
          rw [Tr.val_ok, hsp]; rfl
        rw [loopN_next hst, hf, delL_t hP]
      | false =>
        obtain ⟨fuel, hf⟩ := ih (j + 1) i S' hdr hl (fun p hpj => hp p (by omega)) hm (by omega) (by omega)
        refine ⟨fuel + 1, ?_⟩
        have hst : (qn_5_st (S', cap0, (i : Int), (j : Int), Z)).val = some (Sum.inl (S', cap0, (i : Int), ((j + 1 : Nat) : Int), Z)) := by
          show (qn_5_step S' cap0 (i : Int) (j : Int) Z).val = _
          unfold qn_5_step
          rw [hr, hw1, hw2, hfx]
          refine Tr.t (by simp; omega) (Tr.t (by constructor <;> omega) (Tr.t (qf_cc hcl) (Tr.n (fun hh => Bool.false_ne_true (hP.symm.trans hh)) ?_)))
          rfl
        rw [loopN_next hst, hf, delL_f hP]
  exact key (S.drop j0) j0 i0 S rfl rfl (fun _ _ => rfl) (fun _ h => h) (by omega) (by omega)
theorem qn_is5 : LoopIs tab FT D28 live 102 qn_lo 0 5 := by
  refine loop_told (sl := qn_5_sl) (step := qn_5_st) (out := qn_5_out) (lor := qn_lo5) (fin := fun x => (qn_5_fin (x.1) (x.2.1) (x.2.2.1) (x.2.2.2.1) (x.2.2.2.2))) (fun _ => rfl) ?_ (fun x n => qn_5_r x.1 x.2.1 x.2.2.1 x.2.2.2.1 x.2.2.2.2 n) (fun x ow => qn_5_h x.1 x.2.1 x.2.2.1 x.2.2.2.1 x.2.2.2.2 ow)
  intro s t h
  unfold qn_lo5 at h
  split at h
  · cases h; exact ⟨(_, _, _, _, _), rfl, rfl⟩
  · cases h
noncomputable def qn_t (A : LL) (cap0 : List TC) : Tr (LL × LL) := (.ite ((qg_c A cap0) = true) (.ite (((qg_v A cap0) == (-1 : Int)) = true) (.ok (A, A))
   (.ite ((qn_o5_1 A cap0 (qg_v A cap0) (IntKind.wrap .i64 ((qg_v A cap0) + (1 : Int))) A) = true) (.ite ((0 : Int) ≤ (qn_u5_1_1 A cap0 (qg_v A cap0) (IntKind.wrap .i64 ((qg_v A cap0) + (1 : Int))) A) ∧ (qn_u5_1_1 A cap0 (qg_v A cap0) (IntKind.wrap .i64 ((qg_v A cap0) + (1 : Int))) A) ≤ ((qn_u5_1_0 A cap0 (qg_v A cap0) (IntKind.wrap .i64 ((qg_v A cap0) + (1 : Int))) A).length : Int) ∧ ((qn_u5_1_0 A cap0 (qg_v A cap0) (IntKind.wrap .i64 ((qg_v A cap0) + (1 : Int))) A).length : Int) ≤ ((qn_u5_1_0 A cap0 (qg_v A cap0) (IntKind.wrap .i64 ((qg_v A cap0) + (1 : Int))) A).length : Int)) (.ite ((0 : Int) ≤ (0 : Int) ∧ (0 : Int) ≤ (qn_u5_1_1 A cap0 (qg_v A cap0) (IntKind.wrap .i64 ((qg_v A cap0) + (1 : Int))) A) ∧ (qn_u5_1_1 A cap0 (qg_v A cap0) (IntKind.wrap .i64 ((qg_v A cap0) + (1 : Int))) A) ≤ ((splice (qn_u5_1_0 A cap0 (qg_v A cap0) (IntKind.wrap .i64 ((qg_v A cap0) + (1 : Int))) A) ((qn_u5_1_1 A cap0 (qg_v A cap0) (IntKind.wrap .i64 ((qg_v A cap0) + (1 : Int))) A)).toNat (List.replicate ((((qn_u5_1_0 A cap0 (qg_v A cap0) (IntKind.wrap .i64 ((qg_v A cap0) + (1 : Int))) A).length : Int)).toNat - ((qn_u5_1_1 A cap0 (qg_v A cap0) (IntKind.wrap .i64 ((qg_v A cap0) + (1 : Int))) A)).toNat) [TC.i (0 : Int)])).length : Int)) (.ok (A, ((splice (qn_u5_1_0 A cap0 (qg_v A cap0) (IntKind.wrap .i64 ((qg_v A cap0) + (1 : Int))) A) ((qn_u5_1_1 A cap0 (qg_v A cap0) (IntKind.wrap .i64 ((qg_v A cap0) + (1 : Int))) A)).toNat (List.replicate ((((qn_u5_1_0 A cap0 (qg_v A cap0) (IntKind.wrap .i64 ((qg_v A cap0) + (1 : Int))) A).length : Int)).toNat - ((qn_u5_1_1 A cap0 (qg_v A cap0) (IntKind.wrap .i64 ((qg_v A cap0) + (1 : Int))) A)).toNat) [TC.i (0 : Int)])).take ((qn_u5_1_1 A cap0 (qg_v A cap0) (IntKind.wrap .i64 ((qg_v A cap0) + (1 : Int))) A)).toNat)))
      .no)
     .no)
    .no))
  .no)
def qn_mk (p : LL × LL) : Res := [(true, [⟨.slice 2, .gone, TC.l (p.1)⟩]), (false, [⟨.slice 2, .own true, TC.l (p.2)⟩])]
noncomputable def qn_c (A : LL) (cap0 : List TC) : Bool := is (Typed tab (.slice 2) (.l A) ∧ Typed tab (.slice 2) (.l (nth cap0 0).list))
noncomputable def qn_v (A : LL) (cap0 : List TC) : LL × LL := (A, A.filter (fun x => !(qf_v ((nth x 0).int) cap0)))
theorem qn_l (A : LL) (cap0 : List TC) : (qn_c A cap0) = true → (qn_t A cap0).val = some (qn_v A cap0) := by
  intro h
  obtain ⟨ht, hcl⟩ := is_iff.1 h
  have hlen : A.length ≤ 140737488351232 := by have := typed_room ht; simp only [show (tab 2).bytes = 8 from rfl] at this; omega
  unfold qn_t qn_v
  cases hk : A.all (fun x => !(qf_v ((nth x 0).int) cap0)) with
  | true =>
    have hv : qg_v A cap0 = -1 := by unfold qg_v; rw [if_pos hk]
    rw [hv]
    refine Tr.t (is_true ⟨ht, hcl⟩) (Tr.t (by simp) ?_)
    rw [List.filter_eq_self.2 (List.all_eq_true.1 hk)]
    rfl
  | false =>
    have hv : qg_v A cap0 = ((A.findIdx fun x => !(fun x => !(qf_v ((nth x 0).int) cap0)) x : Nat) : Int) := by unfold qg_v; rw [if_neg (by rw [hk]; simp)]; rfl
    obtain ⟨k1, k2, k3⟩ := find_split hk
    rw [filter_split k1 k2 k3]
    rw [hv]
    generalize (A.findIdx fun x => !(fun x => !(qf_v ((nth x 0).int) cap0)) x) = ix at k1 k2 k3 ⊢
    have hw : IntKind.wrap .i64 ((ix : Int) + 1) = ((ix + 1 : Nat) : Int) := by rw [wrap64 (by omega) (by omega)]; rfl
    rw [hw]
    obtain ⟨d1, d2, d3⟩ := delL_ok (fun x => !(qf_v ((nth x 0).int) cap0)) (A.drop (ix + 1)) A ix (by rw [List.length_drop]; omega)
    refine Tr.t (is_true ⟨ht, hcl⟩) (Tr.n (by first | (simp; done) | (simp; omega)) (Tr.t (is_true ⟨ht, by omega, by omega, by omega, hcl⟩) ?_))
    have u0 : qn_u5_1_0 A cap0 (ix : Int) ((ix + 1 : Nat) : Int) A = (delL (fun x => !(qf_v ((nth x 0).int) cap0)) (A.drop (ix + 1)) A ix).1 := rfl
    have u1 : qn_u5_1_1 A cap0 (ix : Int) ((ix + 1 : Nat) : Int) A = (((delL (fun x => !(qf_v ((nth x 0).int) cap0)) (A.drop (ix + 1)) A ix).2 : Nat) : Int) := rfl
    rw [u0, u1]
    generalize (delL (fun x => !(qf_v ((nth x 0).int) cap0)) (A.drop (ix + 1)) A ix).1 = S' at d1 d2 ⊢
    generalize (delL (fun x => !(qf_v ((nth x 0).int) cap0)) (A.drop (ix + 1)) A ix).2 = i' at d1 d3 ⊢
    refine Tr.t ⟨by omega, by omega, by omega⟩ (Tr.t ?_ ?_)
    · refine ⟨by omega, by omega, ?_⟩
      rw [splice_length _ _ _ (by rw [List.length_replicate]; omega)]; omega
    · rw [Tr.val_ok]
      show some (A, (splice S' (i' : Int).toNat _).take (i' : Int).toNat) = some (A, _)
      rw [← d1]
      congr 2
      unfold splice
      rw [Int.toNat_natCast, List.append_assoc, List.take_append_of_le_length (by rw [List.length_take]; omega)]
      try rw [List.take_take, Nat.min_self]
noncomputable def qn_S : List Arg → Option (Bool × Res) := fun xs => match xs with
  | [(false, [(.slice 2, TC.l A)]), (false, [(.func, TC.f 103 [(22, cap0)])])] => some ((qn_c A cap0), qn_mk (qn_v A cap0))
  | _ => .none
theorem qn_e (A : LL) (cap0 : List TC) : runFW true tab FT D28 live 102 qn_lo (false, [(.slice 2, TC.l A)]) [(false, [(.func, TC.f 103 [(22, cap0)])])] = (qn_t A cap0).run fun p => some (qn_mk p) := by kernel_rfl
theorem qn_s0 : ∀ ys r, qn_S ys = some (true, r) → ∀ a0 xs, ys = a0 :: xs → runFW true tab FT D28 live 102 qn_lo a0 xs = some r := by
  intro ys r h
  unfold qn_S at h
  split at h
  · simp only [Option.some.injEq, Prod.mk.injEq] at h
    obtain ⟨h1, rfl⟩ := h
    intro a0 xs e
    cases e
    exact fun_toldW (qn_e _ _) (qn_l _ _) h1
  · cases h
theorem qn_s : ∀ a0 xs r, qn_S (a0 :: xs) = some (true, r) → runFW true tab FT D28 live 102 qn_lo a0 xs = some r := fun a0 xs r h => qn_s0 _ r h a0 xs rfl
noncomputable def D29 : Dt := alsoW D28 102 qn_S
theorem d29 : DOk Go.Proofs.Try.prog tab D29 := d28.alsoW mixed_ok tab_ok names_ok (fnLoops_one (by kernel_rfl) qn_is5) qn_s
noncomputable def qb_t (D F C : LL) : Tr (LL) := (.ite ((qi_c F C) = true) (.ite ((qi_c D C) = true) (.ite ((qn_c (qi_v D C) [TC.l (qi_v F C)]) = true) (.ok ((qn_v (qi_v D C) [TC.l (qi_v F C)]).2))
    .no)
   .no)
  .no)
def qb_mk (p : LL) : Res := [(false, [⟨.slice 2, .own true, TC.l p⟩])]
noncomputable def qb_c (D F C : LL) : Bool := ((qi_c F C) && ((qi_c D C) && ((qn_c (qi_v D C) [TC.l (qi_v F C)]) && true)))
noncomputable def qb_v (D F C : LL) : LL := (qn_v (qi_v D C) [TC.l (qi_v F C)]).2
theorem qb_l (D F C : LL) : (qb_c D F C) = true → (qb_t D F C).val = some (qb_v D F C) := by
  unfold qb_t qb_v qb_c
  exact fun h => (Tr.gb h fun h => (Tr.gb h fun h => (Tr.gb h fun h => rfl)))
noncomputable def qb_S : List Arg → Option (Bool × Res) := fun xs => match xs with
  | [(false, [(.slice 2, TC.l D)]), (false, [(.slice 2, TC.l F)]), (false, [(.slice 2, TC.l C)])] => some ((qb_c D F C), qb_mk (qb_v D F C))
  | _ => .none
theorem qb_e (D F C : LL) : runF tab FT D29 live 57 noLoops [(false, [(.slice 2, TC.l D)]), (false, [(.slice 2, TC.l F)]), (false, [(.slice 2, TC.l C)])] = (qb_t D F C).run fun p => some (qb_mk p) := by kernel_rfl
theorem qb_s : ∀ xs r, qb_S xs = some (true, r) → runF tab FT D29 live 57 noLoops xs = some r := by
  intro xs r h
  unfold qb_S at h
  split at h
  · simp only [Option.some.injEq, Prod.mk.injEq] at h
    obtain ⟨h1, rfl⟩ := h
    exact fun_told (qb_e _ _ _) (qb_l _ _ _) h1
  · cases h
noncomputable def D30 : Dt := also D29 57 qb_S
theorem d30 : DOk Go.Proofs.Try.prog tab D30 := d29.also mixed_ok tab_ok names_ok noLoops_ok qb_s
theorem qb_cc {D : LL} {F : LL} {C : LL} (hD : Typed tab (.slice 2) (.l D)) (hF : Typed tab (.slice 2) (.l F)) (hk : chunkOk D C = true) (hj : chunkOk F C = true) : (qb_c D F C) = true := by
  unfold qb_c
  refine andT (by exact qi_cc hF hj) ?_
  refine andT (by exact qi_cc hD hk) ?_
  refine andT (by exact is_true ⟨keysG_ty rfl rfl hk, keysG_ty rfl rfl hj⟩) ?_
  rfl
theorem qb_vv (D F C : LL) : qb_v D F C = (keysG D C).filter (fun x => !(hasK (keysG F C) (nth x 0).int)) := by
  show List.filter _ _ = List.filter _ _
  congr 1
  funext x
  show (!(decide ((bif (keysG F C).all (fun y => !((nth x 0).int == (nth y 0).int)) then (-1 : Int) else Int.ofNat _) ≥ 0))) = _
  rw [show (fun y : List TC => !((nth x 0).int == (nth y 0).int)) = (fun y => !((nth y 0).int == (nth x 0).int)) from by funext y; rw [Bool.beq_comm]]
  unfold hasK
  cases (keysG F C).all (fun y => !((nth y 0).int == (nth x 0).int)) <;> simp
noncomputable def ql_t (D F C : LL) : Tr (LL) := (.ite ((qm_c D C) = true) (.ite ((!(qm_v D C)) = true) (.ok ([]))
   (.ite ((qm_c F C) = true) (.ite ((!(qm_v F C)) = true) (.ok ([]))
     (.ite ((qb_c D F C) = true) (.ok (qb_v D F C))
      .no))
    .no))
  .no)
def ql_mk (p : LL) : Res := [(false, [⟨.slice 2, .own true, TC.l p⟩])]
noncomputable def ql_c (D F C : LL) : Bool := ((qm_c D C) && (bif (!(qm_v D C)) then true else ((qm_c F C) && (bif (!(qm_v F C)) then true else ((qb_c D F C) && true)))))
noncomputable def ql_v (D F C : LL) : LL := (bif (!(qm_v D C)) then [] else (bif (!(qm_v F C)) then [] else (qb_v D F C)))
theorem ql_l (D F C : LL) : (ql_c D F C) = true → (ql_t D F C).val = some (ql_v D F C) := by
  unfold ql_t ql_v ql_c
  exact fun h => (Tr.gb h fun h => (Tr.ss h (fun h => rfl) (fun h => (Tr.gb h fun h => (Tr.ss h (fun h => rfl) (fun h => (Tr.gb h fun h => rfl)))))))
noncomputable def ql_S : List Arg → Option (Bool × Res) := fun xs => match xs with
  | [(false, [(.slice 2, TC.l D)]), (false, [(.slice 2, TC.l F)]), (false, [(.slice 2, TC.l C)])] => some ((ql_c D F C), ql_mk (ql_v D F C))
  | _ => .none
theorem ql_e (D F C : LL) : runF tab FT D30 live 19 noLoops [(false, [(.slice 2, TC.l D)]), (false, [(.slice 2, TC.l F)]), (false, [(.slice 2, TC.l C)])] = (ql_t D F C).run fun p => some (ql_mk p) := by kernel_rfl
theorem ql_s : ∀ xs r, ql_S xs = some (true, r) → runF tab FT D30 live 19 noLoops xs = some r := by
  intro xs r h
  unfold ql_S at h
  split at h
  · simp only [Option.some.injEq, Prod.mk.injEq] at h
    obtain ⟨h1, rfl⟩ := h
    exact fun_told (ql_e _ _ _) (ql_l _ _ _) h1
  · cases h
noncomputable def D31 : Dt := also D30 19 ql_S
theorem d31 : DOk Go.Proofs.Try.prog tab D31 := d30.also mixed_ok tab_ok names_ok noLoops_ok ql_s
theorem ql_cc {D : LL} {F : LL} {C : LL} (hD : Typed tab (.slice 2) (.l D)) (hF : Typed tab (.slice 2) (.l F)) (hC : Typed tab (.slice 2) (.l C)) : (ql_c D F C) = true := by
  unfold ql_c
  refine andT (by exact qm_cc hD hC) ?_
  refine bifT (fun b1 => ?_) (fun b1 => ?_)
  · skip
    rfl
  · skip
    refine andT (by exact qm_cc hF hC) ?_
    refine bifT (fun b2 => ?_) (fun b2 => ?_)
    · skip
      rfl
    · skip
      refine andT (by exact qb_cc hD hF ((qm_vv _ _).symm.trans (notF b1)) ((qm_vv _ _).symm.trans (notF b2))) ?_
      rfl
theorem ql_vv (D F C : LL) : ql_v D F C = lostV D F C := by
  unfold ql_v lostV
  rw [qm_vv, qm_vv, qb_vv]
  cases chunkOk D C <;> cases chunkOk F C <;> rfl
abbrev qq_4_σ := LL × LL × Int
abbrev qq_4_ω := (Unit) ⊕ (Unit)
noncomputable def qq_4_step (A C : LL) (i : Int) : Tr (qq_4_σ ⊕ qq_4_ω) := (.ite ((decide (i < (A.length : Int))) = true) (.ite ((0 : Int) ≤ i ∧ i < (A.length : Int)) (.ite ((0 : Int) ≤ i ∧ i < (C.length : Int)) (.ite ((!((nth (row A i) 0).int == (nth (row C i) 0).int)) = true) (.ok (.inr (.inl ())))
     (.ok (.inl (A, C, (IntKind.wrap .i64 (i + (1 : Int)))))))
    .no)
   .no)
  (.ok (.inr (.inr ()))))
noncomputable def qq_4_st : qq_4_σ → Tr (qq_4_σ ⊕ qq_4_ω) := fun x => (qq_4_step (x.1) (x.2.1) (x.2.2))
noncomputable def qq_o4_1 (A C : LL) (i : Int) : Bool := is (A = C ∧ i = 0 ∧ Typed tab (.slice 2) (.l A))
noncomputable def qq_4_fin (A C : LL) (i : Int) : Told qq_4_ω := (.leaf (qq_o4_1 A C i) (.inr ()))
def qq_4_sl (x : qq_4_σ) : List Slot := [⟨.val false [⟨.slice 2, .sh, TC.l (x.1)⟩], ⟨0, 0⟩⟩, ⟨.val false [⟨.slice 2, .sh, TC.l (x.2.1)⟩], ⟨0, 0⟩⟩, ⟨.val false [⟨.int .i64, .sh, TC.i (x.2.2)⟩], ⟨0, 0⟩⟩]
def qq_4_out : qq_4_ω → Ex × List Slot := (Sum.elim (fun x => (.ret, [⟨.val false [⟨.bool, .sh, TC.b false⟩], ⟨0, 0⟩⟩])) (fun x => (.exit 0, [Slot.none])))
noncomputable def qq_lo4 : List Slot → Option (Told (Ex × List Slot)) := fun s => match s with
  | [⟨.val false [⟨.slice 2, .sh, TC.l A⟩], ⟨0, 0⟩⟩, ⟨.val false [⟨.slice 2, .sh, TC.l C⟩], ⟨0, 0⟩⟩, ⟨.val false [⟨.int .i64, .sh, TC.i i⟩], ⟨0, 0⟩⟩] => some (((qq_4_fin A C i)).map qq_4_out)
  | _ => .none
noncomputable def qq_lo : LoopTeller := fun r s => bif Nat.beq r 4 then qq_lo4 s else .none
theorem qq_4_r (A C : LL) (i : Int) (fuel : Nat) : rounds (rnd tab FT D31 live 15 qq_lo 0 4) leave (fuel + 1) (qq_4_sl (A, C, i)) = ((qq_4_step A C i)).run (goOn (fun s => rounds (rnd tab FT D31 live 15 qq_lo 0 4) leave fuel (qq_4_sl s)) fun w => some (qq_4_out w)) := by kernel_rfl
theorem qq_4_h (A C : LL) (i : Int) (ow : qq_4_ω) : ((qq_4_fin A C i)).val = some ow → ∃ fuel, loopN qq_4_st fuel (A, C, i) = some ow := by
  intro h
  simp only [qq_4_fin, Told.val] at h
  split at h
  · rename_i ho
    obtain ⟨rfl, rfl, ht⟩ := is_iff.1 ho
    cases h
    have hlen : A.length ≤ 140737488351232 := by have := typed_room ht; simp only [show (tab 2).bytes = 8 from rfl] at this; omega
    refine ⟨_, loopN_run (N := A.length) (fun i => (A, A, (i : Int))) (fun i hi => ?_) ?_ A.length 0 (by omega)⟩
    · skip
      show (qq_4_step A A (i : Int)).val = _
      unfold qq_4_step
      refine Tr.t (by simp; omega) ?_
      refine Tr.t (by constructor <;> omega) ?_
      refine Tr.t (by constructor <;> omega) ?_
      refine Tr.n (by simp) ?_
      rw [Tr.val_ok, wrap64 (i := (i : Int) + 1) (by omega) (by omega)]; rfl
    · show (qq_4_step A A (A.length : Int)).val = _
      refine Tr.n (by simp) ?_
      rfl
  · cases h
theorem qq_is4 : LoopIs tab FT D31 live 15 qq_lo 0 4 := by
  refine loop_told (sl := qq_4_sl) (step := qq_4_st) (out := qq_4_out) (lor := qq_lo4) (fin := fun x => (qq_4_fin (x.1) (x.2.1) (x.2.2))) (fun _ => rfl) ?_ (fun x n => qq_4_r x.1 x.2.1 x.2.2 n) (fun x ow => qq_4_h x.1 x.2.1 x.2.2 ow)
  intro s t h
  unfold qq_lo4 at h
  split at h
  · cases h; exact ⟨(_, _, _), rfl, rfl⟩
  · cases h
noncomputable def qq_t (A C : LL) : Tr (Bool) := (.ite ((!((A.length : Int) == (C.length : Int))) = true) (.ok false)
  (.ite ((qq_o4_1 A C (0 : Int)) = true) (.ok true)
   .no))
def qq_mk (p : Bool) : Res := [(false, [⟨.bool, .sh, TC.b p⟩])]
noncomputable def qq_c (A C : LL) : Bool := is (A = C ∧ Typed tab (.slice 2) (.l A))
noncomputable def qq_v (A C : LL) : Bool := true
theorem qq_l (A C : LL) : (qq_c A C) = true → (qq_t A C).val = some (qq_v A C) := by
  intro h
  obtain ⟨rfl, ht⟩ := is_iff.1 h
  unfold qq_t
  refine Tr.n (by simp) ?_
  refine Tr.t (by first | (apply is_true; and_intros <;> (first | rfl | assumption | (apply qe_cc <;> assumption) | (apply qh_cc <;> assumption) | (apply qk_cc <;> assumption) | (apply qd_cc <;> assumption) | (apply qm_cc <;> assumption) | (apply qi_cc <;> assumption) | (apply qa_cc <;> assumption) | (apply qf_cc <;> assumption) | (apply qb_cc <;> assumption) | (apply ql_cc <;> assumption) | (first | (apply is_true; and_intros <;> (first | rfl | assumption | (apply qe_cc <;> assumption) | (apply qh_cc <;> assumption) | (apply qk_cc <;> assumption) | (apply qd_cc <;> assumption) | (apply qm_cc <;> assumption) | (apply qi_cc <;> assumption) | (apply qa_cc <;> assumption) | (apply qf_cc <;> assumption) | (apply qb_cc <;> assumption) | (apply ql_cc <;> assumption) | (first | (apply is_true; and_intros <;> (first | rfl | assumption | (apply qe_cc <;> assumption) | (apply qh_cc <;> assumption) | (apply qk_cc <;> assumption) | (apply qd_cc <;> assumption) | (apply qm_cc <;> assumption) | (apply qi_cc <;> assumption) | (apply qa_cc <;> assumption) | (apply qf_cc <;> assumption) | (apply qb_cc <;> assumption) | (apply ql_cc <;> assumption) | (first | (apply is_true; and_intros <;> (first | rfl | assumption | (apply qe_cc <;> assumption) | (apply qh_cc <;> assumption) | (apply qk_cc <;> assumption) | (apply qd_cc <;> assumption) | (apply qm_cc <;> assumption) | (apply qi_cc <;> assumption) | (apply qa_cc <;> assumption) | (apply qf_cc <;> assumption) | (apply qb_cc <;> assumption) | (apply ql_cc <;> assumption))) | (apply qe_cc <;> assumption) | (apply qh_cc <;> assumption) | (apply qk_cc <;> assumption) | (apply qd_cc <;> assumption) | (apply qm_cc <;> assumption) | (apply qi_cc <;> assumption) | (apply qa_cc <;> assumption) | (apply qf_cc <;> assumption) | (apply qb_cc <;> assumption) | (apply ql_cc <;> assumption)))) | (apply qe_cc <;> assumption) | (apply qh_cc <;> assumption) | (apply qk_cc <;> assumption) | (apply qd_cc <;> assumption) | (apply qm_cc <;> assumption) | (apply qi_cc <;> assumption) | (apply qa_cc <;> assumption) | (apply qf_cc <;> assumption) | (apply qb_cc <;> assumption) | (apply ql_cc <;> assumption)))) | (apply qe_cc <;> assumption) | (apply qh_cc <;> assumption) | (apply qk_cc <;> assumption) | (apply qd_cc <;> assumption) | (apply qm_cc <;> assumption) | (apply qi_cc <;> assumption) | (apply qa_cc <;> assumption) | (apply qf_cc <;> assumption) | (apply qb_cc <;> assumption) | (apply ql_cc <;> assumption)))) | (apply qe_cc <;> assumption) | (apply qh_cc <;> assumption) | (apply qk_cc <;> assumption) | (apply qd_cc <;> assumption) | (apply qm_cc <;> assumption) | (apply qi_cc <;> assumption) | (apply qa_cc <;> assumption) | (apply qf_cc <;> assumption) | (apply qb_cc <;> assumption) | (apply ql_cc <;> assumption)) ?_
  rfl
noncomputable def qq_S : List Arg → Option (Bool × Res) := fun xs => match xs with
  | [(false, [(.slice 2, TC.l A)]), (false, [(.slice 2, TC.l C)])] => some ((qq_c A C), qq_mk (qq_v A C))
  | _ => .none
theorem qq_e (A C : LL) : runF tab FT D31 live 15 qq_lo [(false, [(.slice 2, TC.l A)]), (false, [(.slice 2, TC.l C)])] = (qq_t A C).run fun p => some (qq_mk p) := by kernel_rfl
theorem qq_s : ∀ xs r, qq_S xs = some (true, r) → runF tab FT D31 live 15 qq_lo xs = some r := by
  intro xs r h
  unfold qq_S at h
  split at h
  · simp only [Option.some.injEq, Prod.mk.injEq] at h
    obtain ⟨h1, rfl⟩ := h
    exact fun_told (qq_e _ _) (qq_l _ _) h1
  · cases h
noncomputable def D32 : Dt := also D31 15 qq_S
theorem d32 : DOk Go.Proofs.Try.prog tab D32 := d31.also mixed_ok tab_ok names_ok (fnLoops_one (by kernel_rfl) qq_is4) qq_s
noncomputable def mkR_2 (k : Int) : List TC := [TC.i k]
theorem mkR_2_len (k : Int) : (mkR_2 k).length = 1 := rfl
noncomputable def mkL_2 (k : Int) (n : Nat) : LL := madeL (fun i => mkR_2 (k + 1 * (i : Int))) n
theorem mkL_2_length {k : Int} {n : Nat} : (mkL_2 k n).length = n := madeL_length
abbrev qo_2_σ := Int × Int × LL
abbrev qo_2_ω := (Int × LL)
noncomputable def qo_2_step (k i : Int) (A : LL) : Tr (qo_2_σ ⊕ qo_2_ω) := (.ite ((decide (i < (A.length : Int))) = true) (.ite ((0 : Int) ≤ i ∧ i < (A.length : Int)) (.ok (.inl ((IntKind.wrap .i64 (k + (1 : Int))), (IntKind.wrap .i64 (i + (1 : Int))), (A.set (i).toNat (splice (row A i) 0 [TC.i k])))))
   .no)
  (.ok (.inr (k, A))))
noncomputable def qo_2_st : qo_2_σ → Tr (qo_2_σ ⊕ qo_2_ω) := fun x => (qo_2_step (x.1) (x.2.1) (x.2.2))
noncomputable def qo_o2_1 (k i : Int) (A : LL) : Bool := is ((∀ x, x ∈ A → x.length = 1) ∧ A.length ≤ 140737488351232 ∧ 0 ≤ k ∧ k ≤ 2305843009213693952 ∧ i = 0)
noncomputable def qo_u2_1_0 (k i : Int) (A : LL) : Int := k + 1 * (A.length : Int)
noncomputable def qo_u2_1_1 (k i : Int) (A : LL) : LL := mkL_2 k A.length
noncomputable def qo_2_fin (k i : Int) (A : LL) : Told qo_2_ω := (.leaf (qo_o2_1 k i A) ((qo_u2_1_0 k i A), (qo_u2_1_1 k i A)))
def qo_2_sl (x : qo_2_σ) : List Slot := [⟨.gal false 0 1, ⟨0, 0⟩⟩, ⟨.val false [⟨.int .i64, .sh, TC.i (x.1)⟩], ⟨0, 0⟩⟩, ⟨.val false [⟨.int .i64, .sh, TC.i (x.2.1)⟩], ⟨0, 0⟩⟩, ⟨.gv [⟨.slice 2, .own true, TC.l (x.2.2)⟩], ⟨0, 0⟩⟩]
def qo_2_out : qo_2_ω → Ex × List Slot := (fun x => (.exit 0, [⟨.val false [⟨.int .i64, .sh, TC.i (x.1)⟩], ⟨0, 0⟩⟩, Slot.none, ⟨.gv [⟨.slice 2, .own true, TC.l (x.2)⟩], ⟨0, 0⟩⟩]))
noncomputable def qo_lo2 : List Slot → Option (Told (Ex × List Slot)) := fun s => match s with
  | [⟨.gal false 0 1, ⟨0, 0⟩⟩, ⟨.val false [⟨.int .i64, .sh, TC.i k⟩], ⟨0, 0⟩⟩, ⟨.val false [⟨.int .i64, .sh, TC.i i⟩], ⟨0, 0⟩⟩, ⟨.gv [⟨.slice 2, .own true, TC.l A⟩], ⟨0, 0⟩⟩] => some (((qo_2_fin k i A)).map qo_2_out)
  | _ => .none
noncomputable def qo_lo : LoopTeller := fun r s => bif Nat.beq r 2 then qo_lo2 s else .none
theorem qo_2_r (k i : Int) (A : LL) (fuel : Nat) : rounds (rnd tab FT D32 live 16 qo_lo 0 2) leave (fuel + 1) (qo_2_sl (k, i, A)) = ((qo_2_step k i A)).run (goOn (fun s => rounds (rnd tab FT D32 live 16 qo_lo 0 2) leave fuel (qo_2_sl s)) fun w => some (qo_2_out w)) := by kernel_rfl
theorem qo_2_h (k i : Int) (A : LL) (ow : qo_2_ω) : ((qo_2_fin k i A)).val = some ow → ∃ fuel, loopN qo_2_st fuel (k, i, A) = some ow := by
  intro h
  refine auto_leaf (R := (k + 1 * (A.length : Int), mkL_2 k A.length)) (fun ho => ?_) h
  obtain ⟨hr, hl, h0, h1, rfl⟩ := is_iff.1 ho
  have key := loopN_over (step := qo_2_st) A 1 (fun i => mkR_2 (k + 1 * (i : Int))) (fun Y i => (k + 1 * (i : Int), (i : Int), Y)) (k + 1 * (A.length : Int), mkL_2 k A.length) hr (fun _ => rfl) (fun Y i hi hY hy => ?_) ?_ A.length 0 (by omega)
  · exact ⟨A.length + 1, Eq.trans (congrArg (loopN qo_2_st (A.length + 1)) (by simp [madeL])) key⟩
  · obtain ⟨kk, hkk⟩ : ∃ kk : Int, kk = k + 1 * (i : Int) := ⟨_, rfl⟩
    have hk0 : 0 ≤ kk := by omega
    have hk1 : kk + 1 ≤ 4611686018427387904 := by omega
    have hy : ∃ y0, row Y (i : Int) = [y0] := len_1 hy
    obtain ⟨y0, hy⟩ := hy
    have hiY : i < Y.length := by omega
    show (qo_2_step (k + 1 * (i : Int)) (i : Int) Y).val = _
    rw [← hkk]
    unfold qo_2_step
    rw [wrap64 (i := kk + 1) (by omega) (by omega)]
    try rw [wrap64 (i := kk) (by omega) (by omega)]
    refine Tr.t (by simp; omega) ?_
    refine Tr.t (by constructor <;> (try simp only [List.length_set]) <;> omega) ?_
    rw [Tr.val_ok, wrap64 (i := (i : Int) + 1) (by omega) (by omega)]
    simp only [Int.toNat_natCast, hy, row_set, List.length_set, hiY, List.set_set]
    show some (Sum.inl (_, _, _)) = some (Sum.inl (_, _, _))
    rw [show k + 1 * ((i + 1 : Nat) : Int) = kk + 1 from by omega]
    rfl
  · show (qo_2_step (k + 1 * (A.length : Int)) (A.length : Int) (mkL_2 k A.length)).val = _
    unfold qo_2_step
    refine Tr.n (by simp [mkL_2_length]) ?_
    rfl
theorem qo_is2 : LoopIs tab FT D32 live 16 qo_lo 0 2 := by
  refine loop_told (sl := qo_2_sl) (step := qo_2_st) (out := qo_2_out) (lor := qo_lo2) (fin := fun x => (qo_2_fin (x.1) (x.2.1) (x.2.2))) (fun _ => rfl) ?_ (fun x n => qo_2_r x.1 x.2.1 x.2.2 n) (fun x ow => qo_2_h x.1 x.2.1 x.2.2 ow)
  intro s t h
  unfold qo_lo2 at h
  split at h
  · cases h; exact ⟨(_, _, _), rfl, rfl⟩
  · cases h
noncomputable def qo_t (A : LL) (k : Int) : Tr (LL × Int) := (.ite ((qo_o2_1 k (0 : Int) A) = true) (.ok ((qo_u2_1_1 k (0 : Int) A), (qo_u2_1_0 k (0 : Int) A)))
  .no)
def qo_mk (p : LL × Int) : Res := [(true, [⟨.slice 2, .own true, TC.l (p.1)⟩]), (false, [⟨.int .i64, .sh, TC.i (p.2)⟩])]
noncomputable def qo_c (A : LL) (k : Int) : Bool := is ((∀ x, x ∈ A → x.length = 1) ∧ A.length ≤ 140737488351232 ∧ 0 ≤ k ∧ k ≤ 2305843009213693952)
noncomputable def qo_v (A : LL) (k : Int) : LL × Int := (mkL_2 k A.length, k + 1 * (A.length : Int))
theorem qo_l (A : LL) (k : Int) : (qo_c A k) = true → (qo_t A k).val = some (qo_v A k) := by
  intro h
  obtain ⟨hr, hl, h0, h1⟩ := is_iff.1 h
  unfold qo_t
  exact Tr.t (is_true ⟨hr, hl, h0, h1, rfl⟩) rfl
noncomputable def qo_S : List Arg → Option (Bool × Res) := fun xs => match xs with
  | [(false, [(.slice 2, TC.l A)]), (false, [(.int .i64, TC.i k)])] => some ((qo_c A k), qo_mk (qo_v A k))
  | _ => .none
theorem qo_e (A : LL) (k : Int) : runFW false tab FT D32 live 16 qo_lo (false, [(.slice 2, TC.l A)]) [(false, [(.int .i64, TC.i k)])] = (qo_t A k).run fun p => some (qo_mk p) := by kernel_rfl
theorem qo_s0 : ∀ ys r, qo_S ys = some (true, r) → ∀ a0 xs, ys = a0 :: xs → runFW false tab FT D32 live 16 qo_lo a0 xs = some r := by
  intro ys r h
  unfold qo_S at h
  split at h
  · simp only [Option.some.injEq, Prod.mk.injEq] at h
    obtain ⟨h1, rfl⟩ := h
    intro a0 xs e
    cases e
    exact fun_toldW (qo_e _ _) (qo_l _ _) h1
  · cases h
theorem qo_s : ∀ a0 xs r, qo_S (a0 :: xs) = some (true, r) → runFW false tab FT D32 live 16 qo_lo a0 xs = some r := fun a0 xs r h => qo_s0 _ r h a0 xs rfl
noncomputable def D33 : Dt := alsoW D32 16 qo_S
theorem d33 : DOk Go.Proofs.Try.prog tab D33 := d32.alsoW mixed_ok tab_ok names_ok (fnLoops_one (by kernel_rfl) qo_is2) qo_s
theorem qo_cc {A : LL} {k : Int} (ht : Typed tab (.slice 2) (.l A)) (hl : A.length ≤ 140737488351232) (h0 : 0 ≤ k) (h1 : k ≤ 2305843009213693952) : qo_c A k = true := is_true ⟨typed_rows ht rfl, hl, h0, h1⟩
theorem qo_v2 {A : LL} {k : Int} : (qo_v A k).2 = k + 1 * (A.length : Int) := rfl
abbrev qp_2_σ := LL × Int × Int
abbrev qp_2_ω := (Int) ⊕ (Int)
noncomputable def qp_2_step (A : LL) (k i : Int) : Tr (qp_2_σ ⊕ qp_2_ω) := (.ite ((decide (i < (A.length : Int))) = true) (.ite ((0 : Int) ≤ i ∧ i < (A.length : Int)) (.ite ((!((nth (row A i) 0).int == k)) = true) (.ok (.inr (.inl k)))
    (.ok (.inl (A, (IntKind.wrap .i64 (k + (1 : Int))), (IntKind.wrap .i64 (i + (1 : Int)))))))
   .no)
  (.ok (.inr (.inr k))))
noncomputable def qp_2_st : qp_2_σ → Tr (qp_2_σ ⊕ qp_2_ω) := fun x => (qp_2_step (x.1) (x.2.1) (x.2.2))
noncomputable def qp_o2_1 (A : LL) (k i : Int) : Bool := is (A = mkL_2 k A.length ∧ A.length ≤ 140737488351232 ∧ 0 ≤ k ∧ k ≤ 2305843009213693952 ∧ i = 0)
noncomputable def qp_u2_1 (A : LL) (k i : Int) : Int := k + 1 * (A.length : Int)
noncomputable def qp_2_fin (A : LL) (k i : Int) : Told qp_2_ω := (.leaf (qp_o2_1 A k i) (.inr (qp_u2_1 A k i)))
def qp_2_sl (x : qp_2_σ) : List Slot := [⟨.val false [⟨.slice 2, .sh, TC.l (x.1)⟩], ⟨0, 0⟩⟩, ⟨.val false [⟨.int .i64, .sh, TC.i (x.2.1)⟩], ⟨0, 0⟩⟩, ⟨.val false [⟨.int .i64, .sh, TC.i (x.2.2)⟩], ⟨0, 0⟩⟩]
def qp_2_out : qp_2_ω → Ex × List Slot := (Sum.elim (fun x => (.ret, [⟨.val false [⟨.int .i64, .sh, TC.i x⟩], ⟨0, 0⟩⟩, ⟨.val false [⟨.int .i64, .sh, TC.i (-1 : Int)⟩], ⟨0, 0⟩⟩])) (fun x => (.exit 0, [⟨.val false [⟨.int .i64, .sh, TC.i x⟩], ⟨0, 0⟩⟩, Slot.none])))
noncomputable def qp_lo2 : List Slot → Option (Told (Ex × List Slot)) := fun s => match s with
  | [⟨.val false [⟨.slice 2, .sh, TC.l A⟩], ⟨0, 0⟩⟩, ⟨.val false [⟨.int .i64, .sh, TC.i k⟩], ⟨0, 0⟩⟩, ⟨.val false [⟨.int .i64, .sh, TC.i i⟩], ⟨0, 0⟩⟩] => some (((qp_2_fin A k i)).map qp_2_out)
  | _ => .none
noncomputable def qp_lo : LoopTeller := fun r s => bif Nat.beq r 2 then qp_lo2 s else .none
theorem qp_2_r (A : LL) (k i : Int) (fuel : Nat) : rounds (rnd tab FT D33 live 17 qp_lo 0 2) leave (fuel + 1) (qp_2_sl (A, k, i)) = ((qp_2_step A k i)).run (goOn (fun s => rounds (rnd tab FT D33 live 17 qp_lo 0 2) leave fuel (qp_2_sl s)) fun w => some (qp_2_out w)) := by kernel_rfl
theorem qp_2_h (A : LL) (k i : Int) (ow : qp_2_ω) : ((qp_2_fin A k i)).val = some ow → ∃ fuel, loopN qp_2_st fuel (A, k, i) = some ow := by
  intro h
  refine auto_leaf (R := Sum.inr (k + 1 * (A.length : Int))) (fun ho => ?_) h
  obtain ⟨hA, hl, h0, h1, rfl⟩ := is_iff.1 ho
  have key := loopN_run (step := qp_2_st) (N := A.length) (w := Sum.inr (k + 1 * (A.length : Int))) (fun i => (A, k + 1 * (i : Int), (i : Int))) (fun i hi => ?_) ?_ A.length 0 (by omega)
  · exact ⟨A.length + 1, Eq.trans (congrArg (loopN qp_2_st (A.length + 1)) (by simp)) key⟩
  · obtain ⟨kk, hkk⟩ : ∃ kk : Int, kk = k + 1 * (i : Int) := ⟨_, rfl⟩
    have hk0 : 0 ≤ kk := by omega
    have hk1 : kk + 1 ≤ 4611686018427387904 := by omega
    have hrow : row A (i : Int) = mkR_2 kk := by
      rw [hA]
      unfold mkL_2
      rw [row_madeL hi, hkk]
    show (qp_2_step A (k + 1 * (i : Int)) (i : Int)).val = _
    rw [← hkk]
    unfold qp_2_step
    rw [hrow]
    rw [wrap64 (i := kk + 1) (by omega) (by omega)]
    try rw [wrap64 (i := kk) (by omega) (by omega)]
    refine Tr.t (by simp; omega) ?_
    refine Tr.t (by constructor <;> omega) ?_
    refine Tr.n (by simp [nth, mkR_2, TC.str, TC.int, TC.bool]) ?_
    rw [Tr.val_ok, wrap64 (i := (i : Int) + 1) (by omega) (by omega)]
    show some (Sum.inl (_, _, _)) = some (Sum.inl (_, _, _))
    rw [show k + 1 * ((i + 1 : Nat) : Int) = kk + 1 from by omega]
    rfl
  · show (qp_2_step A (k + 1 * (A.length : Int)) (A.length : Int)).val = _
    unfold qp_2_step
    refine Tr.n (by simp) ?_
    rfl
theorem qp_is2 : LoopIs tab FT D33 live 17 qp_lo 0 2 := by
  refine loop_told (sl := qp_2_sl) (step := qp_2_st) (out := qp_2_out) (lor := qp_lo2) (fin := fun x => (qp_2_fin (x.1) (x.2.1) (x.2.2))) (fun _ => rfl) ?_ (fun x n => qp_2_r x.1 x.2.1 x.2.2 n) (fun x ow => qp_2_h x.1 x.2.1 x.2.2 ow)
  intro s t h
  unfold qp_lo2 at h
  split at h
  · cases h; exact ⟨(_, _, _), rfl, rfl⟩
  · cases h
noncomputable def qp_t (A : LL) (k : Int) : Tr (Int) := (.ite ((qp_o2_1 A k (0 : Int)) = true) (.ok (qp_u2_1 A k (0 : Int)))
  .no)
def qp_mk (p : Int) : Res := [(false, [⟨.int .i64, .sh, TC.i p⟩])]
noncomputable def qp_c (A : LL) (k : Int) : Bool := is (A = mkL_2 k A.length ∧ A.length ≤ 140737488351232 ∧ 0 ≤ k ∧ k ≤ 2305843009213693952)
noncomputable def qp_v (A : LL) (k : Int) : Int := k + 1 * (A.length : Int)
theorem qp_l (A : LL) (k : Int) : (qp_c A k) = true → (qp_t A k).val = some (qp_v A k) := by
  intro h
  obtain ⟨hr, hl, h0, h1⟩ := is_iff.1 h
  unfold qp_t
  exact Tr.t (is_true ⟨hr, hl, h0, h1, rfl⟩) rfl
noncomputable def qp_S : List Arg → Option (Bool × Res) := fun xs => match xs with
  | [(false, [(.slice 2, TC.l A)]), (false, [(.int .i64, TC.i k)])] => some ((qp_c A k), qp_mk (qp_v A k))
  | _ => .none
theorem qp_e (A : LL) (k : Int) : runF tab FT D33 live 17 qp_lo [(false, [(.slice 2, TC.l A)]), (false, [(.int .i64, TC.i k)])] = (qp_t A k).run fun p => some (qp_mk p) := by kernel_rfl
theorem qp_s : ∀ xs r, qp_S xs = some (true, r) → runF tab FT D33 live 17 qp_lo xs = some r := by
  intro xs r h
  unfold qp_S at h
  split at h
  · simp only [Option.some.injEq, Prod.mk.injEq] at h
    obtain ⟨h1, rfl⟩ := h
    exact fun_told (qp_e _ _) (qp_l _ _) h1
  · cases h
noncomputable def D34 : Dt := also D33 17 qp_S
theorem d34 : DOk Go.Proofs.Try.prog tab D34 := d33.also mixed_ok tab_ok names_ok (fnLoops_one (by kernel_rfl) qp_is2) qp_s
theorem qp_cc {A : LL} {k : Int} (hl : A.length ≤ 140737488351232) (h0 : 0 ≤ k) (h1 : k ≤ 2305843009213693952) : qp_c (qo_v A k).1 k = true := is_true ⟨by show mkL_2 k A.length = mkL_2 k (mkL_2 k A.length).length; rw [mkL_2_length], by show (mkL_2 k A.length).length ≤ _; rw [mkL_2_length]; exact hl, h0, h1⟩
theorem qp_vm {A : LL} {k : Int} : qp_v (qo_v A k).1 k = (qo_v A k).2 := by
  show k + 1 * ((mkL_2 k A.length).length : Int) = k + 1 * (A.length : Int)
  rw [mkL_2_length]
noncomputable def laws_FnExactChunksLost_t (x0 x1 x2 : LL) : Tr Bool := (.ite ((decide ((x0.length : Int) > (1048576 : Int))) = true) (.ok true)
  (.ite ((decide ((x1.length : Int) > (1048576 : Int))) = true) (.ok true)
   (.ite ((decide ((x2.length : Int) > (1048576 : Int))) = true) (.ok true)
    (.ite ((qj_c x0) = true) (.ite ((qj_c x1) = true) (.ite ((qj_c x2) = true) (.ite ((qd_c (qj_v x0) (qj_v x1) (qj_v x2)) = true) (.ite ((qj_c x0) = true) (.ite ((qj_c x1) = true) (.ite ((qj_c x2) = true) (.ite ((ql_c (qj_v x0) (qj_v x1) (qj_v x2)) = true) (.ite ((qq_c (ql_v (qj_v x0) (qj_v x1) (qj_v x2)) (qd_v (qj_v x0) (qj_v x1) (qj_v x2))) = true) (.ite ((!(qq_v (ql_v (qj_v x0) (qj_v x1) (qj_v x2)) (qd_v (qj_v x0) (qj_v x1) (qj_v x2)))) = true) (.ok false)
              (.ite ((qj_c x0) = true) (.ite ((qq_c (qj_v x0) (qj_v x0)) = true) (.ite ((!(qq_v (qj_v x0) (qj_v x0))) = true) (.ok false)
                 (.ite ((qj_c x1) = true) (.ite ((qq_c (qj_v x1) (qj_v x1)) = true) (.ite ((!(qq_v (qj_v x1) (qj_v x1))) = true) (.ok false)
                    (.ite ((qj_c x2) = true) (.ite ((qq_c (qj_v x2) (qj_v x2)) = true) (.ite ((!(qq_v (qj_v x2) (qj_v x2))) = true) (.ok false)
                       (.ite ((qo_c (qj_v x0) (1 : Int)) = true) (.ite ((qo_c (qj_v x1) ((qo_v (qj_v x0) (1 : Int)).2)) = true) (.ite ((qo_c (qj_v x2) ((qo_v (qj_v x1) ((qo_v (qj_v x0) (1 : Int)).2)).2)) = true) (.ite ((decide ((qo_v (qj_v x2) ((qo_v (qj_v x1) ((qo_v (qj_v x0) (1 : Int)).2)).2)).2 < (0 : Int))) = true) (.ok false)
                           (.ite ((qq_c (ql_v (qj_v x0) (qj_v x1) (qj_v x2)) (qd_v (qj_v x0) (qj_v x1) (qj_v x2))) = true) (.ite ((!(qq_v (ql_v (qj_v x0) (qj_v x1) (qj_v x2)) (qd_v (qj_v x0) (qj_v x1) (qj_v x2)))) = true) (.ok false)
                             (.ite ((qo_c (ql_v (qj_v x0) (qj_v x1) (qj_v x2)) (1 : Int)) = true) (.ite ((qp_c ((qo_v (ql_v (qj_v x0) (qj_v x1) (qj_v x2)) (1 : Int)).1) (1 : Int)) = true) (.ite ((decide ((qp_v ((qo_v (ql_v (qj_v x0) (qj_v x1) (qj_v x2)) (1 : Int)).1) (1 : Int)) < (0 : Int))) = true) (.ok false)
                                (.ite ((!((qp_v ((qo_v (ql_v (qj_v x0) (qj_v x1) (qj_v x2)) (1 : Int)).1) (1 : Int)) == (qo_v (ql_v (qj_v x0) (qj_v x1) (qj_v x2)) (1 : Int)).2)) = true) (.ok false)
                                 (.ite ((qj_c x0) = true) (.ite ((qj_c x1) = true) (.ite ((qj_c x2) = true) (.ite ((ql_c (qj_v x0) (qj_v x1) (qj_v x2)) = true) (.ite ((qq_c (ql_v (qj_v x0) (qj_v x1) (qj_v x2)) (qd_v (qj_v x0) (qj_v x1) (qj_v x2))) = true) (.ite ((!(qq_v (ql_v (qj_v x0) (qj_v x1) (qj_v x2)) (qd_v (qj_v x0) (qj_v x1) (qj_v x2)))) = true) (.ok false)
                                       (.ite ((qp_c ((qo_v (ql_v (qj_v x0) (qj_v x1) (qj_v x2)) (1 : Int)).1) (1 : Int)) = true) (.ite ((decide ((qp_v ((qo_v (ql_v (qj_v x0) (qj_v x1) (qj_v x2)) (1 : Int)).1) (1 : Int)) < (0 : Int))) = true) (.ok false)
                                         (.ite ((!((qp_v ((qo_v (ql_v (qj_v x0) (qj_v x1) (qj_v x2)) (1 : Int)).1) (1 : Int)) == (qo_v (ql_v (qj_v x0) (qj_v x1) (qj_v x2)) (1 : Int)).2)) = true) (.ok false)
                                          (.ok true)))
                                        .no))
                                      .no)
                                     .no)
                                    .no)
                                   .no)
                                  .no)))
                               .no)
                              .no))
                            .no))
                          .no)
                         .no)
                        .no))
                      .no)
                     .no))
                   .no)
                  .no))
                .no)
               .no))
             .no)
            .no)
           .no)
          .no)
         .no)
        .no)
       .no)
      .no)
     .no))))
noncomputable def laws_FnExactChunksLost_go (ops : List Oper) (σ : St) : St := (runOps tab 108 D34 ops ops σ [] (fun σ' _ => some σ')).getD σ
noncomputable def laws_FnExactChunksLost_K (e : Ex) (σ : St) : Option Res := match e with | .exit _ => .none | _ => resultsOf tab σ [.tmp 6]
noncomputable def laws_FnExactChunksLost_q0 : Code := match bodyOf FT 4 with | .seq _ c => c | _ => .skip
noncomputable def laws_FnExactChunksLost_o0 : List Oper := match bodyOf FT 4 with | .seq (.region _ ops _) _ => ops.toList | _ => []
noncomputable def laws_FnExactChunksLost_z0 (x0 x1 x2 : LL) : St := laws_FnExactChunksLost_go laws_FnExactChunksLost_o0 (argsSt [(false, [(.slice 2, TC.l x0)]), (false, [(.slice 2, TC.l x1)]), (false, [(.slice 2, TC.l x2)])])
theorem laws_FnExactChunksLost_w0 (x0 x1 x2 : LL) : runF tab FT D34 live 4 noLoops [(false, [(.slice 2, TC.l x0)]), (false, [(.slice 2, TC.l x1)]), (false, [(.slice 2, TC.l x2)])] = runT tab 108 D34 (live 4) noLoops laws_FnExactChunksLost_q0 (laws_FnExactChunksLost_z0 x0 x1 x2) laws_FnExactChunksLost_K := by kernel_rfl
noncomputable def laws_FnExactChunksLost_q1 : Code := match laws_FnExactChunksLost_q0 with | .seq _ c => c | _ => .skip
noncomputable def laws_FnExactChunksLost_i1 : Nat := match laws_FnExactChunksLost_q0 with | .seq (.seq (.region i _ _) _) _ => i | _ => 0
noncomputable def laws_FnExactChunksLost_O1 : Array Oper := match laws_FnExactChunksLost_q0 with | .seq (.seq (.region _ ops _) _) _ => ops | _ => #[]
noncomputable def laws_FnExactChunksLost_o1 : List Oper := laws_FnExactChunksLost_O1.toList
noncomputable def laws_FnExactChunksLost_p1 : Operand := match laws_FnExactChunksLost_q0 with | .seq (.seq _ (.cond c _ _)) _ => c | _ => .const (.bool false)
noncomputable def laws_FnExactChunksLost_z1 (x0 x1 x2 : LL) : St := substC (laws_FnExactChunksLost_go laws_FnExactChunksLost_o1 (laws_FnExactChunksLost_z0 x0 x1 x2)) laws_FnExactChunksLost_p1 false
noncomputable def laws_FnExactChunksLost_a1 : Code := match laws_FnExactChunksLost_q0 with | .seq (.seq _ (.cond _ a _)) _ => a | _ => .skip
theorem laws_FnExactChunksLost_r1 (x0 x1 x2 : LL) (F : St → Option Res) : runRegion tab 108 D34 laws_FnExactChunksLost_o1 false (laws_FnExactChunksLost_z0 x0 x1 x2) F = F (laws_FnExactChunksLost_go laws_FnExactChunksLost_o1 (laws_FnExactChunksLost_z0 x0 x1 x2)) := by kernel_rfl
theorem laws_FnExactChunksLost_c1 (x0 x1 x2 : LL) : condOf (laws_FnExactChunksLost_go laws_FnExactChunksLost_o1 (laws_FnExactChunksLost_z0 x0 x1 x2)) laws_FnExactChunksLost_p1 = some ((decide ((x0.length : Int) > (1048576 : Int)))) := by kernel_rfl
theorem laws_FnExactChunksLost_x1 (x0 x1 x2 : LL) : runT tab 108 D34 (live 4) noLoops laws_FnExactChunksLost_a1 (substC (laws_FnExactChunksLost_go laws_FnExactChunksLost_o1 (laws_FnExactChunksLost_z0 x0 x1 x2)) laws_FnExactChunksLost_p1 true) (fun e σ' => match e with | .normal => runT tab 108 D34 (live 4) noLoops laws_FnExactChunksLost_q1 σ' laws_FnExactChunksLost_K | e => laws_FnExactChunksLost_K e σ') = some [(false, [⟨.bool, .sh, .b true⟩])] := by kernel_rfl
theorem laws_FnExactChunksLost_w1 (x0 x1 x2 : LL) : runT tab 108 D34 (live 4) noLoops laws_FnExactChunksLost_q0 (laws_FnExactChunksLost_z0 x0 x1 x2) laws_FnExactChunksLost_K = (if (decide ((x0.length : Int) > (1048576 : Int))) = true then some [(false, [⟨.bool, .sh, .b true⟩])] else runT tab 108 D34 (live 4) noLoops laws_FnExactChunksLost_q1 (laws_FnExactChunksLost_z1 x0 x1 x2) laws_FnExactChunksLost_K) :=
  cut_early (q := laws_FnExactChunksLost_q0) (q1 := laws_FnExactChunksLost_q1) (a := laws_FnExactChunksLost_a1) (i := laws_FnExactChunksLost_i1) (ops := laws_FnExactChunksLost_O1) (c := laws_FnExactChunksLost_p1) (d := false) (by kernel_rfl) (laws_FnExactChunksLost_r1 x0 x1 x2) (laws_FnExactChunksLost_c1 x0 x1 x2) (laws_FnExactChunksLost_x1 x0 x1 x2)
noncomputable def laws_FnExactChunksLost_q2 : Code := match laws_FnExactChunksLost_q1 with | .seq _ c => c | _ => .skip
noncomputable def laws_FnExactChunksLost_i2 : Nat := match laws_FnExactChunksLost_q1 with | .seq (.seq (.region i _ _) _) _ => i | _ => 0
noncomputable def laws_FnExactChunksLost_O2 : Array Oper := match laws_FnExactChunksLost_q1 with | .seq (.seq (.region _ ops _) _) _ => ops | _ => #[]
noncomputable def laws_FnExactChunksLost_o2 : List Oper := laws_FnExactChunksLost_O2.toList
noncomputable def laws_FnExactChunksLost_p2 : Operand := match laws_FnExactChunksLost_q1 with | .seq (.seq _ (.cond c _ _)) _ => c | _ => .const (.bool false)
noncomputable def laws_FnExactChunksLost_z2 (x0 x1 x2 : LL) : St := substC (laws_FnExactChunksLost_go laws_FnExactChunksLost_o2 (laws_FnExactChunksLost_z1 x0 x1 x2)) laws_FnExactChunksLost_p2 false
noncomputable def laws_FnExactChunksLost_a2 : Code := match laws_FnExactChunksLost_q1 with | .seq (.seq _ (.cond _ a _)) _ => a | _ => .skip
theorem laws_FnExactChunksLost_r2 (x0 x1 x2 : LL) (F : St → Option Res) : runRegion tab 108 D34 laws_FnExactChunksLost_o2 false (laws_FnExactChunksLost_z1 x0 x1 x2) F = F (laws_FnExactChunksLost_go laws_FnExactChunksLost_o2 (laws_FnExactChunksLost_z1 x0 x1 x2)) := by kernel_rfl
theorem laws_FnExactChunksLost_c2 (x0 x1 x2 : LL) : condOf (laws_FnExactChunksLost_go laws_FnExactChunksLost_o2 (laws_FnExactChunksLost_z1 x0 x1 x2)) laws_FnExactChunksLost_p2 = some ((decide ((x1.length : Int) > (1048576 : Int)))) := by kernel_rfl
theorem laws_FnExactChunksLost_x2 (x0 x1 x2 : LL) : runT tab 108 D34 (live 4) noLoops laws_FnExactChunksLost_a2 (substC (laws_FnExactChunksLost_go laws_FnExactChunksLost_o2 (laws_FnExactChunksLost_z1 x0 x1 x2)) laws_FnExactChunksLost_p2 true) (fun e σ' => match e with | .normal => runT tab 108 D34 (live 4) noLoops laws_FnExactChunksLost_q2 σ' laws_FnExactChunksLost_K | e => laws_FnExactChunksLost_K e σ') = some [(false, [⟨.bool, .sh, .b true⟩])] := by kernel_rfl
theorem laws_FnExactChunksLost_w2 (x0 x1 x2 : LL) : runT tab 108 D34 (live 4) noLoops laws_FnExactChunksLost_q1 (laws_FnExactChunksLost_z1 x0 x1 x2) laws_FnExactChunksLost_K = (if (decide ((x1.length : Int) > (1048576 : Int))) = true then some [(false, [⟨.bool, .sh, .b true⟩])] else runT tab 108 D34 (live 4) noLoops laws_FnExactChunksLost_q2 (laws_FnExactChunksLost_z2 x0 x1 x2) laws_FnExactChunksLost_K) :=
  cut_early (q := laws_FnExactChunksLost_q1) (q1 := laws_FnExactChunksLost_q2) (a := laws_FnExactChunksLost_a2) (i := laws_FnExactChunksLost_i2) (ops := laws_FnExactChunksLost_O2) (c := laws_FnExactChunksLost_p2) (d := false) (by kernel_rfl) (laws_FnExactChunksLost_r2 x0 x1 x2) (laws_FnExactChunksLost_c2 x0 x1 x2) (laws_FnExactChunksLost_x2 x0 x1 x2)
noncomputable def laws_FnExactChunksLost_q3 : Code := match laws_FnExactChunksLost_q2 with | .seq _ c => c | _ => .skip
noncomputable def laws_FnExactChunksLost_i3 : Nat := match laws_FnExactChunksLost_q2 with | .seq (.seq (.region i _ _) _) _ => i | _ => 0
noncomputable def laws_FnExactChunksLost_O3 : Array Oper := match laws_FnExactChunksLost_q2 with | .seq (.seq (.region _ ops _) _) _ => ops | _ => #[]
noncomputable def laws_FnExactChunksLost_o3 : List Oper := laws_FnExactChunksLost_O3.toList
noncomputable def laws_FnExactChunksLost_p3 : Operand := match laws_FnExactChunksLost_q2 with | .seq (.seq _ (.cond c _ _)) _ => c | _ => .const (.bool false)
noncomputable def laws_FnExactChunksLost_z3 (x0 x1 x2 : LL) : St := substC (laws_FnExactChunksLost_go laws_FnExactChunksLost_o3 (laws_FnExactChunksLost_z2 x0 x1 x2)) laws_FnExactChunksLost_p3 false
noncomputable def laws_FnExactChunksLost_a3 : Code := match laws_FnExactChunksLost_q2 with | .seq (.seq _ (.cond _ a _)) _ => a | _ => .skip
theorem laws_FnExactChunksLost_r3 (x0 x1 x2 : LL) (F : St → Option Res) : runRegion tab 108 D34 laws_FnExactChunksLost_o3 false (laws_FnExactChunksLost_z2 x0 x1 x2) F = F (laws_FnExactChunksLost_go laws_FnExactChunksLost_o3 (laws_FnExactChunksLost_z2 x0 x1 x2)) := by kernel_rfl
theorem laws_FnExactChunksLost_c3 (x0 x1 x2 : LL) : condOf (laws_FnExactChunksLost_go laws_FnExactChunksLost_o3 (laws_FnExactChunksLost_z2 x0 x1 x2)) laws_FnExactChunksLost_p3 = some ((decide ((x2.length : Int) > (1048576 : Int)))) := by kernel_rfl
theorem laws_FnExactChunksLost_x3 (x0 x1 x2 : LL) : runT tab 108 D34 (live 4) noLoops laws_FnExactChunksLost_a3 (substC (laws_FnExactChunksLost_go laws_FnExactChunksLost_o3 (laws_FnExactChunksLost_z2 x0 x1 x2)) laws_FnExactChunksLost_p3 true) (fun e σ' => match e with | .normal => runT tab 108 D34 (live 4) noLoops laws_FnExactChunksLost_q3 σ' laws_FnExactChunksLost_K | e => laws_FnExactChunksLost_K e σ') = some [(false, [⟨.bool, .sh, .b true⟩])] := by kernel_rfl
theorem laws_FnExactChunksLost_w3 (x0 x1 x2 : LL) : runT tab 108 D34 (live 4) noLoops laws_FnExactChunksLost_q2 (laws_FnExactChunksLost_z2 x0 x1 x2) laws_FnExactChunksLost_K = (if (decide ((x2.length : Int) > (1048576 : Int))) = true then some [(false, [⟨.bool, .sh, .b true⟩])] else runT tab 108 D34 (live 4) noLoops laws_FnExactChunksLost_q3 (laws_FnExactChunksLost_z3 x0 x1 x2) laws_FnExactChunksLost_K) :=
  cut_early (q := laws_FnExactChunksLost_q2) (q1 := laws_FnExactChunksLost_q3) (a := laws_FnExactChunksLost_a3) (i := laws_FnExactChunksLost_i3) (ops := laws_FnExactChunksLost_O3) (c := laws_FnExactChunksLost_p3) (d := false) (by kernel_rfl) (laws_FnExactChunksLost_r3 x0 x1 x2) (laws_FnExactChunksLost_c3 x0 x1 x2) (laws_FnExactChunksLost_x3 x0 x1 x2)
noncomputable def laws_FnExactChunksLost_t2 (x0 x1 x2 : LL) : Tr Bool := (.ite ((qj_c x0) = true) (.ite ((qj_c x1) = true) (.ite ((qj_c x2) = true) (.ite ((qd_c (qj_v x0) (qj_v x1) (qj_v x2)) = true) (.ite ((qj_c x0) = true) (.ite ((qj_c x1) = true) (.ite ((qj_c x2) = true) (.ite ((ql_c (qj_v x0) (qj_v x1) (qj_v x2)) = true) (.ite ((qq_c (ql_v (qj_v x0) (qj_v x1) (qj_v x2)) (qd_v (qj_v x0) (qj_v x1) (qj_v x2))) = true) (.ite ((!(qq_v (ql_v (qj_v x0) (qj_v x1) (qj_v x2)) (qd_v (qj_v x0) (qj_v x1) (qj_v x2)))) = true) (.ok false)
           (.ite ((qj_c x0) = true) (.ite ((qq_c (qj_v x0) (qj_v x0)) = true) (.ite ((!(qq_v (qj_v x0) (qj_v x0))) = true) (.ok false)
              (.ite ((qj_c x1) = true) (.ite ((qq_c (qj_v x1) (qj_v x1)) = true) (.ite ((!(qq_v (qj_v x1) (qj_v x1))) = true) (.ok false)
                 (.ite ((qj_c x2) = true) (.ite ((qq_c (qj_v x2) (qj_v x2)) = true) (.ite ((!(qq_v (qj_v x2) (qj_v x2))) = true) (.ok false)
                    (.ite ((qo_c (qj_v x0) (1 : Int)) = true) (.ite ((qo_c (qj_v x1) ((qo_v (qj_v x0) (1 : Int)).2)) = true) (.ite ((qo_c (qj_v x2) ((qo_v (qj_v x1) ((qo_v (qj_v x0) (1 : Int)).2)).2)) = true) (.ite ((decide ((qo_v (qj_v x2) ((qo_v (qj_v x1) ((qo_v (qj_v x0) (1 : Int)).2)).2)).2 < (0 : Int))) = true) (.ok false)
                        (.ite ((qq_c (ql_v (qj_v x0) (qj_v x1) (qj_v x2)) (qd_v (qj_v x0) (qj_v x1) (qj_v x2))) = true) (.ite ((!(qq_v (ql_v (qj_v x0) (qj_v x1) (qj_v x2)) (qd_v (qj_v x0) (qj_v x1) (qj_v x2)))) = true) (.ok false)
                          (.ite ((qo_c (ql_v (qj_v x0) (qj_v x1) (qj_v x2)) (1 : Int)) = true) (.ite ((qp_c ((qo_v (ql_v (qj_v x0) (qj_v x1) (qj_v x2)) (1 : Int)).1) (1 : Int)) = true) (.ite ((decide ((qp_v ((qo_v (ql_v (qj_v x0) (qj_v x1) (qj_v x2)) (1 : Int)).1) (1 : Int)) < (0 : Int))) = true) (.ok false)
                             (.ite ((!((qp_v ((qo_v (ql_v (qj_v x0) (qj_v x1) (qj_v x2)) (1 : Int)).1) (1 : Int)) == (qo_v (ql_v (qj_v x0) (qj_v x1) (qj_v x2)) (1 : Int)).2)) = true) (.ok false)
                              (.ite ((qj_c x0) = true) (.ite ((qj_c x1) = true) (.ite ((qj_c x2) = true) (.ite ((ql_c (qj_v x0) (qj_v x1) (qj_v x2)) = true) (.ite ((qq_c (ql_v (qj_v x0) (qj_v x1) (qj_v x2)) (qd_v (qj_v x0) (qj_v x1) (qj_v x2))) = true) (.ite ((!(qq_v (ql_v (qj_v x0) (qj_v x1) (qj_v x2)) (qd_v (qj_v x0) (qj_v x1) (qj_v x2)))) = true) (.ok false)
                                    (.ite ((qp_c ((qo_v (ql_v (qj_v x0) (qj_v x1) (qj_v x2)) (1 : Int)).1) (1 : Int)) = true) (.ite ((decide ((qp_v ((qo_v (ql_v (qj_v x0) (qj_v x1) (qj_v x2)) (1 : Int)).1) (1 : Int)) < (0 : Int))) = true) (.ok false)
                                      (.ite ((!((qp_v ((qo_v (ql_v (qj_v x0) (qj_v x1) (qj_v x2)) (1 : Int)).1) (1 : Int)) == (qo_v (ql_v (qj_v x0) (qj_v x1) (qj_v x2)) (1 : Int)).2)) = true) (.ok false)
                                       (.ok true)))
                                     .no))
                                   .no)
                                  .no)
                                 .no)
                                .no)
                               .no)))
                            .no)
                           .no))
                         .no))
                       .no)
                      .no)
                     .no))
                   .no)
                  .no))
                .no)
               .no))
             .no)
            .no))
          .no)
         .no)
        .no)
       .no)
      .no)
     .no)
    .no)
   .no)
  .no)
theorem laws_FnExactChunksLost_eb (x0 x1 x2 : LL) : runT tab 108 D34 (live 4) noLoops laws_FnExactChunksLost_q3 (laws_FnExactChunksLost_z3 x0 x1 x2) laws_FnExactChunksLost_K = (laws_FnExactChunksLost_t2 x0 x1 x2).run fun p => some [(false, [⟨.bool, .sh, .b p⟩])] := by kernel_rfl
theorem laws_FnExactChunksLost_e (x0 x1 x2 : LL) : runF tab FT D34 live 4 noLoops [(false, [(.slice 2, TC.l x0)]), (false, [(.slice 2, TC.l x1)]), (false, [(.slice 2, TC.l x2)])] = (laws_FnExactChunksLost_t x0 x1 x2).run fun p => some [(false, [⟨.bool, .sh, .b p⟩])] := by
  rw [laws_FnExactChunksLost_w0, laws_FnExactChunksLost_w1, laws_FnExactChunksLost_w2, laws_FnExactChunksLost_w3, laws_FnExactChunksLost_eb]
  rfl
theorem laws_FnExactChunksLost_p (x0 x1 x2 : LL) (h0 : Typed tab (.slice 2) (.l x0)) (h1 : Typed tab (.slice 2) (.l x1)) (h2 : Typed tab (.slice 2) (.l x2)) : (laws_FnExactChunksLost_t x0 x1 x2).val = some true := by
  have t0_2 := qj_ty h0
  have t1_2 := qj_ty h1
  have t2_2 := qj_ty h2
  have hr0 := typed_room t0_2
  have hr1 := typed_room t1_2
  have hr3 := typed_room t2_2
  have ht := lostV_ty (e := 2) (D := List.map qj_g x0) (F := List.map qj_g x1) (C := List.map qj_g x2) rfl rfl
  have hr2 := typed_room ht
  simp only [show (tab 2).bytes = 8 from rfl] at hr0 hr1 hr2 hr3
  unfold laws_FnExactChunksLost_t
  simp only [qd_vv, ql_vv, qj_v]
  refine Tr.y ?_
  refine Tr.y ?_
  refine Tr.y ?_
  refine Tr.t (by first | exact (by first | (apply is_true; and_intros <;> (first | rfl | assumption | (apply qe_cc <;> assumption) | (apply qh_cc <;> assumption) | (apply qk_cc <;> assumption) | (apply qd_cc <;> assumption) | (apply qm_cc <;> assumption) | (apply qi_cc <;> assumption) | (apply qa_cc <;> assumption) | (apply qf_cc <;> assumption) | (apply qb_cc <;> assumption) | (apply ql_cc <;> assumption) | (first | (apply is_true; and_intros <;> (first | rfl | assumption | (apply qe_cc <;> assumption) | (apply qh_cc <;> assumption) | (apply qk_cc <;> assumption) | (apply qd_cc <;> assumption) | (apply qm_cc <;> assumption) | (apply qi_cc <;> assumption) | (apply qa_cc <;> assumption) | (apply qf_cc <;> assumption) | (apply qb_cc <;> assumption) | (apply ql_cc <;> assumption) | (first | (apply is_true; and_intros <;> (first | rfl | assumption | (apply qe_cc <;> assumption) | (apply qh_cc <;> assumption) | (apply qk_cc <;> assumption) | (apply qd_cc <;> assumption) | (apply qm_cc <;> assumption) | (apply qi_cc <;> assumption) | (apply qa_cc <;> assumption) | (apply qf_cc <;> assumption) | (apply qb_cc <;> assumption) | (apply ql_cc <;> assumption) | (first | (apply is_true; and_intros <;> (first | rfl | assumption | (apply qe_cc <;> assumption) | (apply qh_cc <;> assumption) | (apply qk_cc <;> assumption) | (apply qd_cc <;> assumption) | (apply qm_cc <;> assumption) | (apply qi_cc <;> assumption) | (apply qa_cc <;> assumption) | (apply qf_cc <;> assumption) | (apply qb_cc <;> assumption) | (apply ql_cc <;> assumption))) | (apply qe_cc <;> assumption) | (apply qh_cc <;> assumption) | (apply qk_cc <;> assumption) | (apply qd_cc <;> assumption) | (apply qm_cc <;> assumption) | (apply qi_cc <;> assumption) | (apply qa_cc <;> assumption) | (apply qf_cc <;> assumption) | (apply qb_cc <;> assumption) | (apply ql_cc <;> assumption)))) | (apply qe_cc <;> assumption) | (apply qh_cc <;> assumption) | (apply qk_cc <;> assumption) | (apply qd_cc <;> assumption) | (apply qm_cc <;> assumption) | (apply qi_cc <;> assumption) | (apply qa_cc <;> assumption) | (apply qf_cc <;> assumption) | (apply qb_cc <;> assumption) | (apply ql_cc <;> assumption)))) | (apply qe_cc <;> assumption) | (apply qh_cc <;> assumption) | (apply qk_cc <;> assumption) | (apply qd_cc <;> assumption) | (apply qm_cc <;> assumption) | (apply qi_cc <;> assumption) | (apply qa_cc <;> assumption) | (apply qf_cc <;> assumption) | (apply qb_cc <;> assumption) | (apply ql_cc <;> assumption)))) | (apply qe_cc <;> assumption) | (apply qh_cc <;> assumption) | (apply qk_cc <;> assumption) | (apply qd_cc <;> assumption) | (apply qm_cc <;> assumption) | (apply qi_cc <;> assumption) | (apply qa_cc <;> assumption) | (apply qf_cc <;> assumption) | (apply qb_cc <;> assumption) | (apply ql_cc <;> assumption)) | simp [*]) ?_
  refine Tr.t (by first | exact (by first | (apply is_true; and_intros <;> (first | rfl | assumption | (apply qe_cc <;> assumption) | (apply qh_cc <;> assumption) | (apply qk_cc <;> assumption) | (apply qd_cc <;> assumption) | (apply qm_cc <;> assumption) | (apply qi_cc <;> assumption) | (apply qa_cc <;> assumption) | (apply qf_cc <;> assumption) | (apply qb_cc <;> assumption) | (apply ql_cc <;> assumption) | (first | (apply is_true; and_intros <;> (first | rfl | assumption | (apply qe_cc <;> assumption) | (apply qh_cc <;> assumption) | (apply qk_cc <;> assumption) | (apply qd_cc <;> assumption) | (apply qm_cc <;> assumption) | (apply qi_cc <;> assumption) | (apply qa_cc <;> assumption) | (apply qf_cc <;> assumption) | (apply qb_cc <;> assumption) | (apply ql_cc <;> assumption) | (first | (apply is_true; and_intros <;> (first | rfl | assumption | (apply qe_cc <;> assumption) | (apply qh_cc <;> assumption) | (apply qk_cc <;> assumption) | (apply qd_cc <;> assumption) | (apply qm_cc <;> assumption) | (apply qi_cc <;> assumption) | (apply qa_cc <;> assumption) | (apply qf_cc <;> assumption) | (apply qb_cc <;> assumption) | (apply ql_cc <;> assumption) | (first | (apply is_true; and_intros <;> (first | rfl | assumption | (apply qe_cc <;> assumption) | (apply qh_cc <;> assumption) | (apply qk_cc <;> assumption) | (apply qd_cc <;> assumption) | (apply qm_cc <;> assumption) | (apply qi_cc <;> assumption) | (apply qa_cc <;> assumption) | (apply qf_cc <;> assumption) | (apply qb_cc <;> assumption) | (apply ql_cc <;> assumption))) | (apply qe_cc <;> assumption) | (apply qh_cc <;> assumption) | (apply qk_cc <;> assumption) | (apply qd_cc <;> assumption) | (apply qm_cc <;> assumption) | (apply qi_cc <;> assumption) | (apply qa_cc <;> assumption) | (apply qf_cc <;> assumption) | (apply qb_cc <;> assumption) | (apply ql_cc <;> assumption)))) | (apply qe_cc <;> assumption) | (apply qh_cc <;> assumption) | (apply qk_cc <;> assumption) | (apply qd_cc <;> assumption) | (apply qm_cc <;> assumption) | (apply qi_cc <;> assumption) | (apply qa_cc <;> assumption) | (apply qf_cc <;> assumption) | (apply qb_cc <;> assumption) | (apply ql_cc <;> assumption)))) | (apply qe_cc <;> assumption) | (apply qh_cc <;> assumption) | (apply qk_cc <;> assumption) | (apply qd_cc <;> assumption) | (apply qm_cc <;> assumption) | (apply qi_cc <;> assumption) | (apply qa_cc <;> assumption) | (apply qf_cc <;> assumption) | (apply qb_cc <;> assumption) | (apply ql_cc <;> assumption)))) | (apply qe_cc <;> assumption) | (apply qh_cc <;> assumption) | (apply qk_cc <;> assumption) | (apply qd_cc <;> assumption) | (apply qm_cc <;> assumption) | (apply qi_cc <;> assumption) | (apply qa_cc <;> assumption) | (apply qf_cc <;> assumption) | (apply qb_cc <;> assumption) | (apply ql_cc <;> assumption)) | simp [*]) ?_
  refine Tr.t (by first | exact (by first | (apply is_true; and_intros <;> (first | rfl | assumption | (apply qe_cc <;> assumption) | (apply qh_cc <;> assumption) | (apply qk_cc <;> assumption) | (apply qd_cc <;> assumption) | (apply qm_cc <;> assumption) | (apply qi_cc <;> assumption) | (apply qa_cc <;> assumption) | (apply qf_cc <;> assumption) | (apply qb_cc <;> assumption) | (apply ql_cc <;> assumption) | (first | (apply is_true; and_intros <;> (first | rfl | assumption | (apply qe_cc <;> assumption) | (apply qh_cc <;> assumption) | (apply qk_cc <;> assumption) | (apply qd_cc <;> assumption) | (apply qm_cc <;> assumption) | (apply qi_cc <;> assumption) | (apply qa_cc <;> assumption) | (apply qf_cc <;> assumption) | (apply qb_cc <;> assumption) | (apply ql_cc <;> assumption) | (first | (apply is_true; and_intros <;> (first | rfl | assumption | (apply qe_cc <;> assumption) | (apply qh_cc <;> assumption) | (apply qk_cc <;> assumption) | (apply qd_cc <;> assumption) | (apply qm_cc <;> assumption) | (apply qi_cc <;> assumption) | (apply qa_cc <;> assumption) | (apply qf_cc <;> assumption) | (apply qb_cc <;> assumption) | (apply ql_cc <;> assumption) | (first | (apply is_true; and_intros <;> (first | rfl | assumption | (apply qe_cc <;> assumption) | (apply qh_cc <;> assumption) | (apply qk_cc <;> assumption) | (apply qd_cc <;> assumption) | (apply qm_cc <;> assumption) | (apply qi_cc <;> assumption) | (apply qa_cc <;> assumption) | (apply qf_cc <;> assumption) | (apply qb_cc <;> assumption) | (apply ql_cc <;> assumption))) | (apply qe_cc <;> assumption) | (apply qh_cc <;> assumption) | (apply qk_cc <;> assumption) | (apply qd_cc <;> assumption) | (apply qm_cc <;> assumption) | (apply qi_cc <;> assumption) | (apply qa_cc <;> assumption) | (apply qf_cc <;> assumption) | (apply qb_cc <;> assumption) | (apply ql_cc <;> assumption)))) | (apply qe_cc <;> assumption) | (apply qh_cc <;> assumption) | (apply qk_cc <;> assumption) | (apply qd_cc <;> assumption) | (apply qm_cc <;> assumption) | (apply qi_cc <;> assumption) | (apply qa_cc <;> assumption) | (apply qf_cc <;> assumption) | (apply qb_cc <;> assumption) | (apply ql_cc <;> assumption)))) | (apply qe_cc <;> assumption) | (apply qh_cc <;> assumption) | (apply qk_cc <;> assumption) | (apply qd_cc <;> assumption) | (apply qm_cc <;> assumption) | (apply qi_cc <;> assumption) | (apply qa_cc <;> assumption) | (apply qf_cc <;> assumption) | (apply qb_cc <;> assumption) | (apply ql_cc <;> assumption)))) | (apply qe_cc <;> assumption) | (apply qh_cc <;> assumption) | (apply qk_cc <;> assumption) | (apply qd_cc <;> assumption) | (apply qm_cc <;> assumption) | (apply qi_cc <;> assumption) | (apply qa_cc <;> assumption) | (apply qf_cc <;> assumption) | (apply qb_cc <;> assumption) | (apply ql_cc <;> assumption)) | simp [*]) ?_
  refine Tr.t (by first | exact (by first | (apply qd_cc <;> assumption) | (first | (apply is_true; and_intros <;> (first | rfl | assumption | (apply qe_cc <;> assumption) | (apply qh_cc <;> assumption) | (apply qk_cc <;> assumption) | (apply qd_cc <;> assumption) | (apply qm_cc <;> assumption) | (apply qi_cc <;> assumption) | (apply qa_cc <;> assumption) | (apply qf_cc <;> assumption) | (apply qb_cc <;> assumption) | (apply ql_cc <;> assumption) | (first | (apply is_true; and_intros <;> (first | rfl | assumption | (apply qe_cc <;> assumption) | (apply qh_cc <;> assumption) | (apply qk_cc <;> assumption) | (apply qd_cc <;> assumption) | (apply qm_cc <;> assumption) | (apply qi_cc <;> assumption) | (apply qa_cc <;> assumption) | (apply qf_cc <;> assumption) | (apply qb_cc <;> assumption) | (apply ql_cc <;> assumption))) | (apply qe_cc <;> assumption) | (apply qh_cc <;> assumption) | (apply qk_cc <;> assumption) | (apply qd_cc <;> assumption) | (apply qm_cc <;> assumption) | (apply qi_cc <;> assumption) | (apply qa_cc <;> assumption) | (apply qf_cc <;> assumption) | (apply qb_cc <;> assumption) | (apply ql_cc <;> assumption)))) | (apply qe_cc <;> assumption) | (apply qh_cc <;> assumption) | (apply qk_cc <;> assumption) | (apply qd_cc <;> assumption) | (apply qm_cc <;> assumption) | (apply qi_cc <;> assumption) | (apply qa_cc <;> assumption) | (apply qf_cc <;> assumption) | (apply qb_cc <;> assumption) | (apply ql_cc <;> assumption))) | simp [*]) ?_
  refine Tr.t (by first | exact (by first | (apply is_true; and_intros <;> (first | rfl | assumption | (apply qe_cc <;> assumption) | (apply qh_cc <;> assumption) | (apply qk_cc <;> assumption) | (apply qd_cc <;> assumption) | (apply qm_cc <;> assumption) | (apply qi_cc <;> assumption) | (apply qa_cc <;> assumption) | (apply qf_cc <;> assumption) | (apply qb_cc <;> assumption) | (apply ql_cc <;> assumption) | (first | (apply is_true; and_intros <;> (first | rfl | assumption | (apply qe_cc <;> assumption) | (apply qh_cc <;> assumption) | (apply qk_cc <;> assumption) | (apply qd_cc <;> assumption) | (apply qm_cc <;> assumption) | (apply qi_cc <;> assumption) | (apply qa_cc <;> assumption) | (apply qf_cc <;> assumption) | (apply qb_cc <;> assumption) | (apply ql_cc <;> assumption) | (first | (apply is_true; and_intros <;> (first | rfl | assumption | (apply qe_cc <;> assumption) | (apply qh_cc <;> assumption) | (apply qk_cc <;> assumption) | (apply qd_cc <;> assumption) | (apply qm_cc <;> assumption) | (apply qi_cc <;> assumption) | (apply qa_cc <;> assumption) | (apply qf_cc <;> assumption) | (apply qb_cc <;> assumption) | (apply ql_cc <;> assumption) | (first | (apply is_true; and_intros <;> (first | rfl | assumption | (apply qe_cc <;> assumption) | (apply qh_cc <;> assumption) | (apply qk_cc <;> assumption) | (apply qd_cc <;> assumption) | (apply qm_cc <;> assumption) | (apply qi_cc <;> assumption) | (apply qa_cc <;> assumption) | (apply qf_cc <;> assumption) | (apply qb_cc <;> assumption) | (apply ql_cc <;> assumption))) | (apply qe_cc <;> assumption) | (apply qh_cc <;> assumption) | (apply qk_cc <;> assumption) | (apply qd_cc <;> assumption) | (apply qm_cc <;> assumption) | (apply qi_cc <;> assumption) | (apply qa_cc <;> assumption) | (apply qf_cc <;> assumption) | (apply qb_cc <;> assumption) | (apply ql_cc <;> assumption)))) | (apply qe_cc <;> assumption) | (apply qh_cc <;> assumption) | (apply qk_cc <;> assumption) | (apply qd_cc <;> assumption) | (apply qm_cc <;> assumption) | (apply qi_cc <;> assumption) | (apply qa_cc <;> assumption) | (apply qf_cc <;> assumption) | (apply qb_cc <;> assumption) | (apply ql_cc <;> assumption)))) | (apply qe_cc <;> assumption) | (apply qh_cc <;> assumption) | (apply qk_cc <;> assumption) | (apply qd_cc <;> assumption) | (apply qm_cc <;> assumption) | (apply qi_cc <;> assumption) | (apply qa_cc <;> assumption) | (apply qf_cc <;> assumption) | (apply qb_cc <;> assumption) | (apply ql_cc <;> assumption)))) | (apply qe_cc <;> assumption) | (apply qh_cc <;> assumption) | (apply qk_cc <;> assumption) | (apply qd_cc <;> assumption) | (apply qm_cc <;> assumption) | (apply qi_cc <;> assumption) | (apply qa_cc <;> assumption) | (apply qf_cc <;> assumption) | (apply qb_cc <;> assumption) | (apply ql_cc <;> assumption)) | simp [*]) ?_
  refine Tr.t (by first | exact (by first | (apply is_true; and_intros <;> (first | rfl | assumption | (apply qe_cc <;> assumption) | (apply qh_cc <;> assumption) | (apply qk_cc <;> assumption) | (apply qd_cc <;> assumption) | (apply qm_cc <;> assumption) | (apply qi_cc <;> assumption) | (apply qa_cc <;> assumption) | (apply qf_cc <;> assumption) | (apply qb_cc <;> assumption) | (apply ql_cc <;> assumption) | (first | (apply is_true; and_intros <;> (first | rfl | assumption | (apply qe_cc <;> assumption) | (apply qh_cc <;> assumption) | (apply qk_cc <;> assumption) | (apply qd_cc <;> assumption) | (apply qm_cc <;> assumption) | (apply qi_cc <;> assumption) | (apply qa_cc <;> assumption) | (apply qf_cc <;> assumption) | (apply qb_cc <;> assumption) | (apply ql_cc <;> assumption) | (first | (apply is_true; and_intros <;> (first | rfl | assumption | (apply qe_cc <;> assumption) | (apply qh_cc <;> assumption) | (apply qk_cc <;> assumption) | (apply qd_cc <;> assumption) | (apply qm_cc <;> assumption) | (apply qi_cc <;> assumption) | (apply qa_cc <;> assumption) | (apply qf_cc <;> assumption) | (apply qb_cc <;> assumption) | (apply ql_cc <;> assumption) | (first | (apply is_true; and_intros <;> (first | rfl | assumption | (apply qe_cc <;> assumption) | (apply qh_cc <;> assumption) | (apply qk_cc <;> assumption) | (apply qd_cc <;> assumption) | (apply qm_cc <;> assumption) | (apply qi_cc <;> assumption) | (apply qa_cc <;> assumption) | (apply qf_cc <;> assumption) | (apply qb_cc <;> assumption) | (apply ql_cc <;> assumption))) | (apply qe_cc <;> assumption) | (apply qh_cc <;> assumption) | (apply qk_cc <;> assumption) | (apply qd_cc <;> assumption) | (apply qm_cc <;> assumption) | (apply qi_cc <;> assumption) | (apply qa_cc <;> assumption) | (apply qf_cc <;> assumption) | (apply qb_cc <;> assumption) | (apply ql_cc <;> assumption)))) | (apply qe_cc <;> assumption) | (apply qh_cc <;> assumption) | (apply qk_cc <;> assumption) | (apply qd_cc <;> assumption) | (apply qm_cc <;> assumption) | (apply qi_cc <;> assumption) | (apply qa_cc <;> assumption) | (apply qf_cc <;> assumption) | (apply qb_cc <;> assumption) | (apply ql_cc <;> assumption)))) | (apply qe_cc <;> assumption) | (apply qh_cc <;> assumption) | (apply qk_cc <;> assumption) | (apply qd_cc <;> assumption) | (apply qm_cc <;> assumption) | (apply qi_cc <;> assumption) | (apply qa_cc <;> assumption) | (apply qf_cc <;> assumption) | (apply qb_cc <;> assumption) | (apply ql_cc <;> assumption)))) | (apply qe_cc <;> assumption) | (apply qh_cc <;> assumption) | (apply qk_cc <;> assumption) | (apply qd_cc <;> assumption) | (apply qm_cc <;> assumption) | (apply qi_cc <;> assumption) | (apply qa_cc <;> assumption) | (apply qf_cc <;> assumption) | (apply qb_cc <;> assumption) | (apply ql_cc <;> assumption)) | simp [*]) ?_
  refine Tr.t (by first | exact (by first | (apply is_true; and_intros <;> (first | rfl | assumption | (apply qe_cc <;> assumption) | (apply qh_cc <;> assumption) | (apply qk_cc <;> assumption) | (apply qd_cc <;> assumption) | (apply qm_cc <;> assumption) | (apply qi_cc <;> assumption) | (apply qa_cc <;> assumption) | (apply qf_cc <;> assumption) | (apply qb_cc <;> assumption) | (apply ql_cc <;> assumption) | (first | (apply is_true; and_intros <;> (first | rfl | assumption | (apply qe_cc <;> assumption) | (apply qh_cc <;> assumption) | (apply qk_cc <;> assumption) | (apply qd_cc <;> assumption) | (apply qm_cc <;> assumption) | (apply qi_cc <;> assumption) | (apply qa_cc <;> assumption) | (apply qf_cc <;> assumption) | (apply qb_cc <;> assumption) | (apply ql_cc <;> assumption) | (first | (apply is_true; and_intros <;> (first | rfl | assumption | (apply qe_cc <;> assumption) | (apply qh_cc <;> assumption) | (apply qk_cc <;> assumption) | (apply qd_cc <;> assumption) | (apply qm_cc <;> assumption) | (apply qi_cc <;> assumption) | (apply qa_cc <;> assumption) | (apply qf_cc <;> assumption) | (apply qb_cc <;> assumption) | (apply ql_cc <;> assumption) | (first | (apply is_true; and_intros <;> (first | rfl | assumption | (apply qe_cc <;> assumption) | (apply qh_cc <;> assumption) | (apply qk_cc <;> assumption) | (apply qd_cc <;> assumption) | (apply qm_cc <;> assumption) | (apply qi_cc <;> assumption) | (apply qa_cc <;> assumption) | (apply qf_cc <;> assumption) | (apply qb_cc <;> assumption) | (apply ql_cc <;> assumption))) | (apply qe_cc <;> assumption) | (apply qh_cc <;> assumption) | (apply qk_cc <;> assumption) | (apply qd_cc <;> assumption) | (apply qm_cc <;> assumption) | (apply qi_cc <;> assumption) | (apply qa_cc <;> assumption) | (apply qf_cc <;> assumption) | (apply qb_cc <;> assumption) | (apply ql_cc <;> assumption)))) | (apply qe_cc <;> assumption) | (apply qh_cc <;> assumption) | (apply qk_cc <;> assumption) | (apply qd_cc <;> assumption) | (apply qm_cc <;> assumption) | (apply qi_cc <;> assumption) | (apply qa_cc <;> assumption) | (apply qf_cc <;> assumption) | (apply qb_cc <;> assumption) | (apply ql_cc <;> assumption)))) | (apply qe_cc <;> assumption) | (apply qh_cc <;> assumption) | (apply qk_cc <;> assumption) | (apply qd_cc <;> assumption) | (apply qm_cc <;> assumption) | (apply qi_cc <;> assumption) | (apply qa_cc <;> assumption) | (apply qf_cc <;> assumption) | (apply qb_cc <;> assumption) | (apply ql_cc <;> assumption)))) | (apply qe_cc <;> assumption) | (apply qh_cc <;> assumption) | (apply qk_cc <;> assumption) | (apply qd_cc <;> assumption) | (apply qm_cc <;> assumption) | (apply qi_cc <;> assumption) | (apply qa_cc <;> assumption) | (apply qf_cc <;> assumption) | (apply qb_cc <;> assumption) | (apply ql_cc <;> assumption)) | simp [*]) ?_
  refine Tr.t (by first | exact (by first | (apply ql_cc <;> assumption) | (first | (apply is_true; and_intros <;> (first | rfl | assumption | (apply qe_cc <;> assumption) | (apply qh_cc <;> assumption) | (apply qk_cc <;> assumption) | (apply qd_cc <;> assumption) | (apply qm_cc <;> assumption) | (apply qi_cc <;> assumption) | (apply qa_cc <;> assumption) | (apply qf_cc <;> assumption) | (apply qb_cc <;> assumption) | (apply ql_cc <;> assumption) | (first | (apply is_true; and_intros <;> (first | rfl | assumption | (apply qe_cc <;> assumption) | (apply qh_cc <;> assumption) | (apply qk_cc <;> assumption) | (apply qd_cc <;> assumption) | (apply qm_cc <;> assumption) | (apply qi_cc <;> assumption) | (apply qa_cc <;> assumption) | (apply qf_cc <;> assumption) | (apply qb_cc <;> assumption) | (apply ql_cc <;> assumption))) | (apply qe_cc <;> assumption) | (apply qh_cc <;> assumption) | (apply qk_cc <;> assumption) | (apply qd_cc <;> assumption) | (apply qm_cc <;> assumption) | (apply qi_cc <;> assumption) | (apply qa_cc <;> assumption) | (apply qf_cc <;> assumption) | (apply qb_cc <;> assumption) | (apply ql_cc <;> assumption)))) | (apply qe_cc <;> assumption) | (apply qh_cc <;> assumption) | (apply qk_cc <;> assumption) | (apply qd_cc <;> assumption) | (apply qm_cc <;> assumption) | (apply qi_cc <;> assumption) | (apply qa_cc <;> assumption) | (apply qf_cc <;> assumption) | (apply qb_cc <;> assumption) | (apply ql_cc <;> assumption))) | simp [*]) ?_
  refine Tr.t (by first | exact (by first | (apply is_true; and_intros <;> (first | rfl | assumption | (apply qe_cc <;> assumption) | (apply qh_cc <;> assumption) | (apply qk_cc <;> assumption) | (apply qd_cc <;> assumption) | (apply qm_cc <;> assumption) | (apply qi_cc <;> assumption) | (apply qa_cc <;> assumption) | (apply qf_cc <;> assumption) | (apply qb_cc <;> assumption) | (apply ql_cc <;> assumption) | (first | (apply is_true; and_intros <;> (first | rfl | assumption | (apply qe_cc <;> assumption) | (apply qh_cc <;> assumption) | (apply qk_cc <;> assumption) | (apply qd_cc <;> assumption) | (apply qm_cc <;> assumption) | (apply qi_cc <;> assumption) | (apply qa_cc <;> assumption) | (apply qf_cc <;> assumption) | (apply qb_cc <;> assumption) | (apply ql_cc <;> assumption) | (first | (apply is_true; and_intros <;> (first | rfl | assumption | (apply qe_cc <;> assumption) | (apply qh_cc <;> assumption) | (apply qk_cc <;> assumption) | (apply qd_cc <;> assumption) | (apply qm_cc <;> assumption) | (apply qi_cc <;> assumption) | (apply qa_cc <;> assumption) | (apply qf_cc <;> assumption) | (apply qb_cc <;> assumption) | (apply ql_cc <;> assumption) | (first | (apply is_true; and_intros <;> (first | rfl | assumption | (apply qe_cc <;> assumption) | (apply qh_cc <;> assumption) | (apply qk_cc <;> assumption) | (apply qd_cc <;> assumption) | (apply qm_cc <;> assumption) | (apply qi_cc <;> assumption) | (apply qa_cc <;> assumption) | (apply qf_cc <;> assumption) | (apply qb_cc <;> assumption) | (apply ql_cc <;> assumption))) | (apply qe_cc <;> assumption) | (apply qh_cc <;> assumption) | (apply qk_cc <;> assumption) | (apply qd_cc <;> assumption) | (apply qm_cc <;> assumption) | (apply qi_cc <;> assumption) | (apply qa_cc <;> assumption) | (apply qf_cc <;> assumption) | (apply qb_cc <;> assumption) | (apply ql_cc <;> assumption)))) | (apply qe_cc <;> assumption) | (apply qh_cc <;> assumption) | (apply qk_cc <;> assumption) | (apply qd_cc <;> assumption) | (apply qm_cc <;> assumption) | (apply qi_cc <;> assumption) | (apply qa_cc <;> assumption) | (apply qf_cc <;> assumption) | (apply qb_cc <;> assumption) | (apply ql_cc <;> assumption)))) | (apply qe_cc <;> assumption) | (apply qh_cc <;> assumption) | (apply qk_cc <;> assumption) | (apply qd_cc <;> assumption) | (apply qm_cc <;> assumption) | (apply qi_cc <;> assumption) | (apply qa_cc <;> assumption) | (apply qf_cc <;> assumption) | (apply qb_cc <;> assumption) | (apply ql_cc <;> assumption)))) | (apply qe_cc <;> assumption) | (apply qh_cc <;> assumption) | (apply qk_cc <;> assumption) | (apply qd_cc <;> assumption) | (apply qm_cc <;> assumption) | (apply qi_cc <;> assumption) | (apply qa_cc <;> assumption) | (apply qf_cc <;> assumption) | (apply qb_cc <;> assumption) | (apply ql_cc <;> assumption)) | simp [*]) ?_
  refine Tr.n (by first | (simp [qp_vm, qo_v2, qq_v]; done) | (simp only [qp_vm, qo_v2, qq_v, decide_eq_true_eq]; omega) | (simp [qp_vm, qo_v2, qq_v]; omega) | (simp (disch := omega) only [qp_vm, qo_v2, qq_v, neg_bif, decide_eq_true_eq]; omega) | (simp (disch := omega) [qp_vm, qo_v2, qq_v, neg_bif]; done)) ?_
  refine Tr.t (by first | exact (by first | (apply is_true; and_intros <;> (first | rfl | assumption | (apply qe_cc <;> assumption) | (apply qh_cc <;> assumption) | (apply qk_cc <;> assumption) | (apply qd_cc <;> assumption) | (apply qm_cc <;> assumption) | (apply qi_cc <;> assumption) | (apply qa_cc <;> assumption) | (apply qf_cc <;> assumption) | (apply qb_cc <;> assumption) | (apply ql_cc <;> assumption) | (first | (apply is_true; and_intros <;> (first | rfl | assumption | (apply qe_cc <;> assumption) | (apply qh_cc <;> assumption) | (apply qk_cc <;> assumption) | (apply qd_cc <;> assumption) | (apply qm_cc <;> assumption) | (apply qi_cc <;> assumption) | (apply qa_cc <;> assumption) | (apply qf_cc <;> assumption) | (apply qb_cc <;> assumption) | (apply ql_cc <;> assumption) | (first | (apply is_true; and_intros <;> (first | rfl | assumption | (apply qe_cc <;> assumption) | (apply qh_cc <;> assumption) | (apply qk_cc <;> assumption) | (apply qd_cc <;> assumption) | (apply qm_cc <;> assumption) | (apply qi_cc <;> assumption) | (apply qa_cc <;> assumption) | (apply qf_cc <;> assumption) | (apply qb_cc <;> assumption) | (apply ql_cc <;> assumption) | (first | (apply is_true; and_intros <;> (first | rfl | assumption | (apply qe_cc <;> assumption) | (apply qh_cc <;> assumption) | (apply qk_cc <;> assumption) | (apply qd_cc <;> assumption) | (apply qm_cc <;> assumption) | (apply qi_cc <;> assumption) | (apply qa_cc <;> assumption) | (apply qf_cc <;> assumption) | (apply qb_cc <;> assumption) | (apply ql_cc <;> assumption))) | (apply qe_cc <;> assumption) | (apply qh_cc <;> assumption) | (apply qk_cc <;> assumption) | (apply qd_cc <;> assumption) | (apply qm_cc <;> assumption) | (apply qi_cc <;> assumption) | (apply qa_cc <;> assumption) | (apply qf_cc <;> assumption) | (apply qb_cc <;> assumption) | (apply ql_cc <;> assumption)))) | (apply qe_cc <;> assumption) | (apply qh_cc <;> assumption) | (apply qk_cc <;> assumption) | (apply qd_cc <;> assumption) | (apply qm_cc <;> assumption) | (apply qi_cc <;> assumption) | (apply qa_cc <;> assumption) | (apply qf_cc <;> assumption) | (apply qb_cc <;> assumption) | (apply ql_cc <;> assumption)))) | (apply qe_cc <;> assumption) | (apply qh_cc <;> assumption) | (apply qk_cc <;> assumption) | (apply qd_cc <;> assumption) | (apply qm_cc <;> assumption) | (apply qi_cc <;> assumption) | (apply qa_cc <;> assumption) | (apply qf_cc <;> assumption) | (apply qb_cc <;> assumption) | (apply ql_cc <;> assumption)))) | (apply qe_cc <;> assumption) | (apply qh_cc <;> assumption) | (apply qk_cc <;> assumption) | (apply qd_cc <;> assumption) | (apply qm_cc <;> assumption) | (apply qi_cc <;> assumption) | (apply qa_cc <;> assumption) | (apply qf_cc <;> assumption) | (apply qb_cc <;> assumption) | (apply ql_cc <;> assumption)) | simp [*]) ?_
  refine Tr.t (by first | exact (by first | (apply is_true; and_intros <;> (first | rfl | assumption | (apply qe_cc <;> assumption) | (apply qh_cc <;> assumption) | (apply qk_cc <;> assumption) | (apply qd_cc <;> assumption) | (apply qm_cc <;> assumption) | (apply qi_cc <;> assumption) | (apply qa_cc <;> assumption) | (apply qf_cc <;> assumption) | (apply qb_cc <;> assumption) | (apply ql_cc <;> assumption) | (first | (apply is_true; and_intros <;> (first | rfl | assumption | (apply qe_cc <;> assumption) | (apply qh_cc <;> assumption) | (apply qk_cc <;> assumption) | (apply qd_cc <;> assumption) | (apply qm_cc <;> assumption) | (apply qi_cc <;> assumption) | (apply qa_cc <;> assumption) | (apply qf_cc <;> assumption) | (apply qb_cc <;> assumption) | (apply ql_cc <;> assumption) | (first | (apply is_true; and_intros <;> (first | rfl | assumption | (apply qe_cc <;> assumption) | (apply qh_cc <;> assumption) | (apply qk_cc <;> assumption) | (apply qd_cc <;> assumption) | (apply qm_cc <;> assumption) | (apply qi_cc <;> assumption) | (apply qa_cc <;> assumption) | (apply qf_cc <;> assumption) | (apply qb_cc <;> assumption) | (apply ql_cc <;> assumption) | (first | (apply is_true; and_intros <;> (first | rfl | assumption | (apply qe_cc <;> assumption) | (apply qh_cc <;> assumption) | (apply qk_cc <;> assumption) | (apply qd_cc <;> assumption) | (apply qm_cc <;> assumption) | (apply qi_cc <;> assumption) | (apply qa_cc <;> assumption) | (apply qf_cc <;> assumption) | (apply qb_cc <;> assumption) | (apply ql_cc <;> assumption))) | (apply qe_cc <;> assumption) | (apply qh_cc <;> assumption) | (apply qk_cc <;> assumption) | (apply qd_cc <;> assumption) | (apply qm_cc <;> assumption) | (apply qi_cc <;> assumption) | (apply qa_cc <;> assumption) | (apply qf_cc <;> assumption) | (apply qb_cc <;> assumption) | (apply ql_cc <;> assumption)))) | (apply qe_cc <;> assumption) | (apply qh_cc <;> assumption) | (apply qk_cc <;> assumption) | (apply qd_cc <;> assumption) | (apply qm_cc <;> assumption) | (apply qi_cc <;> assumption) | (apply qa_cc <;> assumption) | (apply qf_cc <;> assumption) | (apply qb_cc <;> assumption) | (apply ql_cc <;> assumption)))) | (apply qe_cc <;> assumption) | (apply qh_cc <;> assumption) | (apply qk_cc <;> assumption) | (apply qd_cc <;> assumption) | (apply qm_cc <;> assumption) | (apply qi_cc <;> assumption) | (apply qa_cc <;> assumption) | (apply qf_cc <;> assumption) | (apply qb_cc <;> assumption) | (apply ql_cc <;> assumption)))) | (apply qe_cc <;> assumption) | (apply qh_cc <;> assumption) | (apply qk_cc <;> assumption) | (apply qd_cc <;> assumption) | (apply qm_cc <;> assumption) | (apply qi_cc <;> assumption) | (apply qa_cc <;> assumption) | (apply qf_cc <;> assumption) | (apply qb_cc <;> assumption) | (apply ql_cc <;> assumption)) | simp [*]) ?_
  refine Tr.n (by first | (simp [qp_vm, qo_v2, qq_v]; done) | (simp only [qp_vm, qo_v2, qq_v, decide_eq_true_eq]; omega) | (simp [qp_vm, qo_v2, qq_v]; omega) | (simp (disch := omega) only [qp_vm, qo_v2, qq_v, neg_bif, decide_eq_true_eq]; omega) | (simp (disch := omega) [qp_vm, qo_v2, qq_v, neg_bif]; done)) ?_
  refine Tr.t (by first | exact (by first | (apply is_true; and_intros <;> (first | rfl | assumption | (apply qe_cc <;> assumption) | (apply qh_cc <;> assumption) | (apply qk_cc <;> assumption) | (apply qd_cc <;> assumption) | (apply qm_cc <;> assumption) | (apply qi_cc <;> assumption) | (apply qa_cc <;> assumption) | (apply qf_cc <;> assumption) | (apply qb_cc <;> assumption) | (apply ql_cc <;> assumption) | (first | (apply is_true; and_intros <;> (first | rfl | assumption | (apply qe_cc <;> assumption) | (apply qh_cc <;> assumption) | (apply qk_cc <;> assumption) | (apply qd_cc <;> assumption) | (apply qm_cc <;> assumption) | (apply qi_cc <;> assumption) | (apply qa_cc <;> assumption) | (apply qf_cc <;> assumption) | (apply qb_cc <;> assumption) | (apply ql_cc <;> assumption) | (first | (apply is_true; and_intros <;> (first | rfl | assumption | (apply qe_cc <;> assumption) | (apply qh_cc <;> assumption) | (apply qk_cc <;> assumption) | (apply qd_cc <;> assumption) | (apply qm_cc <;> assumption) | (apply qi_cc <;> assumption) | (apply qa_cc <;> assumption) | (apply qf_cc <;> assumption) | (apply qb_cc <;> assumption) | (apply ql_cc <;> assumption) | (first | (apply is_true; and_intros <;> (first | rfl | assumption | (apply qe_cc <;> assumption) | (apply qh_cc <;> assumption) | (apply qk_cc <;> assumption) | (apply qd_cc <;> assumption) | (apply qm_cc <;> assumption) | (apply qi_cc <;> assumption) | (apply qa_cc <;> assumption) | (apply qf_cc <;> assumption) | (apply qb_cc <;> assumption) | (apply ql_cc <;> assumption))) | (apply qe_cc <;> assumption) | (apply qh_cc <;> assumption) | (apply qk_cc <;> assumption) | (apply qd_cc <;> assumption) | (apply qm_cc <;> assumption) | (apply qi_cc <;> assumption) | (apply qa_cc <;> assumption) | (apply qf_cc <;> assumption) | (apply qb_cc <;> assumption) | (apply ql_cc <;> assumption)))) | (apply qe_cc <;> assumption) | (apply qh_cc <;> assumption) | (apply qk_cc <;> assumption) | (apply qd_cc <;> assumption) | (apply qm_cc <;> assumption) | (apply qi_cc <;> assumption) | (apply qa_cc <;> assumption) | (apply qf_cc <;> assumption) | (apply qb_cc <;> assumption) | (apply ql_cc <;> assumption)))) | (apply qe_cc <;> assumption) | (apply qh_cc <;> assumption) | (apply qk_cc <;> assumption) | (apply qd_cc <;> assumption) | (apply qm_cc <;> assumption) | (apply qi_cc <;> assumption) | (apply qa_cc <;> assumption) | (apply qf_cc <;> assumption) | (apply qb_cc <;> assumption) | (apply ql_cc <;> assumption)))) | (apply qe_cc <;> assumption) | (apply qh_cc <;> assumption) | (apply qk_cc <;> assumption) | (apply qd_cc <;> assumption) | (apply qm_cc <;> assumption) | (apply qi_cc <;> assumption) | (apply qa_cc <;> assumption) | (apply qf_cc <;> assumption) | (apply qb_cc <;> assumption) | (apply ql_cc <;> assumption)) | simp [*]) ?_
  refine Tr.t (by first | exact (by first | (apply is_true; and_intros <;> (first | rfl | assumption | (apply qe_cc <;> assumption) | (apply qh_cc <;> assumption) | (apply qk_cc <;> assumption) | (apply qd_cc <;> assumption) | (apply qm_cc <;> assumption) | (apply qi_cc <;> assumption) | (apply qa_cc <;> assumption) | (apply qf_cc <;> assumption) | (apply qb_cc <;> assumption) | (apply ql_cc <;> assumption) | (first | (apply is_true; and_intros <;> (first | rfl | assumption | (apply qe_cc <;> assumption) | (apply qh_cc <;> assumption) | (apply qk_cc <;> assumption) | (apply qd_cc <;> assumption) | (apply qm_cc <;> assumption) | (apply qi_cc <;> assumption) | (apply qa_cc <;> assumption) | (apply qf_cc <;> assumption) | (apply qb_cc <;> assumption) | (apply ql_cc <;> assumption) | (first | (apply is_true; and_intros <;> (first | rfl | assumption | (apply qe_cc <;> assumption) | (apply qh_cc <;> assumption) | (apply qk_cc <;> assumption) | (apply qd_cc <;> assumption) | (apply qm_cc <;> assumption) | (apply qi_cc <;> assumption) | (apply qa_cc <;> assumption) | (apply qf_cc <;> assumption) | (apply qb_cc <;> assumption) | (apply ql_cc <;> assumption) | (first | (apply is_true; and_intros <;> (first | rfl | assumption | (apply qe_cc <;> assumption) | (apply qh_cc <;> assumption) | (apply qk_cc <;> assumption) | (apply qd_cc <;> assumption) | (apply qm_cc <;> assumption) | (apply qi_cc <;> assumption) | (apply qa_cc <;> assumption) | (apply qf_cc <;> assumption) | (apply qb_cc <;> assumption) | (apply ql_cc <;> assumption))) | (apply qe_cc <;> assumption) | (apply qh_cc <;> assumption) | (apply qk_cc <;> assumption) | (apply qd_cc <;> assumption) | (apply qm_cc <;> assumption) | (apply qi_cc <;> assumption) | (apply qa_cc <;> assumption) | (apply qf_cc <;> assumption) | (apply qb_cc <;> assumption) | (apply ql_cc <;> assumption)))) | (apply qe_cc <;> assumption) | (apply qh_cc <;> assumption) | (apply qk_cc <;> assumption) | (apply qd_cc <;> assumption) | (apply qm_cc <;> assumption) | (apply qi_cc <;> assumption) | (apply qa_cc <;> assumption) | (apply qf_cc <;> assumption) | (apply qb_cc <;> assumption) | (apply ql_cc <;> assumption)))) | (apply qe_cc <;> assumption) | (apply qh_cc <;> assumption) | (apply qk_cc <;> assumption) | (apply qd_cc <;> assumption) | (apply qm_cc <;> assumption) | (apply qi_cc <;> assumption) | (apply qa_cc <;> assumption) | (apply qf_cc <;> assumption) | (apply qb_cc <;> assumption) | (apply ql_cc <;> assumption)))) | (apply qe_cc <;> assumption) | (apply qh_cc <;> assumption) | (apply qk_cc <;> assumption) | (apply qd_cc <;> assumption) | (apply qm_cc <;> assumption) | (apply qi_cc <;> assumption) | (apply qa_cc <;> assumption) | (apply qf_cc <;> assumption) | (apply qb_cc <;> assumption) | (apply ql_cc <;> assumption)) | simp [*]) ?_
  refine Tr.n (by first | (simp [qp_vm, qo_v2, qq_v]; done) | (simp only [qp_vm, qo_v2, qq_v, decide_eq_true_eq]; omega) | (simp [qp_vm, qo_v2, qq_v]; omega) | (simp (disch := omega) only [qp_vm, qo_v2, qq_v, neg_bif, decide_eq_true_eq]; omega) | (simp (disch := omega) [qp_vm, qo_v2, qq_v, neg_bif]; done)) ?_
  refine Tr.t (by first | exact (by first | (apply is_true; and_intros <;> (first | rfl | assumption | (apply qe_cc <;> assumption) | (apply qh_cc <;> assumption) | (apply qk_cc <;> assumption) | (apply qd_cc <;> assumption) | (apply qm_cc <;> assumption) | (apply qi_cc <;> assumption) | (apply qa_cc <;> assumption) | (apply qf_cc <;> assumption) | (apply qb_cc <;> assumption) | (apply ql_cc <;> assumption) | (first | (apply is_true; and_intros <;> (first | rfl | assumption | (apply qe_cc <;> assumption) | (apply qh_cc <;> assumption) | (apply qk_cc <;> assumption) | (apply qd_cc <;> assumption) | (apply qm_cc <;> assumption) | (apply qi_cc <;> assumption) | (apply qa_cc <;> assumption) | (apply qf_cc <;> assumption) | (apply qb_cc <;> assumption) | (apply ql_cc <;> assumption) | (first | (apply is_true; and_intros <;> (first | rfl | assumption | (apply qe_cc <;> assumption) | (apply qh_cc <;> assumption) | (apply qk_cc <;> assumption) | (apply qd_cc <;> assumption) | (apply qm_cc <;> assumption) | (apply qi_cc <;> assumption) | (apply qa_cc <;> assumption) | (apply qf_cc <;> assumption) | (apply qb_cc <;> assumption) | (apply ql_cc <;> assumption) | (first | (apply is_true; and_intros <;> (first | rfl | assumption | (apply qe_cc <;> assumption) | (apply qh_cc <;> assumption) | (apply qk_cc <;> assumption) | (apply qd_cc <;> assumption) | (apply qm_cc <;> assumption) | (apply qi_cc <;> assumption) | (apply qa_cc <;> assumption) | (apply qf_cc <;> assumption) | (apply qb_cc <;> assumption) | (apply ql_cc <;> assumption))) | (apply qe_cc <;> assumption) | (apply qh_cc <;> assumption) | (apply qk_cc <;> assumption) | (apply qd_cc <;> assumption) | (apply qm_cc <;> assumption) | (apply qi_cc <;> assumption) | (apply qa_cc <;> assumption) | (apply qf_cc <;> assumption) | (apply qb_cc <;> assumption) | (apply ql_cc <;> assumption)))) | (apply qe_cc <;> assumption) | (apply qh_cc <;> assumption) | (apply qk_cc <;> assumption) | (apply qd_cc <;> assumption) | (apply qm_cc <;> assumption) | (apply qi_cc <;> assumption) | (apply qa_cc <;> assumption) | (apply qf_cc <;> assumption) | (apply qb_cc <;> assumption) | (apply ql_cc <;> assumption)))) | (apply qe_cc <;> assumption) | (apply qh_cc <;> assumption) | (apply qk_cc <;> assumption) | (apply qd_cc <;> assumption) | (apply qm_cc <;> assumption) | (apply qi_cc <;> assumption) | (apply qa_cc <;> assumption) | (apply qf_cc <;> assumption) | (apply qb_cc <;> assumption) | (apply ql_cc <;> assumption)))) | (apply qe_cc <;> assumption) | (apply qh_cc <;> assumption) | (apply qk_cc <;> assumption) | (apply qd_cc <;> assumption) | (apply qm_cc <;> assumption) | (apply qi_cc <;> assumption) | (apply qa_cc <;> assumption) | (apply qf_cc <;> assumption) | (apply qb_cc <;> assumption) | (apply ql_cc <;> assumption)) | simp [*]) ?_
  refine Tr.t (by first | exact (by first | (apply is_true; and_intros <;> (first | rfl | assumption | (apply qe_cc <;> assumption) | (apply qh_cc <;> assumption) | (apply qk_cc <;> assumption) | (apply qd_cc <;> assumption) | (apply qm_cc <;> assumption) | (apply qi_cc <;> assumption) | (apply qa_cc <;> assumption) | (apply qf_cc <;> assumption) | (apply qb_cc <;> assumption) | (apply ql_cc <;> assumption) | (first | (apply is_true; and_intros <;> (first | rfl | assumption | (apply qe_cc <;> assumption) | (apply qh_cc <;> assumption) | (apply qk_cc <;> assumption) | (apply qd_cc <;> assumption) | (apply qm_cc <;> assumption) | (apply qi_cc <;> assumption) | (apply qa_cc <;> assumption) | (apply qf_cc <;> assumption) | (apply qb_cc <;> assumption) | (apply ql_cc <;> assumption) | (first | (apply is_true; and_intros <;> (first | rfl | assumption | (apply qe_cc <;> assumption) | (apply qh_cc <;> assumption) | (apply qk_cc <;> assumption) | (apply qd_cc <;> assumption) | (apply qm_cc <;> assumption) | (apply qi_cc <;> assumption) | (apply qa_cc <;> assumption) | (apply qf_cc <;> assumption) | (apply qb_cc <;> assumption) | (apply ql_cc <;> assumption) | (first | (apply is_true; and_intros <;> (first | rfl | assumption | (apply qe_cc <;> assumption) | (apply qh_cc <;> assumption) | (apply qk_cc <;> assumption) | (apply qd_cc <;> assumption) | (apply qm_cc <;> assumption) | (apply qi_cc <;> assumption) | (apply qa_cc <;> assumption) | (apply qf_cc <;> assumption) | (apply qb_cc <;> assumption) | (apply ql_cc <;> assumption))) | (apply qe_cc <;> assumption) | (apply qh_cc <;> assumption) | (apply qk_cc <;> assumption) | (apply qd_cc <;> assumption) | (apply qm_cc <;> assumption) | (apply qi_cc <;> assumption) | (apply qa_cc <;> assumption) | (apply qf_cc <;> assumption) | (apply qb_cc <;> assumption) | (apply ql_cc <;> assumption)))) | (apply qe_cc <;> assumption) | (apply qh_cc <;> assumption) | (apply qk_cc <;> assumption) | (apply qd_cc <;> assumption) | (apply qm_cc <;> assumption) | (apply qi_cc <;> assumption) | (apply qa_cc <;> assumption) | (apply qf_cc <;> assumption) | (apply qb_cc <;> assumption) | (apply ql_cc <;> assumption)))) | (apply qe_cc <;> assumption) | (apply qh_cc <;> assumption) | (apply qk_cc <;> assumption) | (apply qd_cc <;> assumption) | (apply qm_cc <;> assumption) | (apply qi_cc <;> assumption) | (apply qa_cc <;> assumption) | (apply qf_cc <;> assumption) | (apply qb_cc <;> assumption) | (apply ql_cc <;> assumption)))) | (apply qe_cc <;> assumption) | (apply qh_cc <;> assumption) | (apply qk_cc <;> assumption) | (apply qd_cc <;> assumption) | (apply qm_cc <;> assumption) | (apply qi_cc <;> assumption) | (apply qa_cc <;> assumption) | (apply qf_cc <;> assumption) | (apply qb_cc <;> assumption) | (apply ql_cc <;> assumption)) | simp [*]) ?_
  refine Tr.n (by first | (simp [qp_vm, qo_v2, qq_v]; done) | (simp only [qp_vm, qo_v2, qq_v, decide_eq_true_eq]; omega) | (simp [qp_vm, qo_v2, qq_v]; omega) | (simp (disch := omega) only [qp_vm, qo_v2, qq_v, neg_bif, decide_eq_true_eq]; omega) | (simp (disch := omega) [qp_vm, qo_v2, qq_v, neg_bif]; done)) ?_
  refine Tr.t (by apply qo_cc <;> (first | assumption | omega | (simp only [qp_vm, qo_v2]; omega) | (simp (disch := omega) only [qp_vm, qo_v2, neg_bif]; omega))) ?_
  refine Tr.t (by apply qo_cc <;> (first | assumption | omega | (simp only [qp_vm, qo_v2]; omega) | (simp (disch := omega) only [qp_vm, qo_v2, neg_bif]; omega))) ?_
  refine Tr.t (by apply qo_cc <;> (first | assumption | omega | (simp only [qp_vm, qo_v2]; omega) | (simp (disch := omega) only [qp_vm, qo_v2, neg_bif]; omega))) ?_
  refine Tr.n (by first | (simp [qp_vm, qo_v2, qq_v]; done) | (simp only [qp_vm, qo_v2, qq_v, decide_eq_true_eq]; omega) | (simp [qp_vm, qo_v2, qq_v]; omega) | (simp (disch := omega) only [qp_vm, qo_v2, qq_v, neg_bif, decide_eq_true_eq]; omega) | (simp (disch := omega) [qp_vm, qo_v2, qq_v, neg_bif]; done)) ?_
  refine Tr.t (by first | exact (by first | (apply is_true; and_intros <;> (first | rfl | assumption | (apply qe_cc <;> assumption) | (apply qh_cc <;> assumption) | (apply qk_cc <;> assumption) | (apply qd_cc <;> assumption) | (apply qm_cc <;> assumption) | (apply qi_cc <;> assumption) | (apply qa_cc <;> assumption) | (apply qf_cc <;> assumption) | (apply qb_cc <;> assumption) | (apply ql_cc <;> assumption) | (first | (apply is_true; and_intros <;> (first | rfl | assumption | (apply qe_cc <;> assumption) | (apply qh_cc <;> assumption) | (apply qk_cc <;> assumption) | (apply qd_cc <;> assumption) | (apply qm_cc <;> assumption) | (apply qi_cc <;> assumption) | (apply qa_cc <;> assumption) | (apply qf_cc <;> assumption) | (apply qb_cc <;> assumption) | (apply ql_cc <;> assumption) | (first | (apply is_true; and_intros <;> (first | rfl | assumption | (apply qe_cc <;> assumption) | (apply qh_cc <;> assumption) | (apply qk_cc <;> assumption) | (apply qd_cc <;> assumption) | (apply qm_cc <;> assumption) | (apply qi_cc <;> assumption) | (apply qa_cc <;> assumption) | (apply qf_cc <;> assumption) | (apply qb_cc <;> assumption) | (apply ql_cc <;> assumption) | (first | (apply is_true; and_intros <;> (first | rfl | assumption | (apply qe_cc <;> assumption) | (apply qh_cc <;> assumption) | (apply qk_cc <;> assumption) | (apply qd_cc <;> assumption) | (apply qm_cc <;> assumption) | (apply qi_cc <;> assumption) | (apply qa_cc <;> assumption) | (apply qf_cc <;> assumption) | (apply qb_cc <;> assumption) | (apply ql_cc <;> assumption))) | (apply qe_cc <;> assumption) | (apply qh_cc <;> assumption) | (apply qk_cc <;> assumption) | (apply qd_cc <;> assumption) | (apply qm_cc <;> assumption) | (apply qi_cc <;> assumption) | (apply qa_cc <;> assumption) | (apply qf_cc <;> assumption) | (apply qb_cc <;> assumption) | (apply ql_cc <;> assumption)))) | (apply qe_cc <;> assumption) | (apply qh_cc <;> assumption) | (apply qk_cc <;> assumption) | (apply qd_cc <;> assumption) | (apply qm_cc <;> assumption) | (apply qi_cc <;> assumption) | (apply qa_cc <;> assumption) | (apply qf_cc <;> assumption) | (apply qb_cc <;> assumption) | (apply ql_cc <;> assumption)))) | (apply qe_cc <;> assumption) | (apply qh_cc <;> assumption) | (apply qk_cc <;> assumption) | (apply qd_cc <;> assumption) | (apply qm_cc <;> assumption) | (apply qi_cc <;> assumption) | (apply qa_cc <;> assumption) | (apply qf_cc <;> assumption) | (apply qb_cc <;> assumption) | (apply ql_cc <;> assumption)))) | (apply qe_cc <;> assumption) | (apply qh_cc <;> assumption) | (apply qk_cc <;> assumption) | (apply qd_cc <;> assumption) | (apply qm_cc <;> assumption) | (apply qi_cc <;> assumption) | (apply qa_cc <;> assumption) | (apply qf_cc <;> assumption) | (apply qb_cc <;> assumption) | (apply ql_cc <;> assumption)) | simp [*]) ?_
  refine Tr.n (by first | (simp [qp_vm, qo_v2, qq_v]; done) | (simp only [qp_vm, qo_v2, qq_v, decide_eq_true_eq]; omega) | (simp [qp_vm, qo_v2, qq_v]; omega) | (simp (disch := omega) only [qp_vm, qo_v2, qq_v, neg_bif, decide_eq_true_eq]; omega) | (simp (disch := omega) [qp_vm, qo_v2, qq_v, neg_bif]; done)) ?_
  refine Tr.t (by apply qo_cc <;> (first | assumption | omega | (simp only [qp_vm, qo_v2]; omega) | (simp (disch := omega) only [qp_vm, qo_v2, neg_bif]; omega))) ?_
  refine Tr.t (by apply qp_cc <;> (first | assumption | omega | (simp only [qp_vm, qo_v2]; omega) | (simp (disch := omega) only [qp_vm, qo_v2, neg_bif]; omega))) ?_
  refine Tr.n (by first | (simp [qp_vm, qo_v2, qq_v]; done) | (simp only [qp_vm, qo_v2, qq_v, decide_eq_true_eq]; omega) | (simp [qp_vm, qo_v2, qq_v]; omega) | (simp (disch := omega) only [qp_vm, qo_v2, qq_v, neg_bif, decide_eq_true_eq]; omega) | (simp (disch := omega) [qp_vm, qo_v2, qq_v, neg_bif]; done)) ?_
  refine Tr.n (by first | (simp [qp_vm, qo_v2, qq_v]; done) | (simp only [qp_vm, qo_v2, qq_v, decide_eq_true_eq]; omega) | (simp [qp_vm, qo_v2, qq_v]; omega) | (simp (disch := omega) only [qp_vm, qo_v2, qq_v, neg_bif, decide_eq_true_eq]; omega) | (simp (disch := omega) [qp_vm, qo_v2, qq_v, neg_bif]; done)) ?_
  refine Tr.t (by first | exact (by first | (apply is_true; and_intros <;> (first | rfl | assumption | (apply qe_cc <;> assumption) | (apply qh_cc <;> assumption) | (apply qk_cc <;> assumption) | (apply qd_cc <;> assumption) | (apply qm_cc <;> assumption) | (apply qi_cc <;> assumption) | (apply qa_cc <;> assumption) | (apply qf_cc <;> assumption) | (apply qb_cc <;> assumption) | (apply ql_cc <;> assumption) | (first | (apply is_true; and_intros <;> (first | rfl | assumption | (apply qe_cc <;> assumption) | (apply qh_cc <;> assumption) | (apply qk_cc <;> assumption) | (apply qd_cc <;> assumption) | (apply qm_cc <;> assumption) | (apply qi_cc <;> assumption) | (apply qa_cc <;> assumption) | (apply qf_cc <;> assumption) | (apply qb_cc <;> assumption) | (apply ql_cc <;> assumption) | (first | (apply is_true; and_intros <;> (first | rfl | assumption | (apply qe_cc <;> assumption) | (apply qh_cc <;> assumption) | (apply qk_cc <;> assumption) | (apply qd_cc <;> assumption) | (apply qm_cc <;> assumption) | (apply qi_cc <;> assumption) | (apply qa_cc <;> assumption) | (apply qf_cc <;> assumption) | (apply qb_cc <;> assumption) | (apply ql_cc <;> assumption) | (first | (apply is_true; and_intros <;> (first | rfl | assumption | (apply qe_cc <;> assumption) | (apply qh_cc <;> assumption) | (apply qk_cc <;> assumption) | (apply qd_cc <;> assumption) | (apply qm_cc <;> assumption) | (apply qi_cc <;> assumption) | (apply qa_cc <;> assumption) | (apply qf_cc <;> assumption) | (apply qb_cc <;> assumption) | (apply ql_cc <;> assumption))) | (apply qe_cc <;> assumption) | (apply qh_cc <;> assumption) | (apply qk_cc <;> assumption) | (apply qd_cc <;> assumption) | (apply qm_cc <;> assumption) | (apply qi_cc <;> assumption) | (apply qa_cc <;> assumption) | (apply qf_cc <;> assumption) | (apply qb_cc <;> assumption) | (apply ql_cc <;> assumption)))) | (apply qe_cc <;> assumption) | (apply qh_cc <;> assumption) | (apply qk_cc <;> assumption) | (apply qd_cc <;> assumption) | (apply qm_cc <;> assumption) | (apply qi_cc <;> assumption) | (apply qa_cc <;> assumption) | (apply qf_cc <;> assumption) | (apply qb_cc <;> assumption) | (apply ql_cc <;> assumption)))) | (apply qe_cc <;> assumption) | (apply qh_cc <;> assumption) | (apply qk_cc <;> assumption) | (apply qd_cc <;> assumption) | (apply qm_cc <;> assumption) | (apply qi_cc <;> assumption) | (apply qa_cc <;> assumption) | (apply qf_cc <;> assumption) | (apply qb_cc <;> assumption) | (apply ql_cc <;> assumption)))) | (apply qe_cc <;> assumption) | (apply qh_cc <;> assumption) | (apply qk_cc <;> assumption) | (apply qd_cc <;> assumption) | (apply qm_cc <;> assumption) | (apply qi_cc <;> assumption) | (apply qa_cc <;> assumption) | (apply qf_cc <;> assumption) | (apply qb_cc <;> assumption) | (apply ql_cc <;> assumption)) | simp [*]) ?_
  refine Tr.t (by first | exact (by first | (apply is_true; and_intros <;> (first | rfl | assumption | (apply qe_cc <;> assumption) | (apply qh_cc <;> assumption) | (apply qk_cc <;> assumption) | (apply qd_cc <;> assumption) | (apply qm_cc <;> assumption) | (apply qi_cc <;> assumption) | (apply qa_cc <;> assumption) | (apply qf_cc <;> assumption) | (apply qb_cc <;> assumption) | (apply ql_cc <;> assumption) | (first | (apply is_true; and_intros <;> (first | rfl | assumption | (apply qe_cc <;> assumption) | (apply qh_cc <;> assumption) | (apply qk_cc <;> assumption) | (apply qd_cc <;> assumption) | (apply qm_cc <;> assumption) | (apply qi_cc <;> assumption) | (apply qa_cc <;> assumption) | (apply qf_cc <;> assumption) | (apply qb_cc <;> assumption) | (apply ql_cc <;> assumption) | (first | (apply is_true; and_intros <;> (first | rfl | assumption | (apply qe_cc <;> assumption) | (apply qh_cc <;> assumption) | (apply qk_cc <;> assumption) | (apply qd_cc <;> assumption) | (apply qm_cc <;> assumption) | (apply qi_cc <;> assumption) | (apply qa_cc <;> assumption) | (apply qf_cc <;> assumption) | (apply qb_cc <;> assumption) | (apply ql_cc <;> assumption) | (first | (apply is_true; and_intros <;> (first | rfl | assumption | (apply qe_cc <;> assumption) | (apply qh_cc <;> assumption) | (apply qk_cc <;> assumption) | (apply qd_cc <;> assumption) | (apply qm_cc <;> assumption) | (apply qi_cc <;> assumption) | (apply qa_cc <;> assumption) | (apply qf_cc <;> assumption) | (apply qb_cc <;> assumption) | (apply ql_cc <;> assumption))) | (apply qe_cc <;> assumption) | (apply qh_cc <;> assumption) | (apply qk_cc <;> assumption) | (apply qd_cc <;> assumption) | (apply qm_cc <;> assumption) | (apply qi_cc <;> assumption) | (apply qa_cc <;> assumption) | (apply qf_cc <;> assumption) | (apply qb_cc <;> assumption) | (apply ql_cc <;> assumption)))) | (apply qe_cc <;> assumption) | (apply qh_cc <;> assumption) | (apply qk_cc <;> assumption) | (apply qd_cc <;> assumption) | (apply qm_cc <;> assumption) | (apply qi_cc <;> assumption) | (apply qa_cc <;> assumption) | (apply qf_cc <;> assumption) | (apply qb_cc <;> assumption) | (apply ql_cc <;> assumption)))) | (apply qe_cc <;> assumption) | (apply qh_cc <;> assumption) | (apply qk_cc <;> assumption) | (apply qd_cc <;> assumption) | (apply qm_cc <;> assumption) | (apply qi_cc <;> assumption) | (apply qa_cc <;> assumption) | (apply qf_cc <;> assumption) | (apply qb_cc <;> assumption) | (apply ql_cc <;> assumption)))) | (apply qe_cc <;> assumption) | (apply qh_cc <;> assumption) | (apply qk_cc <;> assumption) | (apply qd_cc <;> assumption) | (apply qm_cc <;> assumption) | (apply qi_cc <;> assumption) | (apply qa_cc <;> assumption) | (apply qf_cc <;> assumption) | (apply qb_cc <;> assumption) | (apply ql_cc <;> assumption)) | simp [*]) ?_
  refine Tr.t (by first | exact (by first | (apply is_true; and_intros <;> (first | rfl | assumption | (apply qe_cc <;> assumption) | (apply qh_cc <;> assumption) | (apply qk_cc <;> assumption) | (apply qd_cc <;> assumption) | (apply qm_cc <;> assumption) | (apply qi_cc <;> assumption) | (apply qa_cc <;> assumption) | (apply qf_cc <;> assumption) | (apply qb_cc <;> assumption) | (apply ql_cc <;> assumption) | (first | (apply is_true; and_intros <;> (first | rfl | assumption | (apply qe_cc <;> assumption) | (apply qh_cc <;> assumption) | (apply qk_cc <;> assumption) | (apply qd_cc <;> assumption) | (apply qm_cc <;> assumption) | (apply qi_cc <;> assumption) | (apply qa_cc <;> assumption) | (apply qf_cc <;> assumption) | (apply qb_cc <;> assumption) | (apply ql_cc <;> assumption) | (first | (apply is_true; and_intros <;> (first | rfl | assumption | (apply qe_cc <;> assumption) | (apply qh_cc <;> assumption) | (apply qk_cc <;> assumption) | (apply qd_cc <;> assumption) | (apply qm_cc <;> assumption) | (apply qi_cc <;> assumption) | (apply qa_cc <;> assumption) | (apply qf_cc <;> assumption) | (apply qb_cc <;> assumption) | (apply ql_cc <;> assumption) | (first | (apply is_true; and_intros <;> (first | rfl | assumption | (apply qe_cc <;> assumption) | (apply qh_cc <;> assumption) | (apply qk_cc <;> assumption) | (apply qd_cc <;> assumption) | (apply qm_cc <;> assumption) | (apply qi_cc <;> assumption) | (apply qa_cc <;> assumption) | (apply qf_cc <;> assumption) | (apply qb_cc <;> assumption) | (apply ql_cc <;> assumption))) | (apply qe_cc <;> assumption) | (apply qh_cc <;> assumption) | (apply qk_cc <;> assumption) | (apply qd_cc <;> assumption) | (apply qm_cc <;> assumption) | (apply qi_cc <;> assumption) | (apply qa_cc <;> assumption) | (apply qf_cc <;> assumption) | (apply qb_cc <;> assumption) | (apply ql_cc <;> assumption)))) | (apply qe_cc <;> assumption) | (apply qh_cc <;> assumption) | (apply qk_cc <;> assumption) | (apply qd_cc <;> assumption) | (apply qm_cc <;> assumption) | (apply qi_cc <;> assumption) | (apply qa_cc <;> assumption) | (apply qf_cc <;> assumption) | (apply qb_cc <;> assumption) | (apply ql_cc <;> assumption)))) | (apply qe_cc <;> assumption) | (apply qh_cc <;> assumption) | (apply qk_cc <;> assumption) | (apply qd_cc <;> assumption) | (apply qm_cc <;> assumption) | (apply qi_cc <;> assumption) | (apply qa_cc <;> assumption) | (apply qf_cc <;> assumption) | (apply qb_cc <;> assumption) | (apply ql_cc <;> assumption)))) | (apply qe_cc <;> assumption) | (apply qh_cc <;> assumption) | (apply qk_cc <;> assumption) | (apply qd_cc <;> assumption) | (apply qm_cc <;> assumption) | (apply qi_cc <;> assumption) | (apply qa_cc <;> assumption) | (apply qf_cc <;> assumption) | (apply qb_cc <;> assumption) | (apply ql_cc <;> assumption)) | simp [*]) ?_
  refine Tr.t (by first | exact (by first | (apply ql_cc <;> assumption) | (first | (apply is_true; and_intros <;> (first | rfl | assumption | (apply qe_cc <;> assumption) | (apply qh_cc <;> assumption) | (apply qk_cc <;> assumption) | (apply qd_cc <;> assumption) | (apply qm_cc <;> assumption) | (apply qi_cc <;> assumption) | (apply qa_cc <;> assumption) | (apply qf_cc <;> assumption) | (apply qb_cc <;> assumption) | (apply ql_cc <;> assumption) | (first | (apply is_true; and_intros <;> (first | rfl | assumption | (apply qe_cc <;> assumption) | (apply qh_cc <;> assumption) | (apply qk_cc <;> assumption) | (apply qd_cc <;> assumption) | (apply qm_cc <;> assumption) | (apply qi_cc <;> assumption) | (apply qa_cc <;> assumption) | (apply qf_cc <;> assumption) | (apply qb_cc <;> assumption) | (apply ql_cc <;> assumption))) | (apply qe_cc <;> assumption) | (apply qh_cc <;> assumption) | (apply qk_cc <;> assumption) | (apply qd_cc <;> assumption) | (apply qm_cc <;> assumption) | (apply qi_cc <;> assumption) | (apply qa_cc <;> assumption) | (apply qf_cc <;> assumption) | (apply qb_cc <;> assumption) | (apply ql_cc <;> assumption)))) | (apply qe_cc <;> assumption) | (apply qh_cc <;> assumption) | (apply qk_cc <;> assumption) | (apply qd_cc <;> assumption) | (apply qm_cc <;> assumption) | (apply qi_cc <;> assumption) | (apply qa_cc <;> assumption) | (apply qf_cc <;> assumption) | (apply qb_cc <;> assumption) | (apply ql_cc <;> assumption))) | simp [*]) ?_
  refine Tr.t (by first | exact (by first | (apply is_true; and_intros <;> (first | rfl | assumption | (apply qe_cc <;> assumption) | (apply qh_cc <;> assumption) | (apply qk_cc <;> assumption) | (apply qd_cc <;> assumption) | (apply qm_cc <;> assumption) | (apply qi_cc <;> assumption) | (apply qa_cc <;> assumption) | (apply qf_cc <;> assumption) | (apply qb_cc <;> assumption) | (apply ql_cc <;> assumption) | (first | (apply is_true; and_intros <;> (first | rfl | assumption | (apply qe_cc <;> assumption) | (apply qh_cc <;> assumption) | (apply qk_cc <;> assumption) | (apply qd_cc <;> assumption) | (apply qm_cc <;> assumption) | (apply qi_cc <;> assumption) | (apply qa_cc <;> assumption) | (apply qf_cc <;> assumption) | (apply qb_cc <;> assumption) | (apply ql_cc <;> assumption) | (first | (apply is_true; and_intros <;> (first | rfl | assumption | (apply qe_cc <;> assumption) | (apply qh_cc <;> assumption) | (apply qk_cc <;> assumption) | (apply qd_cc <;> assumption) | (apply qm_cc <;> assumption) | (apply qi_cc <;> assumption) | (apply qa_cc <;> assumption) | (apply qf_cc <;> assumption) | (apply qb_cc <;> assumption) | (apply ql_cc <;> assumption) | (first | (apply is_true; and_intros <;> (first | rfl | assumption | (apply qe_cc <;> assumption) | (apply qh_cc <;> assumption) | (apply qk_cc <;> assumption) | (apply qd_cc <;> assumption) | (apply qm_cc <;> assumption) | (apply qi_cc <;> assumption) | (apply qa_cc <;> assumption) | (apply qf_cc <;> assumption) | (apply qb_cc <;> assumption) | (apply ql_cc <;> assumption))) | (apply qe_cc <;> assumption) | (apply qh_cc <;> assumption) | (apply qk_cc <;> assumption) | (apply qd_cc <;> assumption) | (apply qm_cc <;> assumption) | (apply qi_cc <;> assumption) | (apply qa_cc <;> assumption) | (apply qf_cc <;> assumption) | (apply qb_cc <;> assumption) | (apply ql_cc <;> assumption)))) | (apply qe_cc <;> assumption) | (apply qh_cc <;> assumption) | (apply qk_cc <;> assumption) | (apply qd_cc <;> assumption) | (apply qm_cc <;> assumption) | (apply qi_cc <;> assumption) | (apply qa_cc <;> assumption) | (apply qf_cc <;> assumption) | (apply qb_cc <;> assumption) | (apply ql_cc <;> assumption)))) | (apply qe_cc <;> assumption) | (apply qh_cc <;> assumption) | (apply qk_cc <;> assumption) | (apply qd_cc <;> assumption) | (apply qm_cc <;> assumption) | (apply qi_cc <;> assumption) | (apply qa_cc <;> assumption) | (apply qf_cc <;> assumption) | (apply qb_cc <;> assumption) | (apply ql_cc <;> assumption)))) | (apply qe_cc <;> assumption) | (apply qh_cc <;> assumption) | (apply qk_cc <;> assumption) | (apply qd_cc <;> assumption) | (apply qm_cc <;> assumption) | (apply qi_cc <;> assumption) | (apply qa_cc <;> assumption) | (apply qf_cc <;> assumption) | (apply qb_cc <;> assumption) | (apply ql_cc <;> assumption)) | simp [*]) ?_
  refine Tr.n (by first | (simp [qp_vm, qo_v2, qq_v]; done) | (simp only [qp_vm, qo_v2, qq_v, decide_eq_true_eq]; omega) | (simp [qp_vm, qo_v2, qq_v]; omega) | (simp (disch := omega) only [qp_vm, qo_v2, qq_v, neg_bif, decide_eq_true_eq]; omega) | (simp (disch := omega) [qp_vm, qo_v2, qq_v, neg_bif]; done)) ?_
  refine Tr.t (by apply qp_cc <;> (first | assumption | omega | (simp only [qp_vm, qo_v2]; omega) | (simp (disch := omega) only [qp_vm, qo_v2, neg_bif]; omega))) ?_
  refine Tr.n (by first | (simp [qp_vm, qo_v2, qq_v]; done) | (simp only [qp_vm, qo_v2, qq_v, decide_eq_true_eq]; omega) | (simp [qp_vm, qo_v2, qq_v]; omega) | (simp (disch := omega) only [qp_vm, qo_v2, qq_v, neg_bif, decide_eq_true_eq]; omega) | (simp (disch := omega) [qp_vm, qo_v2, qq_v, neg_bif]; done)) ?_
  refine Tr.n (by first | (simp [qp_vm, qo_v2, qq_v]; done) | (simp only [qp_vm, qo_v2, qq_v, decide_eq_true_eq]; omega) | (simp [qp_vm, qo_v2, qq_v]; omega) | (simp (disch := omega) only [qp_vm, qo_v2, qq_v, neg_bif, decide_eq_true_eq]; omega) | (simp (disch := omega) [qp_vm, qo_v2, qq_v, neg_bif]; done)) ?_
  rfl
theorem laws_FnExactChunksLost_pure : ∀ xs, ArgsTyped tab [22, 22, 22] xs → runF tab FT D34 live 4 noLoops xs = yes := by
  intro xs h
  cases h with | cons l0 g0 h =>
  obtain ⟨z0_0, rfl⟩ := len_1 l0
  have q0 := g0 0 (by decide)
  have q0 : Typed tab (.slice 2) z0_0 := q0
  obtain ⟨y0, rfl⟩ := typed_slice q0
  cases h with | cons l1 g1 h =>
  obtain ⟨z1_0, rfl⟩ := len_1 l1
  have q1 := g1 0 (by decide)
  have q1 : Typed tab (.slice 2) z1_0 := q1
  obtain ⟨y1, rfl⟩ := typed_slice q1
  cases h with | cons l2 g2 h =>
  obtain ⟨z2_0, rfl⟩ := len_1 l2
  have q2 := g2 0 (by decide)
  have q2 : Typed tab (.slice 2) z2_0 := q2
  obtain ⟨y2, rfl⟩ := typed_slice q2
  cases h
  refine (laws_FnExactChunksLost_e y0 y1 y2).trans ?_
  rw [Tr.run_eq, laws_FnExactChunksLost_p y0 y1 y2 q0 q1 q2]
  rfl
end Go.Proofs.Ytmdbccmbmcgclaa.V
