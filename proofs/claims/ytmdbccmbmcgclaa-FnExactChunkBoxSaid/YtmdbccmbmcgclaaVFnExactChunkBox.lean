/- What the functions of FnExactChunkBox answer. No condition. -/
import Derived.Test.YtmdbccmbmcgclaaVFnExactChunkBoxP1
namespace Go.Proofs.Ytmdbccmbmcgclaa.V
open Go
set_option maxRecDepth 100000
set_option linter.unusedVariables false
set_option linter.unusedSectionVars false
set_option linter.unusedSimpArgs false
set_option maxHeartbeats 2000000
theorem qc_is3 : LoopIs tab FT D26 live 60 qc_lo 0 3 := by
  refine loop_told (sl := qc_3_sl) (step := qc_3_st) (out := qc_3_out) (lor := qc_lo3) (fin := fun x => (qc_3_fin (x.1) (x.2.1) (x.2.2.1) (x.2.2.2))) (fun _ => rfl) ?_ (fun x n => qc_3_r x.1 x.2.1 x.2.2.1 x.2.2.2 n) (fun x ow => qc_3_h x.1 x.2.1 x.2.2.1 x.2.2.2 ow)
  intro s t h
  unfold qc_lo3 at h
  split at h
  · cases h; exact ⟨(_, _, _, _), rfl, rfl⟩
  · cases h
noncomputable def qc_t (D C : LL) (q : Int) : Tr (LL × Bool) := (.ite ((qt_c D C) = true) (.ite ((qr_c (qt_v D C)) = true) (.ite ((qc_k3_1 q (qt_v D C) (qr_v (qt_v D C)) (0 : Int)) = true) (.ite ((qc_o3_2 q (qt_v D C) (qr_v (qt_v D C)) (0 : Int)) = true) (.ok ([], false))
     .no)
    (.ite ((qc_o3_3 q (qt_v D C) (qr_v (qt_v D C)) (0 : Int)) = true) (.ok ((qc_u3_3 q (qt_v D C) (qr_v (qt_v D C)) (0 : Int)), true))
     .no))
   .no)
  .no)
def qc_mk (p : LL × Bool) : Res := [(false, [⟨.slice 2, .own true, TC.l (p.1)⟩]), (false, [⟨.bool, .sh, TC.b (p.2)⟩])]
noncomputable def qc_c (D C : LL) (q : Int) : Bool := ((qt_c D C) && ((qr_c (qt_v D C)) && (bif (qc_k3_1 q (qt_v D C) (qr_v (qt_v D C)) (0 : Int)) then ((qc_o3_2 q (qt_v D C) (qr_v (qt_v D C)) (0 : Int)) && true) else ((qc_o3_3 q (qt_v D C) (qr_v (qt_v D C)) (0 : Int)) && true))))
noncomputable def qc_v (D C : LL) (q : Int) : LL × Bool := (bif (qc_k3_1 q (qt_v D C) (qr_v (qt_v D C)) (0 : Int)) then ([], false) else ((qc_u3_3 q (qt_v D C) (qr_v (qt_v D C)) (0 : Int)), true))
theorem qc_l (D C : LL) (q : Int) : (qc_c D C q) = true → (qc_t D C q).val = some (qc_v D C q) := by
  unfold qc_t qc_v qc_c
  exact fun h => (Tr.gb h fun h => (Tr.gb h fun h => (Tr.ss h (fun h => (Tr.gb h fun h => rfl)) (fun h => (Tr.gb h fun h => rfl)))))
noncomputable def qc_S : List Arg → Option (Bool × Res) := fun xs => match xs with
  | [(false, [(.slice 2, TC.l D)]), (false, [(.slice 2, TC.l C)]), (false, [(.int .i64, TC.i q)])] => some ((qc_c D C q), qc_mk (qc_v D C q))
  | _ => .none
theorem qc_e (D C : LL) (q : Int) : runF tab FT D26 live 60 qc_lo [(false, [(.slice 2, TC.l D)]), (false, [(.slice 2, TC.l C)]), (false, [(.int .i64, TC.i q)])] = (qc_t D C q).run fun p => some (qc_mk p) := by kernel_rfl
theorem qc_s : ∀ xs r, qc_S xs = some (true, r) → runF tab FT D26 live 60 qc_lo xs = some r := by
  intro xs r h
  unfold qc_S at h
  split at h
  · simp only [Option.some.injEq, Prod.mk.injEq] at h
    obtain ⟨h1, rfl⟩ := h
    exact fun_told (qc_e _ _ _) (qc_l _ _ _) h1
  · cases h
noncomputable def D27 : Dt := also D26 60 qc_S
theorem d27 : DOk Go.Proofs.Try.prog tab D27 := d26.also mixed_ok tab_ok names_ok (fnLoops_one (by kernel_rfl) qc_is3) qc_s
theorem qc_cc {D : LL} {C : LL} {q : Int} (hD : Typed tab (.slice 2) (.l D)) (hk : chunkOk D C = true) : (qc_c D C q) = true := by
  unfold qc_c
  refine andT (by have hp := chunkOk_parts hk; exact is_true (p := Typed tab (.slice 2) (.l D) ∧ D.length = C.length ∧ C.all (inR 1 40) = true) ⟨hD, hp.1, hp.2.1⟩) ?_
  refine andT (by exact is_true ⟨rfl, rfl, gridL_ty rfl hD, rfl⟩) ?_
  refine bifT (fun b1 => ?_) (fun b1 => ?_)
  · skip
    refine andT (by exact is_true ⟨rfl, gridL_ty rfl hD, keys_num hk, fun h => prod_pos h⟩) ?_
    rfl
  · skip
    refine andT (by exact is_true ⟨rfl, gridL_ty rfl hD, keys_num hk, fun h => prod_pos h⟩) ?_
    rfl
theorem qc_vv {D C : LL} {q : Int} (hk : chunkOk D C = true) : qc_v D C q = bif hasK (keysG D C) q then (coordsV (List.replicate D.length [TC.i (16 : Int)]) q, true) else ([], false) := by
  show (bif allI (fun j : Nat => !(keyL (coordsV (gridL D C) (j : Int)) == q)) (prodL (gridL D C)).toNat then (([] : LL), false) else (coordsV (gridL D C) ((idxI (fun j : Nat => !(keyL (coordsV (gridL D C) (j : Int)) == q)) (prodL (gridL D C)).toNat : Nat) : Int), true)) = _
  have e : hasK (keysG D C) q = !(allI (fun j : Nat => !(keyL (coordsV (gridL D C) (j : Int)) == q)) (prodL (gridL D C)).toNat) := by rw [keys_all]; rfl
  rw [e]
  cases ha : allI (fun j : Nat => !(keyL (coordsV (gridL D C) (j : Int)) == q)) (prodL (gridL D C)).toNat with
  | true => rfl
  | false =>
    obtain ⟨h1, h2⟩ := keys_idx ha
    have hn := keys_num hk
    have := place_of (G := gridL D C) (i := ((idxI (fun j : Nat => !(keyL (coordsV (gridL D C) (j : Int)) == q)) (prodL (gridL D C)).toNat : Nat) : Int)) (q := q) (by rw [grid_rank hk]; exact dims_rank (chunkOk_parts hk).2.2) (by omega) (by omega) (grid_dims hk (by omega)) h2
    rw [grid_rank hk] at this
    show (_, true) = (_, true)
    rw [this]
abbrev qb_8_σ := LL × LL × LL × LL × LL × LL × LL × Int × Int
abbrev qb_8_ω := (LL × LL × LL × LL)
noncomputable def qb_8_step (D C Z0 Z1 P X Y : LL) (m i : Int) : Tr (qb_8_σ ⊕ qb_8_ω) := (.ite ((decide (i < m)) = true) (.ite ((0 : Int) ≤ i ∧ i < (P.length : Int)) (.ite ((0 : Int) ≤ i ∧ i < (C.length : Int)) (.ite (roomFor (tab 2) (X ++ [[TC.i (IntKind.wrap .i64 ((nth (row P i) 0).int * (nth (row C i) 0).int))]]).length) (.ite ((0 : Int) ≤ i ∧ i < (C.length : Int)) (.ite ((0 : Int) ≤ i ∧ i < (D.length : Int)) (.ite (roomFor (tab 2) (Y ++ [[TC.i (if (nth (row D i) 0).int < (IntKind.wrap .i64 ((IntKind.wrap .i64 ((nth (row P i) 0).int + (1 : Int))) * (nth (row C i) 0).int)) then (nth (row D i) 0).int else (IntKind.wrap .i64 ((IntKind.wrap .i64 ((nth (row P i) 0).int + (1 : Int))) * (nth (row C i) 0).int)))]]).length) (.ok (.inl (D, C, Z0, Z1, P, (X ++ [[TC.i (IntKind.wrap .i64 ((nth (row P i) 0).int * (nth (row C i) 0).int))]]), (Y ++ [[TC.i (if (nth (row D i) 0).int < (IntKind.wrap .i64 ((IntKind.wrap .i64 ((nth (row P i) 0).int + (1 : Int))) * (nth (row C i) 0).int)) then (nth (row D i) 0).int else (IntKind.wrap .i64 ((IntKind.wrap .i64 ((nth (row P i) 0).int + (1 : Int))) * (nth (row C i) 0).int)))]]), m, (IntKind.wrap .i64 (i + (1 : Int))))))
        .no)
       .no)
      .no)
     .no)
    .no)
   .no)
  (.ok (.inr (Z0, Z1, X, Y))))
noncomputable def qb_8_st : qb_8_σ → Tr (qb_8_σ ⊕ qb_8_ω) := fun x => (qb_8_step (x.1) (x.2.1) (x.2.2.1) (x.2.2.2.1) (x.2.2.2.2.1) (x.2.2.2.2.2.1) (x.2.2.2.2.2.2.1) (x.2.2.2.2.2.2.2.1) (x.2.2.2.2.2.2.2.2))
noncomputable def qb_o8_1 (D C Z0 Z1 P X Y : LL) (m i : Int) : Bool := is (X = [] ∧ Y = [] ∧ i = 0 ∧ m = (P.length : Int) ∧ P.length = C.length ∧ P.length = D.length ∧ P.length ≤ 100000 ∧ (∀ j : Nat, j < P.length → 0 ≤ (nth (row P (j : Int)) 0).int ∧ (nth (row P (j : Int)) 0).int < 16 ∧ 1 ≤ (nth (row C (j : Int)) 0).int ∧ (nth (row C (j : Int)) 0).int ≤ 40))
noncomputable def qb_u8_1_2 (D C Z0 Z1 P X Y : LL) (m i : Int) : LL := rowsF (loC C P) P.length
noncomputable def qb_u8_1_3 (D C Z0 Z1 P X Y : LL) (m i : Int) : LL := rowsF (hiC D C P) P.length
noncomputable def qb_8_fin (D C Z0 Z1 P X Y : LL) (m i : Int) : Told qb_8_ω := (.leaf (qb_o8_1 D C Z0 Z1 P X Y m i) (Z0, Z1, (qb_u8_1_2 D C Z0 Z1 P X Y m i), (qb_u8_1_3 D C Z0 Z1 P X Y m i)))
def qb_8_sl (x : qb_8_σ) : List Slot := [⟨.val false [⟨.slice 2, .sh, TC.l (x.1)⟩], ⟨0, 0⟩⟩, ⟨.val false [⟨.slice 2, .sh, TC.l (x.2.1)⟩], ⟨0, 0⟩⟩, ⟨.bx 30 [⟨.slice 2, .own true, TC.l (x.2.2.1)⟩, ⟨.slice 2, .own true, TC.l (x.2.2.2.1)⟩], ⟨0, 0⟩⟩, ⟨.val false [⟨.slice 2, .own true, TC.l (x.2.2.2.2.1)⟩], ⟨0, 0⟩⟩, ⟨.bx 30 [⟨.slice 2, .own true, TC.l (x.2.2.2.2.2.1)⟩, ⟨.slice 2, .own true, TC.l (x.2.2.2.2.2.2.1)⟩], ⟨0, 0⟩⟩, ⟨.al false 8 0 1 ⟨0, 0⟩, ⟨0, 0⟩⟩, ⟨.val false [⟨.int .i64, .sh, TC.i (x.2.2.2.2.2.2.2.1)⟩], ⟨0, 0⟩⟩, ⟨.val false [⟨.int .i64, .sh, TC.i (x.2.2.2.2.2.2.2.2)⟩], ⟨0, 0⟩⟩]
def qb_8_out : qb_8_ω → Ex × List Slot := (fun x => (.exit 0, [⟨.bx 30 [⟨.slice 2, .own true, TC.l (x.1)⟩, ⟨.slice 2, .own true, TC.l (x.2.1)⟩], ⟨0, 0⟩⟩, Slot.none, ⟨.bx 30 [⟨.slice 2, .own true, TC.l (x.2.2.1)⟩, ⟨.slice 2, .own true, TC.l (x.2.2.2)⟩], ⟨0, 0⟩⟩]))
noncomputable def qb_lo8 : List Slot → Option (Told (Ex × List Slot)) := fun s => match s with
  | [⟨.val false [⟨.slice 2, .sh, TC.l D⟩], ⟨0, 0⟩⟩, ⟨.val false [⟨.slice 2, .sh, TC.l C⟩], ⟨0, 0⟩⟩, ⟨.bx 30 [⟨.slice 2, .own true, TC.l Z0⟩, ⟨.slice 2, .own true, TC.l Z1⟩], ⟨0, 0⟩⟩, ⟨.val false [⟨.slice 2, .own true, TC.l P⟩], ⟨0, 0⟩⟩, ⟨.bx 30 [⟨.slice 2, .own true, TC.l X⟩, ⟨.slice 2, .own true, TC.l Y⟩], ⟨0, 0⟩⟩, ⟨.al false 8 0 1 ⟨0, 0⟩, ⟨0, 0⟩⟩, ⟨.val false [⟨.int .i64, .sh, TC.i m⟩], ⟨0, 0⟩⟩, ⟨.val false [⟨.int .i64, .sh, TC.i i⟩], ⟨0, 0⟩⟩] => some (((qb_8_fin D C Z0 Z1 P X Y m i)).map qb_8_out)
  | _ => .none
noncomputable def qb_lo : LoopTeller := fun r s => bif Nat.beq r 8 then qb_lo8 s else .none
theorem qb_8_r (D C Z0 Z1 P X Y : LL) (m i : Int) (fuel : Nat) : rounds (rnd tab FT D27 live 21 qb_lo 0 8) leave (fuel + 1) (qb_8_sl (D, C, Z0, Z1, P, X, Y, m, i)) = ((qb_8_step D C Z0 Z1 P X Y m i)).run (goOn (fun s => rounds (rnd tab FT D27 live 21 qb_lo 0 8) leave fuel (qb_8_sl s)) fun w => some (qb_8_out w)) := by kernel_rfl
theorem qb_8_h (D C Z0 Z1 P X Y : LL) (m i : Int) (ow : qb_8_ω) : ((qb_8_fin D C Z0 Z1 P X Y m i)).val = some ow → ∃ fuel, loopN qb_8_st fuel (D, C, Z0, Z1, P, X, Y, m, i) = some ow := by
  intro h
  refine auto_leaf (R := (Z0, Z1, rowsF (loC C P) P.length, rowsF (hiC D C P) P.length)) (fun ho => ?_) h
  obtain ⟨rfl, rfl, rfl, rfl, hPC, hPD, hlen, hb⟩ := is_iff.1 ho
  have key := loopN_run (step := qb_8_st) (N := P.length) (fun k => (D, C, Z0, Z1, P, rowsF (loC C P) k, rowsF (hiC D C P) k, (P.length : Int), (k : Int))) (w := (Z0, Z1, rowsF (loC C P) P.length, rowsF (hiC D C P) P.length)) (fun k hk => ?_) ?_ P.length 0 (by omega)
  · exact ⟨_, Eq.trans (congrArg (loopN qb_8_st _) (by simp [rowsF])) key⟩
  · show (qb_8_step D C Z0 Z1 P (rowsF (loC C P) k) (rowsF (hiC D C P) k) (P.length : Int) (k : Int)).val = _
    unfold qb_8_step
    have hw : IntKind.wrap .i64 ((IntKind.wrap .i64 ((nth (row P (k : Int)) 0).int + (1 : Int))) * (nth (row C (k : Int)) 0).int) = IntKind.wrap .i64 (loC C P k + (nth (row C (k : Int)) 0).int) := by
      obtain ⟨b1, b2, b3, b4⟩ := hb k hk
      unfold loC
      generalize (nth (row P (k : Int)) 0).int = p at b1 b2
      generalize (nth (row C (k : Int)) 0).int = c at b3 b4
      have m1 : 0 ≤ p * c := Int.mul_nonneg b1 (by omega)
      have m2 : p * c ≤ 16 * 40 := Int.mul_le_mul (by omega) b4 (by omega) (by omega)
      rw [wrap64 (i := p + 1) (by omega) (by omega), wrap64 (i := p * c) (by omega) (by omega), Int.add_mul, Int.one_mul]
    rw [hw]
    refine (Tr.t (by simp; omega) (Tr.t (by constructor <;> omega) (Tr.t (by constructor <;> omega) (Tr.t (by unfold roomFor; simp only [show (tab 2).bytes = 8 from rfl, List.length_append, List.length_singleton, rowsF_len]; omega) (Tr.t (by constructor <;> omega) (Tr.t (by constructor <;> omega) (Tr.t (by unfold roomFor; simp only [show (tab 2).bytes = 8 from rfl, List.length_append, List.length_singleton, rowsF_len]; omega) ?_)))))))
    rw [Tr.val_ok, wrap64 (i := (k : Int) + 1) (by omega) (by omega)]
    show some (Sum.inl (_, _, _, _, _, rowsF (loC C P) k ++ [[TC.i (loC C P k)]], rowsF (hiC D C P) k ++ [[TC.i (hiC D C P k)]], _)) = _
    rw [rowsF_succ, rowsF_succ]
    rfl
  · show (qb_8_step D C Z0 Z1 P (rowsF (loC C P) P.length) (rowsF (hiC D C P) P.length) (P.length : Int) (P.length : Int)).val = _
    unfold qb_8_step
    refine Tr.n (by first | (simp; done) | (simp; omega)) ?_
    rfl
theorem qb_is8 : LoopIs tab FT D27 live 21 qb_lo 0 8 := by
  refine loop_told (sl := qb_8_sl) (step := qb_8_st) (out := qb_8_out) (lor := qb_lo8) (fin := fun x => (qb_8_fin (x.1) (x.2.1) (x.2.2.1) (x.2.2.2.1) (x.2.2.2.2.1) (x.2.2.2.2.2.1) (x.2.2.2.2.2.2.1) (x.2.2.2.2.2.2.2.1) (x.2.2.2.2.2.2.2.2))) (fun _ => rfl) ?_ (fun x n => qb_8_r x.1 x.2.1 x.2.2.1 x.2.2.2.1 x.2.2.2.2.1 x.2.2.2.2.2.1 x.2.2.2.2.2.2.1 x.2.2.2.2.2.2.2.1 x.2.2.2.2.2.2.2.2 n) (fun x ow => qb_8_h x.1 x.2.1 x.2.2.1 x.2.2.2.1 x.2.2.2.2.1 x.2.2.2.2.2.1 x.2.2.2.2.2.2.1 x.2.2.2.2.2.2.2.1 x.2.2.2.2.2.2.2.2 ow)
  intro s t h
  unfold qb_lo8 at h
  split at h
  · cases h; exact ⟨(_, _, _, _, _, _, _, _, _), rfl, rfl⟩
  · cases h
noncomputable def qb_t (D C : LL) (q : Int) : Tr (LL × LL × Bool) := (.ite ((ql_c D C) = true) (.ite ((!(ql_v D C)) = true) (.ok ([], [], false))
   (.ite ((qc_c D C q) = true) (.ite ((!(qc_v D C q).2) = true) (.ok ([], [], false))
     (.ite ((qb_o8_1 D C [] [] ((qc_v D C q).1) [] [] (((qc_v D C q).1).length : Int) (0 : Int)) = true) (.ok ((qb_u8_1_2 D C [] [] ((qc_v D C q).1) [] [] (((qc_v D C q).1).length : Int) (0 : Int)), (qb_u8_1_3 D C [] [] ((qc_v D C q).1) [] [] (((qc_v D C q).1).length : Int) (0 : Int)), true))
      .no))
    .no))
  .no)
def qb_mk (p : LL × LL × Bool) : Res := [(true, [⟨.slice 2, .own true, TC.l (p.1)⟩, ⟨.slice 2, .own true, TC.l (p.2.1)⟩]), (false, [⟨.bool, .sh, TC.b (p.2.2)⟩])]
noncomputable def qb_c (D C : LL) (q : Int) : Bool := ((ql_c D C) && (bif (!(ql_v D C)) then true else ((qc_c D C q) && (bif (!(qc_v D C q).2) then true else ((qb_o8_1 D C [] [] ((qc_v D C q).1) [] [] (((qc_v D C q).1).length : Int) (0 : Int)) && true)))))
noncomputable def qb_v (D C : LL) (q : Int) : LL × LL × Bool := (bif (!(ql_v D C)) then ([], [], false) else (bif (!(qc_v D C q).2) then ([], [], false) else ((qb_u8_1_2 D C [] [] ((qc_v D C q).1) [] [] (((qc_v D C q).1).length : Int) (0 : Int)), (qb_u8_1_3 D C [] [] ((qc_v D C q).1) [] [] (((qc_v D C q).1).length : Int) (0 : Int)), true)))
theorem qb_l (D C : LL) (q : Int) : (qb_c D C q) = true → (qb_t D C q).val = some (qb_v D C q) := by
  unfold qb_t qb_v qb_c
  exact fun h => (Tr.gb h fun h => (Tr.ss h (fun h => rfl) (fun h => (Tr.gb h fun h => (Tr.ss h (fun h => rfl) (fun h => (Tr.gb h fun h => rfl)))))))
noncomputable def qb_S : List Arg → Option (Bool × Res) := fun xs => match xs with
  | [(false, [(.slice 2, TC.l D)]), (false, [(.slice 2, TC.l C)]), (false, [(.int .i64, TC.i q)])] => some ((qb_c D C q), qb_mk (qb_v D C q))
  | _ => .none
theorem qb_e (D C : LL) (q : Int) : runF tab FT D27 live 21 qb_lo [(false, [(.slice 2, TC.l D)]), (false, [(.slice 2, TC.l C)]), (false, [(.int .i64, TC.i q)])] = (qb_t D C q).run fun p => some (qb_mk p) := by kernel_rfl
theorem qb_s : ∀ xs r, qb_S xs = some (true, r) → runF tab FT D27 live 21 qb_lo xs = some r := by
  intro xs r h
  unfold qb_S at h
  split at h
  · simp only [Option.some.injEq, Prod.mk.injEq] at h
    obtain ⟨h1, rfl⟩ := h
    exact fun_told (qb_e _ _ _) (qb_l _ _ _) h1
  · cases h
noncomputable def D28 : Dt := also D27 21 qb_S
theorem d28 : DOk Go.Proofs.Try.prog tab D28 := d27.also mixed_ok tab_ok names_ok (fnLoops_one (by kernel_rfl) qb_is8) qb_s
theorem qb_cc {D : LL} {C : LL} {q : Int} (hD : Typed tab (.slice 2) (.l D)) (hC : Typed tab (.slice 2) (.l C)) : (qb_c D C q) = true := by
  unfold qb_c
  refine andT (by exact ql_cc hD hC) ?_
  refine bifT (fun b1 => ?_) (fun b1 => ?_)
  · skip
    rfl
  · skip
    refine andT (by exact qc_cc hD ((ql_vv _ _).symm.trans (notF b1))) ?_
    refine bifT (fun b2 => ?_) (fun b2 => ?_)
    · skip
      rfl
    · skip
      refine andT (by have hk := (ql_vv _ _).symm.trans (notF b1); have hb2 := notF b2; rw [qc_vv hk] at hb2 ⊢; have hh : hasK (keysG D C) q = true := (by cases hx : hasK (keysG D C) q with | true => rfl | false => rw [hx] at hb2; cases hb2); have hp := chunkOk_parts hk; have hr := dims_rank hp.2.2; rw [hh]; exact is_true ⟨rfl, rfl, rfl, rfl, (by show (coordsV _ _).length = _; rw [coordsV_len, List.length_replicate]; exact hp.1), (by show (coordsV _ _).length = _; rw [coordsV_len, List.length_replicate]), (by show (coordsV _ _).length ≤ _; rw [coordsV_len, List.length_replicate]; omega), box_bounds hk hh⟩) ?_
      rfl
theorem qb_vv (D C : LL) (q : Int) : qb_v D C q = boxV D C q := by
  show (bif !(ql_v D C) then ([], [], false) else (bif !((qc_v D C q).2) then ([], [], false) else ((boxP D C (qc_v D C q).1).1, (boxP D C (qc_v D C q).1).2, true))) = _
  unfold boxV
  rw [ql_vv]
  cases hk : chunkOk D C with
  | false => rfl
  | true =>
    rw [qc_vv hk]
    cases hasK (keysG D C) q <;> rfl
abbrev qo_4_σ := LL × LL × Int
abbrev qo_4_ω := (Unit) ⊕ (Unit)
noncomputable def qo_4_step (A C : LL) (i : Int) : Tr (qo_4_σ ⊕ qo_4_ω) := (.ite ((decide (i < (A.length : Int))) = true) (.ite ((0 : Int) ≤ i ∧ i < (A.length : Int)) (.ite ((0 : Int) ≤ i ∧ i < (C.length : Int)) (.ite ((!((nth (row A i) 0).int == (nth (row C i) 0).int)) = true) (.ok (.inr (.inl ())))
     (.ok (.inl (A, C, (IntKind.wrap .i64 (i + (1 : Int)))))))
    .no)
   .no)
  (.ok (.inr (.inr ()))))
noncomputable def qo_4_st : qo_4_σ → Tr (qo_4_σ ⊕ qo_4_ω) := fun x => (qo_4_step (x.1) (x.2.1) (x.2.2))
noncomputable def qo_o4_1 (A C : LL) (i : Int) : Bool := is (A = C ∧ i = 0 ∧ Typed tab (.slice 2) (.l A))
noncomputable def qo_4_fin (A C : LL) (i : Int) : Told qo_4_ω := (.leaf (qo_o4_1 A C i) (.inr ()))
def qo_4_sl (x : qo_4_σ) : List Slot := [⟨.val false [⟨.slice 2, .sh, TC.l (x.1)⟩], ⟨0, 0⟩⟩, ⟨.val false [⟨.slice 2, .sh, TC.l (x.2.1)⟩], ⟨0, 0⟩⟩, ⟨.val false [⟨.int .i64, .sh, TC.i (x.2.2)⟩], ⟨0, 0⟩⟩]
def qo_4_out : qo_4_ω → Ex × List Slot := (Sum.elim (fun x => (.ret, [⟨.val false [⟨.bool, .sh, TC.b false⟩], ⟨0, 0⟩⟩])) (fun x => (.exit 0, [Slot.none])))
noncomputable def qo_lo4 : List Slot → Option (Told (Ex × List Slot)) := fun s => match s with
  | [⟨.val false [⟨.slice 2, .sh, TC.l A⟩], ⟨0, 0⟩⟩, ⟨.val false [⟨.slice 2, .sh, TC.l C⟩], ⟨0, 0⟩⟩, ⟨.val false [⟨.int .i64, .sh, TC.i i⟩], ⟨0, 0⟩⟩] => some (((qo_4_fin A C i)).map qo_4_out)
  | _ => .none
noncomputable def qo_lo : LoopTeller := fun r s => bif Nat.beq r 4 then qo_lo4 s else .none
theorem qo_4_r (A C : LL) (i : Int) (fuel : Nat) : rounds (rnd tab FT D28 live 15 qo_lo 0 4) leave (fuel + 1) (qo_4_sl (A, C, i)) = ((qo_4_step A C i)).run (goOn (fun s => rounds (rnd tab FT D28 live 15 qo_lo 0 4) leave fuel (qo_4_sl s)) fun w => some (qo_4_out w)) := by kernel_rfl
theorem qo_4_h (A C : LL) (i : Int) (ow : qo_4_ω) : ((qo_4_fin A C i)).val = some ow → ∃ fuel, loopN qo_4_st fuel (A, C, i) = some ow := by
  intro h
  simp only [qo_4_fin, Told.val] at h
  split at h
  · rename_i ho
    obtain ⟨rfl, rfl, ht⟩ := is_iff.1 ho
    cases h
    have hlen : A.length ≤ 140737488351232 := by have := typed_room ht; simp only [show (tab 2).bytes = 8 from rfl] at this; omega
    refine ⟨_, loopN_run (N := A.length) (fun i => (A, A, (i : Int))) (fun i hi => ?_) ?_ A.length 0 (by omega)⟩
    · skip
      show (qo_4_step A A (i : Int)).val = _
      unfold qo_4_step
      refine Tr.t (by simp; omega) ?_
      refine Tr.t (by constructor <;> omega) ?_
      refine Tr.t (by constructor <;> omega) ?_
      refine Tr.n (by simp) ?_
      rw [Tr.val_ok, wrap64 (i := (i : Int) + 1) (by omega) (by omega)]; rfl
    · show (qo_4_step A A (A.length : Int)).val = _
      refine Tr.n (by simp) ?_
      rfl
  · cases h
theorem qo_is4 : LoopIs tab FT D28 live 15 qo_lo 0 4 := by
  refine loop_told (sl := qo_4_sl) (step := qo_4_st) (out := qo_4_out) (lor := qo_lo4) (fin := fun x => (qo_4_fin (x.1) (x.2.1) (x.2.2))) (fun _ => rfl) ?_ (fun x n => qo_4_r x.1 x.2.1 x.2.2 n) (fun x ow => qo_4_h x.1 x.2.1 x.2.2 ow)
  intro s t h
  unfold qo_lo4 at h
  split at h
  · cases h; exact ⟨(_, _, _), rfl, rfl⟩
  · cases h
noncomputable def qo_t (A C : LL) : Tr (Bool) := (.ite ((!((A.length : Int) == (C.length : Int))) = true) (.ok false)
  (.ite ((qo_o4_1 A C (0 : Int)) = true) (.ok true)
   .no))
def qo_mk (p : Bool) : Res := [(false, [⟨.bool, .sh, TC.b p⟩])]
noncomputable def qo_c (A C : LL) : Bool := is (A = C ∧ Typed tab (.slice 2) (.l A))
noncomputable def qo_v (A C : LL) : Bool := true
theorem qo_l (A C : LL) : (qo_c A C) = true → (qo_t A C).val = some (qo_v A C) := by
  intro h
  obtain ⟨rfl, ht⟩ := is_iff.1 h
  unfold qo_t
  refine Tr.n (by simp) ?_
  refine Tr.t (by first | (apply is_true; and_intros <;> (first | rfl | assumption | (apply qe_cc <;> assumption) | (apply qf_cc <;> assumption) | (apply qi_cc <;> assumption) | (apply qn_cc <;> assumption) | (apply qd_cc <;> assumption) | (apply qh_cc <;> assumption) | (apply qg_cc <;> assumption) | (apply ql_cc <;> assumption) | (apply qc_cc <;> assumption) | (apply qb_cc <;> assumption) | (first | (apply is_true; and_intros <;> (first | rfl | assumption | (apply qe_cc <;> assumption) | (apply qf_cc <;> assumption) | (apply qi_cc <;> assumption) | (apply qn_cc <;> assumption) | (apply qd_cc <;> assumption) | (apply qh_cc <;> assumption) | (apply qg_cc <;> assumption) | (apply ql_cc <;> assumption) | (apply qc_cc <;> assumption) | (apply qb_cc <;> assumption) | (first | (apply is_true; and_intros <;> (first | rfl | assumption | (apply qe_cc <;> assumption) | (apply qf_cc <;> assumption) | (apply qi_cc <;> assumption) | (apply qn_cc <;> assumption) | (apply qd_cc <;> assumption) | (apply qh_cc <;> assumption) | (apply qg_cc <;> assumption) | (apply ql_cc <;> assumption) | (apply qc_cc <;> assumption) | (apply qb_cc <;> assumption) | (first | (apply is_true; and_intros <;> (first | rfl | assumption | (apply qe_cc <;> assumption) | (apply qf_cc <;> assumption) | (apply qi_cc <;> assumption) | (apply qn_cc <;> assumption) | (apply qd_cc <;> assumption) | (apply qh_cc <;> assumption) | (apply qg_cc <;> assumption) | (apply ql_cc <;> assumption) | (apply qc_cc <;> assumption) | (apply qb_cc <;> assumption))) | (apply qe_cc <;> assumption) | (apply qf_cc <;> assumption) | (apply qi_cc <;> assumption) | (apply qn_cc <;> assumption) | (apply qd_cc <;> assumption) | (apply qh_cc <;> assumption) | (apply qg_cc <;> assumption) | (apply ql_cc <;> assumption) | (apply qc_cc <;> assumption) | (apply qb_cc <;> assumption)))) | (apply qe_cc <;> assumption) | (apply qf_cc <;> assumption) | (apply qi_cc <;> assumption) | (apply qn_cc <;> assumption) | (apply qd_cc <;> assumption) | (apply qh_cc <;> assumption) | (apply qg_cc <;> assumption) | (apply ql_cc <;> assumption) | (apply qc_cc <;> assumption) | (apply qb_cc <;> assumption)))) | (apply qe_cc <;> assumption) | (apply qf_cc <;> assumption) | (apply qi_cc <;> assumption) | (apply qn_cc <;> assumption) | (apply qd_cc <;> assumption) | (apply qh_cc <;> assumption) | (apply qg_cc <;> assumption) | (apply ql_cc <;> assumption) | (apply qc_cc <;> assumption) | (apply qb_cc <;> assumption)))) | (apply qe_cc <;> assumption) | (apply qf_cc <;> assumption) | (apply qi_cc <;> assumption) | (apply qn_cc <;> assumption) | (apply qd_cc <;> assumption) | (apply qh_cc <;> assumption) | (apply qg_cc <;> assumption) | (apply ql_cc <;> assumption) | (apply qc_cc <;> assumption) | (apply qb_cc <;> assumption)) ?_
  rfl
noncomputable def qo_S : List Arg → Option (Bool × Res) := fun xs => match xs with
  | [(false, [(.slice 2, TC.l A)]), (false, [(.slice 2, TC.l C)])] => some ((qo_c A C), qo_mk (qo_v A C))
  | _ => .none
theorem qo_e (A C : LL) : runF tab FT D28 live 15 qo_lo [(false, [(.slice 2, TC.l A)]), (false, [(.slice 2, TC.l C)])] = (qo_t A C).run fun p => some (qo_mk p) := by kernel_rfl
theorem qo_s : ∀ xs r, qo_S xs = some (true, r) → runF tab FT D28 live 15 qo_lo xs = some r := by
  intro xs r h
  unfold qo_S at h
  split at h
  · simp only [Option.some.injEq, Prod.mk.injEq] at h
    obtain ⟨h1, rfl⟩ := h
    exact fun_told (qo_e _ _) (qo_l _ _) h1
  · cases h
noncomputable def D29 : Dt := also D28 15 qo_S
theorem d29 : DOk Go.Proofs.Try.prog tab D29 := d28.also mixed_ok tab_ok names_ok (fnLoops_one (by kernel_rfl) qo_is4) qo_s
noncomputable def qz_t (x0 x1 y0 y1 : LL) : Tr (Bool) := (.ite ((qo_c x0 y0) = true) (.ite ((!(qo_v x0 y0)) = true) (.ok false)
   (.ite ((qo_c x1 y1) = true) (.ite ((!(qo_v x1 y1)) = true) (.ok false)
     (.ok true))
    .no))
  .no)
def qz_mk (p : Bool) : Res := [(false, [⟨.bool, .sh, TC.b p⟩])]
noncomputable def qz_c (x0 x1 y0 y1 : LL) : Bool := is (x0 = y0 ∧ x1 = y1 ∧ Typed tab (.slice 2) (.l x0) ∧ Typed tab (.slice 2) (.l x1))
noncomputable def qz_v (x0 x1 y0 y1 : LL) : Bool := true
theorem qz_l (x0 x1 y0 y1 : LL) : (qz_c x0 x1 y0 y1) = true → (qz_t x0 x1 y0 y1).val = some (qz_v x0 x1 y0 y1) := by
  intro h
  obtain ⟨rfl, rfl, t0, t1⟩ := is_iff.1 h
  unfold qz_t
  refine Tr.t (by first | (apply is_true; and_intros <;> (first | rfl | assumption | (apply qe_cc <;> assumption) | (apply qf_cc <;> assumption) | (apply qi_cc <;> assumption) | (apply qn_cc <;> assumption) | (apply qd_cc <;> assumption) | (apply qh_cc <;> assumption) | (apply qg_cc <;> assumption) | (apply ql_cc <;> assumption) | (apply qc_cc <;> assumption) | (apply qb_cc <;> assumption) | (first | (apply is_true; and_intros <;> (first | rfl | assumption | (apply qe_cc <;> assumption) | (apply qf_cc <;> assumption) | (apply qi_cc <;> assumption) | (apply qn_cc <;> assumption) | (apply qd_cc <;> assumption) | (apply qh_cc <;> assumption) | (apply qg_cc <;> assumption) | (apply ql_cc <;> assumption) | (apply qc_cc <;> assumption) | (apply qb_cc <;> assumption) | (first | (apply is_true; and_intros <;> (first | rfl | assumption | (apply qe_cc <;> assumption) | (apply qf_cc <;> assumption) | (apply qi_cc <;> assumption) | (apply qn_cc <;> assumption) | (apply qd_cc <;> assumption) | (apply qh_cc <;> assumption) | (apply qg_cc <;> assumption) | (apply ql_cc <;> assumption) | (apply qc_cc <;> assumption) | (apply qb_cc <;> assumption) | (first | (apply is_true; and_intros <;> (first | rfl | assumption | (apply qe_cc <;> assumption) | (apply qf_cc <;> assumption) | (apply qi_cc <;> assumption) | (apply qn_cc <;> assumption) | (apply qd_cc <;> assumption) | (apply qh_cc <;> assumption) | (apply qg_cc <;> assumption) | (apply ql_cc <;> assumption) | (apply qc_cc <;> assumption) | (apply qb_cc <;> assumption))) | (apply qe_cc <;> assumption) | (apply qf_cc <;> assumption) | (apply qi_cc <;> assumption) | (apply qn_cc <;> assumption) | (apply qd_cc <;> assumption) | (apply qh_cc <;> assumption) | (apply qg_cc <;> assumption) | (apply ql_cc <;> assumption) | (apply qc_cc <;> assumption) | (apply qb_cc <;> assumption)))) | (apply qe_cc <;> assumption) | (apply qf_cc <;> assumption) | (apply qi_cc <;> assumption) | (apply qn_cc <;> assumption) | (apply qd_cc <;> assumption) | (apply qh_cc <;> assumption) | (apply qg_cc <;> assumption) | (apply ql_cc <;> assumption) | (apply qc_cc <;> assumption) | (apply qb_cc <;> assumption)))) | (apply qe_cc <;> assumption) | (apply qf_cc <;> assumption) | (apply qi_cc <;> assumption) | (apply qn_cc <;> assumption) | (apply qd_cc <;> assumption) | (apply qh_cc <;> assumption) | (apply qg_cc <;> assumption) | (apply ql_cc <;> assumption) | (apply qc_cc <;> assumption) | (apply qb_cc <;> assumption)))) | (apply qe_cc <;> assumption) | (apply qf_cc <;> assumption) | (apply qi_cc <;> assumption) | (apply qn_cc <;> assumption) | (apply qd_cc <;> assumption) | (apply qh_cc <;> assumption) | (apply qg_cc <;> assumption) | (apply ql_cc <;> assumption) | (apply qc_cc <;> assumption) | (apply qb_cc <;> assumption)) ?_
  refine Tr.n (by simp [qo_v]) ?_
  refine Tr.t (by first | (apply is_true; and_intros <;> (first | rfl | assumption | (apply qe_cc <;> assumption) | (apply qf_cc <;> assumption) | (apply qi_cc <;> assumption) | (apply qn_cc <;> assumption) | (apply qd_cc <;> assumption) | (apply qh_cc <;> assumption) | (apply qg_cc <;> assumption) | (apply ql_cc <;> assumption) | (apply qc_cc <;> assumption) | (apply qb_cc <;> assumption) | (first | (apply is_true; and_intros <;> (first | rfl | assumption | (apply qe_cc <;> assumption) | (apply qf_cc <;> assumption) | (apply qi_cc <;> assumption) | (apply qn_cc <;> assumption) | (apply qd_cc <;> assumption) | (apply qh_cc <;> assumption) | (apply qg_cc <;> assumption) | (apply ql_cc <;> assumption) | (apply qc_cc <;> assumption) | (apply qb_cc <;> assumption) | (first | (apply is_true; and_intros <;> (first | rfl | assumption | (apply qe_cc <;> assumption) | (apply qf_cc <;> assumption) | (apply qi_cc <;> assumption) | (apply qn_cc <;> assumption) | (apply qd_cc <;> assumption) | (apply qh_cc <;> assumption) | (apply qg_cc <;> assumption) | (apply ql_cc <;> assumption) | (apply qc_cc <;> assumption) | (apply qb_cc <;> assumption) | (first | (apply is_true; and_intros <;> (first | rfl | assumption | (apply qe_cc <;> assumption) | (apply qf_cc <;> assumption) | (apply qi_cc <;> assumption) | (apply qn_cc <;> assumption) | (apply qd_cc <;> assumption) | (apply qh_cc <;> assumption) | (apply qg_cc <;> assumption) | (apply ql_cc <;> assumption) | (apply qc_cc <;> assumption) | (apply qb_cc <;> assumption))) | (apply qe_cc <;> assumption) | (apply qf_cc <;> assumption) | (apply qi_cc <;> assumption) | (apply qn_cc <;> assumption) | (apply qd_cc <;> assumption) | (apply qh_cc <;> assumption) | (apply qg_cc <;> assumption) | (apply ql_cc <;> assumption) | (apply qc_cc <;> assumption) | (apply qb_cc <;> assumption)))) | (apply qe_cc <;> assumption) | (apply qf_cc <;> assumption) | (apply qi_cc <;> assumption) | (apply qn_cc <;> assumption) | (apply qd_cc <;> assumption) | (apply qh_cc <;> assumption) | (apply qg_cc <;> assumption) | (apply ql_cc <;> assumption) | (apply qc_cc <;> assumption) | (apply qb_cc <;> assumption)))) | (apply qe_cc <;> assumption) | (apply qf_cc <;> assumption) | (apply qi_cc <;> assumption) | (apply qn_cc <;> assumption) | (apply qd_cc <;> assumption) | (apply qh_cc <;> assumption) | (apply qg_cc <;> assumption) | (apply ql_cc <;> assumption) | (apply qc_cc <;> assumption) | (apply qb_cc <;> assumption)))) | (apply qe_cc <;> assumption) | (apply qf_cc <;> assumption) | (apply qi_cc <;> assumption) | (apply qn_cc <;> assumption) | (apply qd_cc <;> assumption) | (apply qh_cc <;> assumption) | (apply qg_cc <;> assumption) | (apply ql_cc <;> assumption) | (apply qc_cc <;> assumption) | (apply qb_cc <;> assumption)) ?_
  refine Tr.n (by simp [qo_v]) ?_
  rfl
noncomputable def qz_S : List Arg → Option (Bool × Res) := fun xs => match xs with
  | [(true, [(.slice 2, TC.l x0), (.slice 2, TC.l x1)]), (true, [(.slice 2, TC.l y0), (.slice 2, TC.l y1)])] => some ((qz_c x0 x1 y0 y1), qz_mk (qz_v x0 x1 y0 y1))
  | _ => .none
theorem qz_e (x0 x1 y0 y1 : LL) : runF tab FT D29 live 22 noLoops [(true, [(.slice 2, TC.l x0), (.slice 2, TC.l x1)]), (true, [(.slice 2, TC.l y0), (.slice 2, TC.l y1)])] = (qz_t x0 x1 y0 y1).run fun p => some (qz_mk p) := by kernel_rfl
theorem qz_s : ∀ xs r, qz_S xs = some (true, r) → runF tab FT D29 live 22 noLoops xs = some r := by
  intro xs r h
  unfold qz_S at h
  split at h
  · simp only [Option.some.injEq, Prod.mk.injEq] at h
    obtain ⟨h1, rfl⟩ := h
    exact fun_told (qz_e _ _ _ _) (qz_l _ _ _ _) h1
  · cases h
noncomputable def D30 : Dt := also D29 22 qz_S
theorem d30 : DOk Go.Proofs.Try.prog tab D30 := d29.also mixed_ok tab_ok names_ok noLoops_ok qz_s
noncomputable def mkR_2 (k : Int) : List TC := [TC.i k]
theorem mkR_2_len (k : Int) : (mkR_2 k).length = 1 := rfl
noncomputable def mkL_2 (k : Int) (n : Nat) : LL := madeL (fun i => mkR_2 (k + 1 * (i : Int))) n
theorem mkL_2_length {k : Int} {n : Nat} : (mkL_2 k n).length = n := madeL_length
abbrev qj_2_σ := Int × Int × LL
abbrev qj_2_ω := (Int × LL)
noncomputable def qj_2_step (k i : Int) (A : LL) : Tr (qj_2_σ ⊕ qj_2_ω) := (.ite ((decide (i < (A.length : Int))) = true) (.ite ((0 : Int) ≤ i ∧ i < (A.length : Int)) (.ok (.inl ((IntKind.wrap .i64 (k + (1 : Int))), (IntKind.wrap .i64 (i + (1 : Int))), (A.set (i).toNat (splice (row A i) 0 [TC.i k])))))
   .no)
  (.ok (.inr (k, A))))
noncomputable def qj_2_st : qj_2_σ → Tr (qj_2_σ ⊕ qj_2_ω) := fun x => (qj_2_step (x.1) (x.2.1) (x.2.2))
noncomputable def qj_o2_1 (k i : Int) (A : LL) : Bool := is ((∀ x, x ∈ A → x.length = 1) ∧ A.length ≤ 140737488351232 ∧ 0 ≤ k ∧ k ≤ 2305843009213693952 ∧ i = 0)
noncomputable def qj_u2_1_0 (k i : Int) (A : LL) : Int := k + 1 * (A.length : Int)
noncomputable def qj_u2_1_1 (k i : Int) (A : LL) : LL := mkL_2 k A.length
noncomputable def qj_2_fin (k i : Int) (A : LL) : Told qj_2_ω := (.leaf (qj_o2_1 k i A) ((qj_u2_1_0 k i A), (qj_u2_1_1 k i A)))
def qj_2_sl (x : qj_2_σ) : List Slot := [⟨.gal false 0 1, ⟨0, 0⟩⟩, ⟨.val false [⟨.int .i64, .sh, TC.i (x.1)⟩], ⟨0, 0⟩⟩, ⟨.val false [⟨.int .i64, .sh, TC.i (x.2.1)⟩], ⟨0, 0⟩⟩, ⟨.gv [⟨.slice 2, .own true, TC.l (x.2.2)⟩], ⟨0, 0⟩⟩]
def qj_2_out : qj_2_ω → Ex × List Slot := (fun x => (.exit 0, [⟨.val false [⟨.int .i64, .sh, TC.i (x.1)⟩], ⟨0, 0⟩⟩, Slot.none, ⟨.gv [⟨.slice 2, .own true, TC.l (x.2)⟩], ⟨0, 0⟩⟩]))
noncomputable def qj_lo2 : List Slot → Option (Told (Ex × List Slot)) := fun s => match s with
  | [⟨.gal false 0 1, ⟨0, 0⟩⟩, ⟨.val false [⟨.int .i64, .sh, TC.i k⟩], ⟨0, 0⟩⟩, ⟨.val false [⟨.int .i64, .sh, TC.i i⟩], ⟨0, 0⟩⟩, ⟨.gv [⟨.slice 2, .own true, TC.l A⟩], ⟨0, 0⟩⟩] => some (((qj_2_fin k i A)).map qj_2_out)
  | _ => .none
noncomputable def qj_lo : LoopTeller := fun r s => bif Nat.beq r 2 then qj_lo2 s else .none
theorem qj_2_r (k i : Int) (A : LL) (fuel : Nat) : rounds (rnd tab FT D30 live 16 qj_lo 0 2) leave (fuel + 1) (qj_2_sl (k, i, A)) = ((qj_2_step k i A)).run (goOn (fun s => rounds (rnd tab FT D30 live 16 qj_lo 0 2) leave fuel (qj_2_sl s)) fun w => some (qj_2_out w)) := by kernel_rfl
theorem qj_2_h (k i : Int) (A : LL) (ow : qj_2_ω) : ((qj_2_fin k i A)).val = some ow → ∃ fuel, loopN qj_2_st fuel (k, i, A) = some ow := by
  intro h
  refine auto_leaf (R := (k + 1 * (A.length : Int), mkL_2 k A.length)) (fun ho => ?_) h
  obtain ⟨hr, hl, h0, h1, rfl⟩ := is_iff.1 ho
  have key := loopN_over (step := qj_2_st) A 1 (fun i => mkR_2 (k + 1 * (i : Int))) (fun Y i => (k + 1 * (i : Int), (i : Int), Y)) (k + 1 * (A.length : Int), mkL_2 k A.length) hr (fun _ => rfl) (fun Y i hi hY hy => ?_) ?_ A.length 0 (by omega)
  · exact ⟨A.length + 1, Eq.trans (congrArg (loopN qj_2_st (A.length + 1)) (by simp [madeL])) key⟩
  · obtain ⟨kk, hkk⟩ : ∃ kk : Int, kk = k + 1 * (i : Int) := ⟨_, rfl⟩
    have hk0 : 0 ≤ kk := by omega
    have hk1 : kk + 1 ≤ 4611686018427387904 := by omega
    have hy : ∃ y0, row Y (i : Int) = [y0] := len_1 hy
    obtain ⟨y0, hy⟩ := hy
    have hiY : i < Y.length := by omega
    show (qj_2_step (k + 1 * (i : Int)) (i : Int) Y).val = _
    rw [← hkk]
    unfold qj_2_step
    rw [wrap64 (i := kk + 1) (by omega) (by omega)]
    try rw [wrap64 (i := kk) (by omega) (by omega)]
    refine Tr.t (by simp; omega) ?_
    refine Tr.t (by constructor <;> (try simp only [List.length_set]) <;> omega) ?_
    rw [Tr.val_ok, wrap64 (i := (i : Int) + 1) (by omega) (by omega)]
    simp only [Int.toNat_natCast, hy, row_set, List.length_set, hiY, List.set_set]
    show some (Sum.inl (_, _, _)) = some (Sum.inl (_, _, _))
    rw [show k + 1 * ((i + 1 : Nat) : Int) = kk + 1 from by omega]
    rfl
  · show (qj_2_step (k + 1 * (A.length : Int)) (A.length : Int) (mkL_2 k A.length)).val = _
    unfold qj_2_step
    refine Tr.n (by simp [mkL_2_length]) ?_
    rfl
theorem qj_is2 : LoopIs tab FT D30 live 16 qj_lo 0 2 := by
  refine loop_told (sl := qj_2_sl) (step := qj_2_st) (out := qj_2_out) (lor := qj_lo2) (fin := fun x => (qj_2_fin (x.1) (x.2.1) (x.2.2))) (fun _ => rfl) ?_ (fun x n => qj_2_r x.1 x.2.1 x.2.2 n) (fun x ow => qj_2_h x.1 x.2.1 x.2.2 ow)
  intro s t h
  unfold qj_lo2 at h
  split at h
  · cases h; exact ⟨(_, _, _), rfl, rfl⟩
  · cases h
noncomputable def qj_t (A : LL) (k : Int) : Tr (LL × Int) := (.ite ((qj_o2_1 k (0 : Int) A) = true) (.ok ((qj_u2_1_1 k (0 : Int) A), (qj_u2_1_0 k (0 : Int) A)))
  .no)
def qj_mk (p : LL × Int) : Res := [(true, [⟨.slice 2, .own true, TC.l (p.1)⟩]), (false, [⟨.int .i64, .sh, TC.i (p.2)⟩])]
noncomputable def qj_c (A : LL) (k : Int) : Bool := is ((∀ x, x ∈ A → x.length = 1) ∧ A.length ≤ 140737488351232 ∧ 0 ≤ k ∧ k ≤ 2305843009213693952)
noncomputable def qj_v (A : LL) (k : Int) : LL × Int := (mkL_2 k A.length, k + 1 * (A.length : Int))
theorem qj_l (A : LL) (k : Int) : (qj_c A k) = true → (qj_t A k).val = some (qj_v A k) := by
  intro h
  obtain ⟨hr, hl, h0, h1⟩ := is_iff.1 h
  unfold qj_t
  exact Tr.t (is_true ⟨hr, hl, h0, h1, rfl⟩) rfl
noncomputable def qj_S : List Arg → Option (Bool × Res) := fun xs => match xs with
  | [(false, [(.slice 2, TC.l A)]), (false, [(.int .i64, TC.i k)])] => some ((qj_c A k), qj_mk (qj_v A k))
  | _ => .none
theorem qj_e (A : LL) (k : Int) : runFW false tab FT D30 live 16 qj_lo (false, [(.slice 2, TC.l A)]) [(false, [(.int .i64, TC.i k)])] = (qj_t A k).run fun p => some (qj_mk p) := by kernel_rfl
theorem qj_s0 : ∀ ys r, qj_S ys = some (true, r) → ∀ a0 xs, ys = a0 :: xs → runFW false tab FT D30 live 16 qj_lo a0 xs = some r := by
  intro ys r h
  unfold qj_S at h
  split at h
  · simp only [Option.some.injEq, Prod.mk.injEq] at h
    obtain ⟨h1, rfl⟩ := h
    intro a0 xs e
    cases e
    exact fun_toldW (qj_e _ _) (qj_l _ _) h1
  · cases h
theorem qj_s : ∀ a0 xs r, qj_S (a0 :: xs) = some (true, r) → runFW false tab FT D30 live 16 qj_lo a0 xs = some r := fun a0 xs r h => qj_s0 _ r h a0 xs rfl
noncomputable def D31 : Dt := alsoW D30 16 qj_S
theorem d31 : DOk Go.Proofs.Try.prog tab D31 := d30.alsoW mixed_ok tab_ok names_ok (fnLoops_one (by kernel_rfl) qj_is2) qj_s
theorem qj_cc {A : LL} {k : Int} (ht : Typed tab (.slice 2) (.l A)) (hl : A.length ≤ 140737488351232) (h0 : 0 ≤ k) (h1 : k ≤ 2305843009213693952) : qj_c A k = true := is_true ⟨typed_rows ht rfl, hl, h0, h1⟩
theorem qj_v2 {A : LL} {k : Int} : (qj_v A k).2 = k + 1 * (A.length : Int) := rfl
noncomputable def qp_t (A B : LL) (k : Int) : Tr (LL × LL × Int) := (.ite ((qj_c A k) = true) (.ite ((qj_c B ((qj_v A k).2)) = true) (.ok ((qj_v A k).1, (qj_v B ((qj_v A k).2)).1, (qj_v B ((qj_v A k).2)).2))
   .no)
  .no)
def qp_mk (p : LL × LL × Int) : Res := [(true, [⟨.slice 2, .own true, TC.l (p.1)⟩, ⟨.slice 2, .own true, TC.l (p.2.1)⟩]), (false, [⟨.int .i64, .sh, TC.i (p.2.2)⟩])]
noncomputable def qp_c (A B : LL) (k : Int) : Bool := is (((qj_c A k) = true) ∧ ((qj_c B ((qj_v A k).2)) = true))
noncomputable def qp_v (A B : LL) (k : Int) : LL × LL × Int := ((qj_v A k).1, (qj_v B ((qj_v A k).2)).1, (qj_v B ((qj_v A k).2)).2)
theorem qp_l (A B : LL) (k : Int) : (qp_c A B k) = true → (qp_t A B k).val = some (qp_v A B k) := by
  intro h
  obtain ⟨hc0, hc1⟩ := is_iff.1 h
  unfold qp_t
  exact (Tr.t hc0 (Tr.t hc1 rfl))
noncomputable def qp_S : List Arg → Option (Bool × Res) := fun xs => match xs with
  | [(true, [(.slice 2, TC.l A), (.slice 2, TC.l B)]), (false, [(.int .i64, TC.i k)])] => some ((qp_c A B k), qp_mk (qp_v A B k))
  | _ => .none
theorem qp_e (A B : LL) (k : Int) : runFW false tab FT D31 live 23 noLoops (true, [(.slice 2, TC.l A), (.slice 2, TC.l B)]) [(false, [(.int .i64, TC.i k)])] = (qp_t A B k).run fun p => some (qp_mk p) := by kernel_rfl
theorem qp_s0 : ∀ ys r, qp_S ys = some (true, r) → ∀ a0 xs, ys = a0 :: xs → runFW false tab FT D31 live 23 noLoops a0 xs = some r := by
  intro ys r h
  unfold qp_S at h
  split at h
  · simp only [Option.some.injEq, Prod.mk.injEq] at h
    obtain ⟨h1, rfl⟩ := h
    intro a0 xs e
    cases e
    exact fun_toldW (qp_e _ _ _) (qp_l _ _ _) h1
  · cases h
theorem qp_s : ∀ a0 xs r, qp_S (a0 :: xs) = some (true, r) → runFW false tab FT D31 live 23 noLoops a0 xs = some r := fun a0 xs r h => qp_s0 _ r h a0 xs rfl
noncomputable def D32 : Dt := alsoW D31 23 qp_S
theorem d32 : DOk Go.Proofs.Try.prog tab D32 := d31.alsoW mixed_ok tab_ok names_ok noLoops_ok qp_s
theorem qp_ok {A B : LL} (hA : Typed tab (.slice 2) (.l A)) (hB : Typed tab (.slice 2) (.l B)) (hl : A.length ≤ 3) (hl2 : B.length ≤ 3) : qp_c A B 1 = true :=
  is_true ⟨qj_cc hA (by omega) (by omega) (by omega), qj_cc hB (by omega) (by rw [qj_v2]; omega) (by rw [qj_v2]; omega)⟩
abbrev qm_2_σ := LL × Int × Int
abbrev qm_2_ω := (Int) ⊕ (Int)
noncomputable def qm_2_step (A : LL) (k i : Int) : Tr (qm_2_σ ⊕ qm_2_ω) := (.ite ((decide (i < (A.length : Int))) = true) (.ite ((0 : Int) ≤ i ∧ i < (A.length : Int)) (.ite ((!((nth (row A i) 0).int == k)) = true) (.ok (.inr (.inl k)))
    (.ok (.inl (A, (IntKind.wrap .i64 (k + (1 : Int))), (IntKind.wrap .i64 (i + (1 : Int)))))))
   .no)
  (.ok (.inr (.inr k))))
noncomputable def qm_2_st : qm_2_σ → Tr (qm_2_σ ⊕ qm_2_ω) := fun x => (qm_2_step (x.1) (x.2.1) (x.2.2))
noncomputable def qm_o2_1 (A : LL) (k i : Int) : Bool := is (A = mkL_2 k A.length ∧ A.length ≤ 140737488351232 ∧ 0 ≤ k ∧ k ≤ 2305843009213693952 ∧ i = 0)
noncomputable def qm_u2_1 (A : LL) (k i : Int) : Int := k + 1 * (A.length : Int)
noncomputable def qm_2_fin (A : LL) (k i : Int) : Told qm_2_ω := (.leaf (qm_o2_1 A k i) (.inr (qm_u2_1 A k i)))
def qm_2_sl (x : qm_2_σ) : List Slot := [⟨.val false [⟨.slice 2, .sh, TC.l (x.1)⟩], ⟨0, 0⟩⟩, ⟨.val false [⟨.int .i64, .sh, TC.i (x.2.1)⟩], ⟨0, 0⟩⟩, ⟨.val false [⟨.int .i64, .sh, TC.i (x.2.2)⟩], ⟨0, 0⟩⟩]
def qm_2_out : qm_2_ω → Ex × List Slot := (Sum.elim (fun x => (.ret, [⟨.val false [⟨.int .i64, .sh, TC.i x⟩], ⟨0, 0⟩⟩, ⟨.val false [⟨.int .i64, .sh, TC.i (-1 : Int)⟩], ⟨0, 0⟩⟩])) (fun x => (.exit 0, [⟨.val false [⟨.int .i64, .sh, TC.i x⟩], ⟨0, 0⟩⟩, Slot.none])))
noncomputable def qm_lo2 : List Slot → Option (Told (Ex × List Slot)) := fun s => match s with
  | [⟨.val false [⟨.slice 2, .sh, TC.l A⟩], ⟨0, 0⟩⟩, ⟨.val false [⟨.int .i64, .sh, TC.i k⟩], ⟨0, 0⟩⟩, ⟨.val false [⟨.int .i64, .sh, TC.i i⟩], ⟨0, 0⟩⟩] => some (((qm_2_fin A k i)).map qm_2_out)
  | _ => .none
noncomputable def qm_lo : LoopTeller := fun r s => bif Nat.beq r 2 then qm_lo2 s else .none
theorem qm_2_r (A : LL) (k i : Int) (fuel : Nat) : rounds (rnd tab FT D32 live 17 qm_lo 0 2) leave (fuel + 1) (qm_2_sl (A, k, i)) = ((qm_2_step A k i)).run (goOn (fun s => rounds (rnd tab FT D32 live 17 qm_lo 0 2) leave fuel (qm_2_sl s)) fun w => some (qm_2_out w)) := by kernel_rfl
theorem qm_2_h (A : LL) (k i : Int) (ow : qm_2_ω) : ((qm_2_fin A k i)).val = some ow → ∃ fuel, loopN qm_2_st fuel (A, k, i) = some ow := by
  intro h
  refine auto_leaf (R := Sum.inr (k + 1 * (A.length : Int))) (fun ho => ?_) h
  obtain ⟨hA, hl, h0, h1, rfl⟩ := is_iff.1 ho
  have key := loopN_run (step := qm_2_st) (N := A.length) (w := Sum.inr (k + 1 * (A.length : Int))) (fun i => (A, k + 1 * (i : Int), (i : Int))) (fun i hi => ?_) ?_ A.length 0 (by omega)
  · exact ⟨A.length + 1, Eq.trans (congrArg (loopN qm_2_st (A.length + 1)) (by simp)) key⟩
  · obtain ⟨kk, hkk⟩ : ∃ kk : Int, kk = k + 1 * (i : Int) := ⟨_, rfl⟩
    have hk0 : 0 ≤ kk := by omega
    have hk1 : kk + 1 ≤ 4611686018427387904 := by omega
    have hrow : row A (i : Int) = mkR_2 kk := by
      rw [hA]
      unfold mkL_2
      rw [row_madeL hi, hkk]
    show (qm_2_step A (k + 1 * (i : Int)) (i : Int)).val = _
    rw [← hkk]
    unfold qm_2_step
    rw [hrow]
    rw [wrap64 (i := kk + 1) (by omega) (by omega)]
    try rw [wrap64 (i := kk) (by omega) (by omega)]
    refine Tr.t (by simp; omega) ?_
    refine Tr.t (by constructor <;> omega) ?_
    refine Tr.n (by simp [nth, mkR_2, TC.str, TC.int, TC.bool]) ?_
    rw [Tr.val_ok, wrap64 (i := (i : Int) + 1) (by omega) (by omega)]
    show some (Sum.inl (_, _, _)) = some (Sum.inl (_, _, _))
    rw [show k + 1 * ((i + 1 : Nat) : Int) = kk + 1 from by omega]
    rfl
  · show (qm_2_step A (k + 1 * (A.length : Int)) (A.length : Int)).val = _
    unfold qm_2_step
    refine Tr.n (by simp) ?_
    rfl
theorem qm_is2 : LoopIs tab FT D32 live 17 qm_lo 0 2 := by
  refine loop_told (sl := qm_2_sl) (step := qm_2_st) (out := qm_2_out) (lor := qm_lo2) (fin := fun x => (qm_2_fin (x.1) (x.2.1) (x.2.2))) (fun _ => rfl) ?_ (fun x n => qm_2_r x.1 x.2.1 x.2.2 n) (fun x ow => qm_2_h x.1 x.2.1 x.2.2 ow)
  intro s t h
  unfold qm_lo2 at h
  split at h
  · cases h; exact ⟨(_, _, _), rfl, rfl⟩
  · cases h
noncomputable def qm_t (A : LL) (k : Int) : Tr (Int) := (.ite ((qm_o2_1 A k (0 : Int)) = true) (.ok (qm_u2_1 A k (0 : Int)))
  .no)
def qm_mk (p : Int) : Res := [(false, [⟨.int .i64, .sh, TC.i p⟩])]
noncomputable def qm_c (A : LL) (k : Int) : Bool := is (A = mkL_2 k A.length ∧ A.length ≤ 140737488351232 ∧ 0 ≤ k ∧ k ≤ 2305843009213693952)
noncomputable def qm_v (A : LL) (k : Int) : Int := k + 1 * (A.length : Int)
theorem qm_l (A : LL) (k : Int) : (qm_c A k) = true → (qm_t A k).val = some (qm_v A k) := by
  intro h
  obtain ⟨hr, hl, h0, h1⟩ := is_iff.1 h
  unfold qm_t
  exact Tr.t (is_true ⟨hr, hl, h0, h1, rfl⟩) rfl
noncomputable def qm_S : List Arg → Option (Bool × Res) := fun xs => match xs with
  | [(false, [(.slice 2, TC.l A)]), (false, [(.int .i64, TC.i k)])] => some ((qm_c A k), qm_mk (qm_v A k))
  | _ => .none
theorem qm_e (A : LL) (k : Int) : runF tab FT D32 live 17 qm_lo [(false, [(.slice 2, TC.l A)]), (false, [(.int .i64, TC.i k)])] = (qm_t A k).run fun p => some (qm_mk p) := by kernel_rfl
theorem qm_s : ∀ xs r, qm_S xs = some (true, r) → runF tab FT D32 live 17 qm_lo xs = some r := by
  intro xs r h
  unfold qm_S at h
  split at h
  · simp only [Option.some.injEq, Prod.mk.injEq] at h
    obtain ⟨h1, rfl⟩ := h
    exact fun_told (qm_e _ _) (qm_l _ _) h1
  · cases h
noncomputable def D33 : Dt := also D32 17 qm_S
theorem d33 : DOk Go.Proofs.Try.prog tab D33 := d32.also mixed_ok tab_ok names_ok (fnLoops_one (by kernel_rfl) qm_is2) qm_s
theorem qm_cc {A : LL} {k : Int} (hl : A.length ≤ 140737488351232) (h0 : 0 ≤ k) (h1 : k ≤ 2305843009213693952) : qm_c (qj_v A k).1 k = true := is_true ⟨by show mkL_2 k A.length = mkL_2 k (mkL_2 k A.length).length; rw [mkL_2_length], by show (mkL_2 k A.length).length ≤ _; rw [mkL_2_length]; exact hl, h0, h1⟩
theorem qm_vm {A : LL} {k : Int} : qm_v (qj_v A k).1 k = (qj_v A k).2 := by
  show k + 1 * ((mkL_2 k A.length).length : Int) = k + 1 * (A.length : Int)
  rw [mkL_2_length]
noncomputable def qq_t (A B : LL) (k : Int) : Tr (Int) := (.ite ((qm_c A k) = true) (.ite ((decide ((qm_v A k) < (0 : Int))) = true) (.ok (-1 : Int))
   (.ite ((qm_c B (qm_v A k)) = true) (.ite ((decide ((qm_v B (qm_v A k)) < (0 : Int))) = true) (.ok (-1 : Int))
     (.ok (qm_v B (qm_v A k))))
    .no))
  .no)
def qq_mk (p : Int) : Res := [(false, [⟨.int .i64, .sh, TC.i p⟩])]
noncomputable def qq_c (A B : LL) (k : Int) : Bool := ((qm_c A k) && (bif (decide ((qm_v A k) < (0 : Int))) then true else ((qm_c B (qm_v A k)) && (bif (decide ((qm_v B (qm_v A k)) < (0 : Int))) then true else true))))
noncomputable def qq_v (A B : LL) (k : Int) : Int := (bif (decide ((qm_v A k) < (0 : Int))) then (-1 : Int) else (bif (decide ((qm_v B (qm_v A k)) < (0 : Int))) then (-1 : Int) else (qm_v B (qm_v A k))))
theorem qq_l (A B : LL) (k : Int) : (qq_c A B k) = true → (qq_t A B k).val = some (qq_v A B k) := by
  unfold qq_t qq_v qq_c
  exact fun h => (Tr.gb h fun h => (Tr.ss h (fun h => rfl) (fun h => (Tr.gb h fun h => (Tr.ss h (fun h => rfl) (fun h => rfl))))))
noncomputable def qq_S : List Arg → Option (Bool × Res) := fun xs => match xs with
  | [(true, [(.slice 2, TC.l A), (.slice 2, TC.l B)]), (false, [(.int .i64, TC.i k)])] => some ((qq_c A B k), qq_mk (qq_v A B k))
  | _ => .none
theorem qq_e (A B : LL) (k : Int) : runF tab FT D33 live 24 noLoops [(true, [(.slice 2, TC.l A), (.slice 2, TC.l B)]), (false, [(.int .i64, TC.i k)])] = (qq_t A B k).run fun p => some (qq_mk p) := by kernel_rfl
theorem qq_s : ∀ xs r, qq_S xs = some (true, r) → runF tab FT D33 live 24 noLoops xs = some r := by
  intro xs r h
  unfold qq_S at h
  split at h
  · simp only [Option.some.injEq, Prod.mk.injEq] at h
    obtain ⟨h1, rfl⟩ := h
    exact fun_told (qq_e _ _ _) (qq_l _ _ _) h1
  · cases h
noncomputable def D34 : Dt := also D33 24 qq_S
theorem d34 : DOk Go.Proofs.Try.prog tab D34 := d33.also mixed_ok tab_ok names_ok noLoops_ok qq_s
theorem qq_ok {A B : LL} (hl : A.length ≤ 3) (hl2 : B.length ≤ 3) : qq_c (qp_v A B 1).1 (qp_v A B 1).2.1 1 = true ∧ qq_v (qp_v A B 1).1 (qp_v A B 1).2.1 1 = (qp_v A B 1).2.2 ∧ 0 ≤ (qp_v A B 1).2.2 := by
  have e1 : (qj_v A 1).2 = 1 + 1 * (A.length : Int) := qj_v2
  have e2 : (qj_v B (1 + 1 * (A.length : Int))).2 = 1 + 1 * (A.length : Int) + 1 * (B.length : Int) := qj_v2
  have c1 := qm_cc (A := A) (k := 1) (by omega) (by omega) (by omega)
  have c2 := qm_cc (A := B) (k := 1 + 1 * (A.length : Int)) (by omega) (by omega) (by omega)
  have v1 : qm_v (qj_v A 1).1 1 = 1 + 1 * (A.length : Int) := qm_vm
  have v2 : qm_v (qj_v B (1 + 1 * (A.length : Int))).1 (1 + 1 * (A.length : Int)) = 1 + 1 * (A.length : Int) + 1 * (B.length : Int) := qm_vm
  unfold qq_c qq_v qp_v
  simp only [e1, v1, c1, c2, e2, v2]
  rw [decide_eq_false (show ¬ (1 + 1 * (A.length : Int) < 0) by omega), decide_eq_false (show ¬ (1 + 1 * (A.length : Int) + 1 * (B.length : Int) < 0) by omega)]
  exact ⟨rfl, rfl, by omega⟩
noncomputable def laws_FnExactChunkBox_t (x0 x1 : LL) (x2 : Int) : Tr Bool := (.ite ((decide ((x0.length : Int) > (1048576 : Int))) = true) (.ok true)
  (.ite ((decide ((x1.length : Int) > (1048576 : Int))) = true) (.ok true)
   (.ite ((qa_c x0) = true) (.ite ((qa_c x1) = true) (.ite ((qg_c (qa_v x0) (qa_v x1) x2) = true) (.ite ((qa_c x0) = true) (.ite ((qa_c x1) = true) (.ite ((qb_c (qa_v x0) (qa_v x1) x2) = true) (.ite ((qz_c ((qb_v (qa_v x0) (qa_v x1) x2).1) ((qb_v (qa_v x0) (qa_v x1) x2).2.1) ((qg_v (qa_v x0) (qa_v x1) x2).1) ((qg_v (qa_v x0) (qa_v x1) x2).2.1)) = true) (.ite ((!(qz_v ((qb_v (qa_v x0) (qa_v x1) x2).1) ((qb_v (qa_v x0) (qa_v x1) x2).2.1) ((qg_v (qa_v x0) (qa_v x1) x2).1) ((qg_v (qa_v x0) (qa_v x1) x2).2.1))) = true) (.ok false)
           (.ite ((!((qb_v (qa_v x0) (qa_v x1) x2).2.2 == (qg_v (qa_v x0) (qa_v x1) x2).2.2)) = true) (.ok false)
            (.ite ((qa_c x0) = true) (.ite ((qo_c (qa_v x0) (qa_v x0)) = true) (.ite ((!(qo_v (qa_v x0) (qa_v x0))) = true) (.ok false)
               (.ite ((qa_c x1) = true) (.ite ((qo_c (qa_v x1) (qa_v x1)) = true) (.ite ((!(qo_v (qa_v x1) (qa_v x1))) = true) (.ok false)
                  (.ite ((qj_c (qa_v x0) (1 : Int)) = true) (.ite ((qj_c (qa_v x1) ((qj_v (qa_v x0) (1 : Int)).2)) = true) (.ite ((decide ((qj_v (qa_v x1) ((qj_v (qa_v x0) (1 : Int)).2)).2 < (0 : Int))) = true) (.ok false)
                     (.ite ((qz_c ((qb_v (qa_v x0) (qa_v x1) x2).1) ((qb_v (qa_v x0) (qa_v x1) x2).2.1) ((qg_v (qa_v x0) (qa_v x1) x2).1) ((qg_v (qa_v x0) (qa_v x1) x2).2.1)) = true) (.ite ((!(qz_v ((qb_v (qa_v x0) (qa_v x1) x2).1) ((qb_v (qa_v x0) (qa_v x1) x2).2.1) ((qg_v (qa_v x0) (qa_v x1) x2).1) ((qg_v (qa_v x0) (qa_v x1) x2).2.1))) = true) (.ok false)
                       (.ite ((!((qb_v (qa_v x0) (qa_v x1) x2).2.2 == (qg_v (qa_v x0) (qa_v x1) x2).2.2)) = true) (.ok false)
                        (.ite ((qp_c ((qb_v (qa_v x0) (qa_v x1) x2).1) ((qb_v (qa_v x0) (qa_v x1) x2).2.1) (1 : Int)) = true) (.ite ((qq_c ((qp_v ((qb_v (qa_v x0) (qa_v x1) x2).1) ((qb_v (qa_v x0) (qa_v x1) x2).2.1) (1 : Int)).1) ((qp_v ((qb_v (qa_v x0) (qa_v x1) x2).1) ((qb_v (qa_v x0) (qa_v x1) x2).2.1) (1 : Int)).2.1) (1 : Int)) = true) (.ite ((decide ((qq_v ((qp_v ((qb_v (qa_v x0) (qa_v x1) x2).1) ((qb_v (qa_v x0) (qa_v x1) x2).2.1) (1 : Int)).1) ((qp_v ((qb_v (qa_v x0) (qa_v x1) x2).1) ((qb_v (qa_v x0) (qa_v x1) x2).2.1) (1 : Int)).2.1) (1 : Int)) < (0 : Int))) = true) (.ok false)
                           (.ite ((!((qq_v ((qp_v ((qb_v (qa_v x0) (qa_v x1) x2).1) ((qb_v (qa_v x0) (qa_v x1) x2).2.1) (1 : Int)).1) ((qp_v ((qb_v (qa_v x0) (qa_v x1) x2).1) ((qb_v (qa_v x0) (qa_v x1) x2).2.1) (1 : Int)).2.1) (1 : Int)) == (qp_v ((qb_v (qa_v x0) (qa_v x1) x2).1) ((qb_v (qa_v x0) (qa_v x1) x2).2.1) (1 : Int)).2.2)) = true) (.ok false)
                            (.ite ((qa_c x0) = true) (.ite ((qa_c x1) = true) (.ite ((qb_c (qa_v x0) (qa_v x1) x2) = true) (.ite ((qz_c ((qb_v (qa_v x0) (qa_v x1) x2).1) ((qb_v (qa_v x0) (qa_v x1) x2).2.1) ((qg_v (qa_v x0) (qa_v x1) x2).1) ((qg_v (qa_v x0) (qa_v x1) x2).2.1)) = true) (.ite ((!(qz_v ((qb_v (qa_v x0) (qa_v x1) x2).1) ((qb_v (qa_v x0) (qa_v x1) x2).2.1) ((qg_v (qa_v x0) (qa_v x1) x2).1) ((qg_v (qa_v x0) (qa_v x1) x2).2.1))) = true) (.ok false)
                                 (.ite ((!((qb_v (qa_v x0) (qa_v x1) x2).2.2 == (qg_v (qa_v x0) (qa_v x1) x2).2.2)) = true) (.ok false)
                                  (.ite ((qq_c ((qp_v ((qb_v (qa_v x0) (qa_v x1) x2).1) ((qb_v (qa_v x0) (qa_v x1) x2).2.1) (1 : Int)).1) ((qp_v ((qb_v (qa_v x0) (qa_v x1) x2).1) ((qb_v (qa_v x0) (qa_v x1) x2).2.1) (1 : Int)).2.1) (1 : Int)) = true) (.ite ((decide ((qq_v ((qp_v ((qb_v (qa_v x0) (qa_v x1) x2).1) ((qb_v (qa_v x0) (qa_v x1) x2).2.1) (1 : Int)).1) ((qp_v ((qb_v (qa_v x0) (qa_v x1) x2).1) ((qb_v (qa_v x0) (qa_v x1) x2).2.1) (1 : Int)).2.1) (1 : Int)) < (0 : Int))) = true) (.ok false)
                                    (.ite ((!((qq_v ((qp_v ((qb_v (qa_v x0) (qa_v x1) x2).1) ((qb_v (qa_v x0) (qa_v x1) x2).2.1) (1 : Int)).1) ((qp_v ((qb_v (qa_v x0) (qa_v x1) x2).1) ((qb_v (qa_v x0) (qa_v x1) x2).2.1) (1 : Int)).2.1) (1 : Int)) == (qp_v ((qb_v (qa_v x0) (qa_v x1) x2).1) ((qb_v (qa_v x0) (qa_v x1) x2).2.1) (1 : Int)).2.2)) = true) (.ok false)
                                     (.ok true)))
                                   .no)))
                                .no)
                               .no)
                              .no)
                             .no)))
                          .no)
                         .no)))
                      .no))
                    .no)
                   .no))
                 .no)
                .no))
              .no)
             .no)))
          .no)
         .no)
        .no)
       .no)
      .no)
     .no)
    .no)))
noncomputable def laws_FnExactChunkBox_go (ops : List Oper) (σ : St) : St := (runOps tab 119 D34 ops ops σ [] (fun σ' _ => some σ')).getD σ
noncomputable def laws_FnExactChunkBox_K (e : Ex) (σ : St) : Option Res := match e with | .exit _ => .none | _ => resultsOf tab σ [.tmp 6]
noncomputable def laws_FnExactChunkBox_q0 : Code := match bodyOf FT 5 with | .seq _ c => c | _ => .skip
noncomputable def laws_FnExactChunkBox_o0 : List Oper := match bodyOf FT 5 with | .seq (.region _ ops _) _ => ops.toList | _ => []
noncomputable def laws_FnExactChunkBox_z0 (x0 x1 : LL) (x2 : Int) : St := laws_FnExactChunkBox_go laws_FnExactChunkBox_o0 (argsSt [(false, [(.slice 2, TC.l x0)]), (false, [(.slice 2, TC.l x1)]), (false, [(.int .i64, TC.i x2)])])
theorem laws_FnExactChunkBox_w0 (x0 x1 : LL) (x2 : Int) : runF tab FT D34 live 5 noLoops [(false, [(.slice 2, TC.l x0)]), (false, [(.slice 2, TC.l x1)]), (false, [(.int .i64, TC.i x2)])] = runT tab 119 D34 (live 5) noLoops laws_FnExactChunkBox_q0 (laws_FnExactChunkBox_z0 x0 x1 x2) laws_FnExactChunkBox_K := by kernel_rfl
noncomputable def laws_FnExactChunkBox_q1 : Code := match laws_FnExactChunkBox_q0 with | .seq _ c => c | _ => .skip
noncomputable def laws_FnExactChunkBox_i1 : Nat := match laws_FnExactChunkBox_q0 with | .seq (.seq (.region i _ _) _) _ => i | _ => 0
noncomputable def laws_FnExactChunkBox_O1 : Array Oper := match laws_FnExactChunkBox_q0 with | .seq (.seq (.region _ ops _) _) _ => ops | _ => #[]
noncomputable def laws_FnExactChunkBox_o1 : List Oper := laws_FnExactChunkBox_O1.toList
noncomputable def laws_FnExactChunkBox_p1 : Operand := match laws_FnExactChunkBox_q0 with | .seq (.seq _ (.cond c _ _)) _ => c | _ => .const (.bool false)
noncomputable def laws_FnExactChunkBox_z1 (x0 x1 : LL) (x2 : Int) : St := substC (laws_FnExactChunkBox_go laws_FnExactChunkBox_o1 (laws_FnExactChunkBox_z0 x0 x1 x2)) laws_FnExactChunkBox_p1 false
noncomputable def laws_FnExactChunkBox_a1 : Code := match laws_FnExactChunkBox_q0 with | .seq (.seq _ (.cond _ a _)) _ => a | _ => .skip
theorem laws_FnExactChunkBox_r1 (x0 x1 : LL) (x2 : Int) (F : St → Option Res) : runRegion tab 119 D34 laws_FnExactChunkBox_o1 false (laws_FnExactChunkBox_z0 x0 x1 x2) F = F (laws_FnExactChunkBox_go laws_FnExactChunkBox_o1 (laws_FnExactChunkBox_z0 x0 x1 x2)) := by kernel_rfl
theorem laws_FnExactChunkBox_c1 (x0 x1 : LL) (x2 : Int) : condOf (laws_FnExactChunkBox_go laws_FnExactChunkBox_o1 (laws_FnExactChunkBox_z0 x0 x1 x2)) laws_FnExactChunkBox_p1 = some ((decide ((x0.length : Int) > (1048576 : Int)))) := by kernel_rfl
theorem laws_FnExactChunkBox_x1 (x0 x1 : LL) (x2 : Int) : runT tab 119 D34 (live 5) noLoops laws_FnExactChunkBox_a1 (substC (laws_FnExactChunkBox_go laws_FnExactChunkBox_o1 (laws_FnExactChunkBox_z0 x0 x1 x2)) laws_FnExactChunkBox_p1 true) (fun e σ' => match e with | .normal => runT tab 119 D34 (live 5) noLoops laws_FnExactChunkBox_q1 σ' laws_FnExactChunkBox_K | e => laws_FnExactChunkBox_K e σ') = some [(false, [⟨.bool, .sh, .b true⟩])] := by kernel_rfl
theorem laws_FnExactChunkBox_w1 (x0 x1 : LL) (x2 : Int) : runT tab 119 D34 (live 5) noLoops laws_FnExactChunkBox_q0 (laws_FnExactChunkBox_z0 x0 x1 x2) laws_FnExactChunkBox_K = (if (decide ((x0.length : Int) > (1048576 : Int))) = true then some [(false, [⟨.bool, .sh, .b true⟩])] else runT tab 119 D34 (live 5) noLoops laws_FnExactChunkBox_q1 (laws_FnExactChunkBox_z1 x0 x1 x2) laws_FnExactChunkBox_K) :=
  cut_early (q := laws_FnExactChunkBox_q0) (q1 := laws_FnExactChunkBox_q1) (a := laws_FnExactChunkBox_a1) (i := laws_FnExactChunkBox_i1) (ops := laws_FnExactChunkBox_O1) (c := laws_FnExactChunkBox_p1) (d := false) (by kernel_rfl) (laws_FnExactChunkBox_r1 x0 x1 x2) (laws_FnExactChunkBox_c1 x0 x1 x2) (laws_FnExactChunkBox_x1 x0 x1 x2)
noncomputable def laws_FnExactChunkBox_q2 : Code := match laws_FnExactChunkBox_q1 with | .seq _ c => c | _ => .skip
noncomputable def laws_FnExactChunkBox_i2 : Nat := match laws_FnExactChunkBox_q1 with | .seq (.seq (.region i _ _) _) _ => i | _ => 0
noncomputable def laws_FnExactChunkBox_O2 : Array Oper := match laws_FnExactChunkBox_q1 with | .seq (.seq (.region _ ops _) _) _ => ops | _ => #[]
noncomputable def laws_FnExactChunkBox_o2 : List Oper := laws_FnExactChunkBox_O2.toList
noncomputable def laws_FnExactChunkBox_p2 : Operand := match laws_FnExactChunkBox_q1 with | .seq (.seq _ (.cond c _ _)) _ => c | _ => .const (.bool false)
noncomputable def laws_FnExactChunkBox_z2 (x0 x1 : LL) (x2 : Int) : St := substC (laws_FnExactChunkBox_go laws_FnExactChunkBox_o2 (laws_FnExactChunkBox_z1 x0 x1 x2)) laws_FnExactChunkBox_p2 false
noncomputable def laws_FnExactChunkBox_a2 : Code := match laws_FnExactChunkBox_q1 with | .seq (.seq _ (.cond _ a _)) _ => a | _ => .skip
theorem laws_FnExactChunkBox_r2 (x0 x1 : LL) (x2 : Int) (F : St → Option Res) : runRegion tab 119 D34 laws_FnExactChunkBox_o2 false (laws_FnExactChunkBox_z1 x0 x1 x2) F = F (laws_FnExactChunkBox_go laws_FnExactChunkBox_o2 (laws_FnExactChunkBox_z1 x0 x1 x2)) := by kernel_rfl
theorem laws_FnExactChunkBox_c2 (x0 x1 : LL) (x2 : Int) : condOf (laws_FnExactChunkBox_go laws_FnExactChunkBox_o2 (laws_FnExactChunkBox_z1 x0 x1 x2)) laws_FnExactChunkBox_p2 = some ((decide ((x1.length : Int) > (1048576 : Int)))) := by kernel_rfl
theorem laws_FnExactChunkBox_x2 (x0 x1 : LL) (x2 : Int) : runT tab 119 D34 (live 5) noLoops laws_FnExactChunkBox_a2 (substC (laws_FnExactChunkBox_go laws_FnExactChunkBox_o2 (laws_FnExactChunkBox_z1 x0 x1 x2)) laws_FnExactChunkBox_p2 true) (fun e σ' => match e with | .normal => runT tab 119 D34 (live 5) noLoops laws_FnExactChunkBox_q2 σ' laws_FnExactChunkBox_K | e => laws_FnExactChunkBox_K e σ') = some [(false, [⟨.bool, .sh, .b true⟩])] := by kernel_rfl
theorem laws_FnExactChunkBox_w2 (x0 x1 : LL) (x2 : Int) : runT tab 119 D34 (live 5) noLoops laws_FnExactChunkBox_q1 (laws_FnExactChunkBox_z1 x0 x1 x2) laws_FnExactChunkBox_K = (if (decide ((x1.length : Int) > (1048576 : Int))) = true then some [(false, [⟨.bool, .sh, .b true⟩])] else runT tab 119 D34 (live 5) noLoops laws_FnExactChunkBox_q2 (laws_FnExactChunkBox_z2 x0 x1 x2) laws_FnExactChunkBox_K) :=
  cut_early (q := laws_FnExactChunkBox_q1) (q1 := laws_FnExactChunkBox_q2) (a := laws_FnExactChunkBox_a2) (i := laws_FnExactChunkBox_i2) (ops := laws_FnExactChunkBox_O2) (c := laws_FnExactChunkBox_p2) (d := false) (by kernel_rfl) (laws_FnExactChunkBox_r2 x0 x1 x2) (laws_FnExactChunkBox_c2 x0 x1 x2) (laws_FnExactChunkBox_x2 x0 x1 x2)
noncomputable def laws_FnExactChunkBox_t2 (x0 x1 : LL) (x2 : Int) : Tr Bool := (.ite ((qa_c x0) = true) (.ite ((qa_c x1) = true) (.ite ((qg_c (qa_v x0) (qa_v x1) x2) = true) (.ite ((qa_c x0) = true) (.ite ((qa_c x1) = true) (.ite ((qb_c (qa_v x0) (qa_v x1) x2) = true) (.ite ((qz_c ((qb_v (qa_v x0) (qa_v x1) x2).1) ((qb_v (qa_v x0) (qa_v x1) x2).2.1) ((qg_v (qa_v x0) (qa_v x1) x2).1) ((qg_v (qa_v x0) (qa_v x1) x2).2.1)) = true) (.ite ((!(qz_v ((qb_v (qa_v x0) (qa_v x1) x2).1) ((qb_v (qa_v x0) (qa_v x1) x2).2.1) ((qg_v (qa_v x0) (qa_v x1) x2).1) ((qg_v (qa_v x0) (qa_v x1) x2).2.1))) = true) (.ok false)
         (.ite ((!((qb_v (qa_v x0) (qa_v x1) x2).2.2 == (qg_v (qa_v x0) (qa_v x1) x2).2.2)) = true) (.ok false)
          (.ite ((qa_c x0) = true) (.ite ((qo_c (qa_v x0) (qa_v x0)) = true) (.ite ((!(qo_v (qa_v x0) (qa_v x0))) = true) (.ok false)
             (.ite ((qa_c x1) = true) (.ite ((qo_c (qa_v x1) (qa_v x1)) = true) (.ite ((!(qo_v (qa_v x1) (qa_v x1))) = true) (.ok false)
                (.ite ((qj_c (qa_v x0) (1 : Int)) = true) (.ite ((qj_c (qa_v x1) ((qj_v (qa_v x0) (1 : Int)).2)) = true) (.ite ((decide ((qj_v (qa_v x1) ((qj_v (qa_v x0) (1 : Int)).2)).2 < (0 : Int))) = true) (.ok false)
                   (.ite ((qz_c ((qb_v (qa_v x0) (qa_v x1) x2).1) ((qb_v (qa_v x0) (qa_v x1) x2).2.1) ((qg_v (qa_v x0) (qa_v x1) x2).1) ((qg_v (qa_v x0) (qa_v x1) x2).2.1)) = true) (.ite ((!(qz_v ((qb_v (qa_v x0) (qa_v x1) x2).1) ((qb_v (qa_v x0) (qa_v x1) x2).2.1) ((qg_v (qa_v x0) (qa_v x1) x2).1) ((qg_v (qa_v x0) (qa_v x1) x2).2.1))) = true) (.ok false)
                     (.ite ((!((qb_v (qa_v x0) (qa_v x1) x2).2.2 == (qg_v (qa_v x0) (qa_v x1) x2).2.2)) = true) (.ok false)
                      (.ite ((qp_c ((qb_v (qa_v x0) (qa_v x1) x2).1) ((qb_v (qa_v x0) (qa_v x1) x2).2.1) (1 : Int)) = true) (.ite ((qq_c ((qp_v ((qb_v (qa_v x0) (qa_v x1) x2).1) ((qb_v (qa_v x0) (qa_v x1) x2).2.1) (1 : Int)).1) ((qp_v ((qb_v (qa_v x0) (qa_v x1) x2).1) ((qb_v (qa_v x0) (qa_v x1) x2).2.1) (1 : Int)).2.1) (1 : Int)) = true) (.ite ((decide ((qq_v ((qp_v ((qb_v (qa_v x0) (qa_v x1) x2).1) ((qb_v (qa_v x0) (qa_v x1) x2).2.1) (1 : Int)).1) ((qp_v ((qb_v (qa_v x0) (qa_v x1) x2).1) ((qb_v (qa_v x0) (qa_v x1) x2).2.1) (1 : Int)).2.1) (1 : Int)) < (0 : Int))) = true) (.ok false)
                         (.ite ((!((qq_v ((qp_v ((qb_v (qa_v x0) (qa_v x1) x2).1) ((qb_v (qa_v x0) (qa_v x1) x2).2.1) (1 : Int)).1) ((qp_v ((qb_v (qa_v x0) (qa_v x1) x2).1) ((qb_v (qa_v x0) (qa_v x1) x2).2.1) (1 : Int)).2.1) (1 : Int)) == (qp_v ((qb_v (qa_v x0) (qa_v x1) x2).1) ((qb_v (qa_v x0) (qa_v x1) x2).2.1) (1 : Int)).2.2)) = true) (.ok false)
                          (.ite ((qa_c x0) = true) (.ite ((qa_c x1) = true) (.ite ((qb_c (qa_v x0) (qa_v x1) x2) = true) (.ite ((qz_c ((qb_v (qa_v x0) (qa_v x1) x2).1) ((qb_v (qa_v x0) (qa_v x1) x2).2.1) ((qg_v (qa_v x0) (qa_v x1) x2).1) ((qg_v (qa_v x0) (qa_v x1) x2).2.1)) = true) (.ite ((!(qz_v ((qb_v (qa_v x0) (qa_v x1) x2).1) ((qb_v (qa_v x0) (qa_v x1) x2).2.1) ((qg_v (qa_v x0) (qa_v x1) x2).1) ((qg_v (qa_v x0) (qa_v x1) x2).2.1))) = true) (.ok false)
                               (.ite ((!((qb_v (qa_v x0) (qa_v x1) x2).2.2 == (qg_v (qa_v x0) (qa_v x1) x2).2.2)) = true) (.ok false)
                                (.ite ((qq_c ((qp_v ((qb_v (qa_v x0) (qa_v x1) x2).1) ((qb_v (qa_v x0) (qa_v x1) x2).2.1) (1 : Int)).1) ((qp_v ((qb_v (qa_v x0) (qa_v x1) x2).1) ((qb_v (qa_v x0) (qa_v x1) x2).2.1) (1 : Int)).2.1) (1 : Int)) = true) (.ite ((decide ((qq_v ((qp_v ((qb_v (qa_v x0) (qa_v x1) x2).1) ((qb_v (qa_v x0) (qa_v x1) x2).2.1) (1 : Int)).1) ((qp_v ((qb_v (qa_v x0) (qa_v x1) x2).1) ((qb_v (qa_v x0) (qa_v x1) x2).2.1) (1 : Int)).2.1) (1 : Int)) < (0 : Int))) = true) (.ok false)
                                  (.ite ((!((qq_v ((qp_v ((qb_v (qa_v x0) (qa_v x1) x2).1) ((qb_v (qa_v x0) (qa_v x1) x2).2.1) (1 : Int)).1) ((qp_v ((qb_v (qa_v x0) (qa_v x1) x2).1) ((qb_v (qa_v x0) (qa_v x1) x2).2.1) (1 : Int)).2.1) (1 : Int)) == (qp_v ((qb_v (qa_v x0) (qa_v x1) x2).1) ((qb_v (qa_v x0) (qa_v x1) x2).2.1) (1 : Int)).2.2)) = true) (.ok false)
                                   (.ok true)))
                                 .no)))
                              .no)
                             .no)
                            .no)
                           .no)))
                        .no)
                       .no)))
                    .no))
                  .no)
                 .no))
               .no)
              .no))
            .no)
           .no)))
        .no)
       .no)
      .no)
     .no)
    .no)
   .no)
  .no)
theorem laws_FnExactChunkBox_eb (x0 x1 : LL) (x2 : Int) : runT tab 119 D34 (live 5) noLoops laws_FnExactChunkBox_q2 (laws_FnExactChunkBox_z2 x0 x1 x2) laws_FnExactChunkBox_K = (laws_FnExactChunkBox_t2 x0 x1 x2).run fun p => some [(false, [⟨.bool, .sh, .b p⟩])] := by kernel_rfl
theorem laws_FnExactChunkBox_e (x0 x1 : LL) (x2 : Int) : runF tab FT D34 live 5 noLoops [(false, [(.slice 2, TC.l x0)]), (false, [(.slice 2, TC.l x1)]), (false, [(.int .i64, TC.i x2)])] = (laws_FnExactChunkBox_t x0 x1 x2).run fun p => some [(false, [⟨.bool, .sh, .b p⟩])] := by
  rw [laws_FnExactChunkBox_w0, laws_FnExactChunkBox_w1, laws_FnExactChunkBox_w2, laws_FnExactChunkBox_eb]
  rfl
theorem laws_FnExactChunkBox_p (x0 x1 : LL) (x2 : Int) (h0 : Typed tab (.slice 2) (.l x0)) (h1 : Typed tab (.slice 2) (.l x1)) (h2 : Typed tab (.int .i64) (.i x2)) : (laws_FnExactChunkBox_t x0 x1 x2).val = some true := by
  have t0_2 := qa_ty h0
  have t1_2 := qa_ty h1
  have hr0 := typed_room t0_2
  have hr1 := typed_room t1_2
  simp only [show (tab 2).bytes = 8 from rfl] at hr0 hr1
  obtain ⟨hb1, hb2, hb3, hb4⟩ := boxV_ok (C := List.map qa_g x1) (q := x2) t0_2
  obtain ⟨hq1, hq2, hq3⟩ := qq_ok hb3 hb4
  unfold laws_FnExactChunkBox_t
  simp only [qg_vv, qb_vv, qa_v]
  refine Tr.y ?_
  refine Tr.y ?_
  refine Tr.t (by first | exact (by first | (apply is_true; and_intros <;> (first | rfl | assumption | (apply qe_cc <;> assumption) | (apply qf_cc <;> assumption) | (apply qi_cc <;> assumption) | (apply qn_cc <;> assumption) | (apply qd_cc <;> assumption) | (apply qh_cc <;> assumption) | (apply qg_cc <;> assumption) | (apply ql_cc <;> assumption) | (apply qc_cc <;> assumption) | (apply qb_cc <;> assumption) | (first | (apply is_true; and_intros <;> (first | rfl | assumption | (apply qe_cc <;> assumption) | (apply qf_cc <;> assumption) | (apply qi_cc <;> assumption) | (apply qn_cc <;> assumption) | (apply qd_cc <;> assumption) | (apply qh_cc <;> assumption) | (apply qg_cc <;> assumption) | (apply ql_cc <;> assumption) | (apply qc_cc <;> assumption) | (apply qb_cc <;> assumption) | (first | (apply is_true; and_intros <;> (first | rfl | assumption | (apply qe_cc <;> assumption) | (apply qf_cc <;> assumption) | (apply qi_cc <;> assumption) | (apply qn_cc <;> assumption) | (apply qd_cc <;> assumption) | (apply qh_cc <;> assumption) | (apply qg_cc <;> assumption) | (apply ql_cc <;> assumption) | (apply qc_cc <;> assumption) | (apply qb_cc <;> assumption) | (first | (apply is_true; and_intros <;> (first | rfl | assumption | (apply qe_cc <;> assumption) | (apply qf_cc <;> assumption) | (apply qi_cc <;> assumption) | (apply qn_cc <;> assumption) | (apply qd_cc <;> assumption) | (apply qh_cc <;> assumption) | (apply qg_cc <;> assumption) | (apply ql_cc <;> assumption) | (apply qc_cc <;> assumption) | (apply qb_cc <;> assumption))) | (apply qe_cc <;> assumption) | (apply qf_cc <;> assumption) | (apply qi_cc <;> assumption) | (apply qn_cc <;> assumption) | (apply qd_cc <;> assumption) | (apply qh_cc <;> assumption) | (apply qg_cc <;> assumption) | (apply ql_cc <;> assumption) | (apply qc_cc <;> assumption) | (apply qb_cc <;> assumption)))) | (apply qe_cc <;> assumption) | (apply qf_cc <;> assumption) | (apply qi_cc <;> assumption) | (apply qn_cc <;> assumption) | (apply qd_cc <;> assumption) | (apply qh_cc <;> assumption) | (apply qg_cc <;> assumption) | (apply ql_cc <;> assumption) | (apply qc_cc <;> assumption) | (apply qb_cc <;> assumption)))) | (apply qe_cc <;> assumption) | (apply qf_cc <;> assumption) | (apply qi_cc <;> assumption) | (apply qn_cc <;> assumption) | (apply qd_cc <;> assumption) | (apply qh_cc <;> assumption) | (apply qg_cc <;> assumption) | (apply ql_cc <;> assumption) | (apply qc_cc <;> assumption) | (apply qb_cc <;> assumption)))) | (apply qe_cc <;> assumption) | (apply qf_cc <;> assumption) | (apply qi_cc <;> assumption) | (apply qn_cc <;> assumption) | (apply qd_cc <;> assumption) | (apply qh_cc <;> assumption) | (apply qg_cc <;> assumption) | (apply ql_cc <;> assumption) | (apply qc_cc <;> assumption) | (apply qb_cc <;> assumption)) | simp [*]) ?_
  refine Tr.t (by first | exact (by first | (apply is_true; and_intros <;> (first | rfl | assumption | (apply qe_cc <;> assumption) | (apply qf_cc <;> assumption) | (apply qi_cc <;> assumption) | (apply qn_cc <;> assumption) | (apply qd_cc <;> assumption) | (apply qh_cc <;> assumption) | (apply qg_cc <;> assumption) | (apply ql_cc <;> assumption) | (apply qc_cc <;> assumption) | (apply qb_cc <;> assumption) | (first | (apply is_true; and_intros <;> (first | rfl | assumption | (apply qe_cc <;> assumption) | (apply qf_cc <;> assumption) | (apply qi_cc <;> assumption) | (apply qn_cc <;> assumption) | (apply qd_cc <;> assumption) | (apply qh_cc <;> assumption) | (apply qg_cc <;> assumption) | (apply ql_cc <;> assumption) | (apply qc_cc <;> assumption) | (apply qb_cc <;> assumption) | (first | (apply is_true; and_intros <;> (first | rfl | assumption | (apply qe_cc <;> assumption) | (apply qf_cc <;> assumption) | (apply qi_cc <;> assumption) | (apply qn_cc <;> assumption) | (apply qd_cc <;> assumption) | (apply qh_cc <;> assumption) | (apply qg_cc <;> assumption) | (apply ql_cc <;> assumption) | (apply qc_cc <;> assumption) | (apply qb_cc <;> assumption) | (first | (apply is_true; and_intros <;> (first | rfl | assumption | (apply qe_cc <;> assumption) | (apply qf_cc <;> assumption) | (apply qi_cc <;> assumption) | (apply qn_cc <;> assumption) | (apply qd_cc <;> assumption) | (apply qh_cc <;> assumption) | (apply qg_cc <;> assumption) | (apply ql_cc <;> assumption) | (apply qc_cc <;> assumption) | (apply qb_cc <;> assumption))) | (apply qe_cc <;> assumption) | (apply qf_cc <;> assumption) | (apply qi_cc <;> assumption) | (apply qn_cc <;> assumption) | (apply qd_cc <;> assumption) | (apply qh_cc <;> assumption) | (apply qg_cc <;> assumption) | (apply ql_cc <;> assumption) | (apply qc_cc <;> assumption) | (apply qb_cc <;> assumption)))) | (apply qe_cc <;> assumption) | (apply qf_cc <;> assumption) | (apply qi_cc <;> assumption) | (apply qn_cc <;> assumption) | (apply qd_cc <;> assumption) | (apply qh_cc <;> assumption) | (apply qg_cc <;> assumption) | (apply ql_cc <;> assumption) | (apply qc_cc <;> assumption) | (apply qb_cc <;> assumption)))) | (apply qe_cc <;> assumption) | (apply qf_cc <;> assumption) | (apply qi_cc <;> assumption) | (apply qn_cc <;> assumption) | (apply qd_cc <;> assumption) | (apply qh_cc <;> assumption) | (apply qg_cc <;> assumption) | (apply ql_cc <;> assumption) | (apply qc_cc <;> assumption) | (apply qb_cc <;> assumption)))) | (apply qe_cc <;> assumption) | (apply qf_cc <;> assumption) | (apply qi_cc <;> assumption) | (apply qn_cc <;> assumption) | (apply qd_cc <;> assumption) | (apply qh_cc <;> assumption) | (apply qg_cc <;> assumption) | (apply ql_cc <;> assumption) | (apply qc_cc <;> assumption) | (apply qb_cc <;> assumption)) | simp [*]) ?_
  refine Tr.t (by first | exact (by first | (apply qg_cc <;> assumption) | (first | (apply is_true; and_intros <;> (first | rfl | assumption | (apply qe_cc <;> assumption) | (apply qf_cc <;> assumption) | (apply qi_cc <;> assumption) | (apply qn_cc <;> assumption) | (apply qd_cc <;> assumption) | (apply qh_cc <;> assumption) | (apply qg_cc <;> assumption) | (apply ql_cc <;> assumption) | (apply qc_cc <;> assumption) | (apply qb_cc <;> assumption) | (first | (apply is_true; and_intros <;> (first | rfl | assumption | (apply qe_cc <;> assumption) | (apply qf_cc <;> assumption) | (apply qi_cc <;> assumption) | (apply qn_cc <;> assumption) | (apply qd_cc <;> assumption) | (apply qh_cc <;> assumption) | (apply qg_cc <;> assumption) | (apply ql_cc <;> assumption) | (apply qc_cc <;> assumption) | (apply qb_cc <;> assumption))) | (apply qe_cc <;> assumption) | (apply qf_cc <;> assumption) | (apply qi_cc <;> assumption) | (apply qn_cc <;> assumption) | (apply qd_cc <;> assumption) | (apply qh_cc <;> assumption) | (apply qg_cc <;> assumption) | (apply ql_cc <;> assumption) | (apply qc_cc <;> assumption) | (apply qb_cc <;> assumption)))) | (apply qe_cc <;> assumption) | (apply qf_cc <;> assumption) | (apply qi_cc <;> assumption) | (apply qn_cc <;> assumption) | (apply qd_cc <;> assumption) | (apply qh_cc <;> assumption) | (apply qg_cc <;> assumption) | (apply ql_cc <;> assumption) | (apply qc_cc <;> assumption) | (apply qb_cc <;> assumption))) | simp [*]) ?_
  refine Tr.t (by first | exact (by first | (apply is_true; and_intros <;> (first | rfl | assumption | (apply qe_cc <;> assumption) | (apply qf_cc <;> assumption) | (apply qi_cc <;> assumption) | (apply qn_cc <;> assumption) | (apply qd_cc <;> assumption) | (apply qh_cc <;> assumption) | (apply qg_cc <;> assumption) | (apply ql_cc <;> assumption) | (apply qc_cc <;> assumption) | (apply qb_cc <;> assumption) | (first | (apply is_true; and_intros <;> (first | rfl | assumption | (apply qe_cc <;> assumption) | (apply qf_cc <;> assumption) | (apply qi_cc <;> assumption) | (apply qn_cc <;> assumption) | (apply qd_cc <;> assumption) | (apply qh_cc <;> assumption) | (apply qg_cc <;> assumption) | (apply ql_cc <;> assumption) | (apply qc_cc <;> assumption) | (apply qb_cc <;> assumption) | (first | (apply is_true; and_intros <;> (first | rfl | assumption | (apply qe_cc <;> assumption) | (apply qf_cc <;> assumption) | (apply qi_cc <;> assumption) | (apply qn_cc <;> assumption) | (apply qd_cc <;> assumption) | (apply qh_cc <;> assumption) | (apply qg_cc <;> assumption) | (apply ql_cc <;> assumption) | (apply qc_cc <;> assumption) | (apply qb_cc <;> assumption) | (first | (apply is_true; and_intros <;> (first | rfl | assumption | (apply qe_cc <;> assumption) | (apply qf_cc <;> assumption) | (apply qi_cc <;> assumption) | (apply qn_cc <;> assumption) | (apply qd_cc <;> assumption) | (apply qh_cc <;> assumption) | (apply qg_cc <;> assumption) | (apply ql_cc <;> assumption) | (apply qc_cc <;> assumption) | (apply qb_cc <;> assumption))) | (apply qe_cc <;> assumption) | (apply qf_cc <;> assumption) | (apply qi_cc <;> assumption) | (apply qn_cc <;> assumption) | (apply qd_cc <;> assumption) | (apply qh_cc <;> assumption) | (apply qg_cc <;> assumption) | (apply ql_cc <;> assumption) | (apply qc_cc <;> assumption) | (apply qb_cc <;> assumption)))) | (apply qe_cc <;> assumption) | (apply qf_cc <;> assumption) | (apply qi_cc <;> assumption) | (apply qn_cc <;> assumption) | (apply qd_cc <;> assumption) | (apply qh_cc <;> assumption) | (apply qg_cc <;> assumption) | (apply ql_cc <;> assumption) | (apply qc_cc <;> assumption) | (apply qb_cc <;> assumption)))) | (apply qe_cc <;> assumption) | (apply qf_cc <;> assumption) | (apply qi_cc <;> assumption) | (apply qn_cc <;> assumption) | (apply qd_cc <;> assumption) | (apply qh_cc <;> assumption) | (apply qg_cc <;> assumption) | (apply ql_cc <;> assumption) | (apply qc_cc <;> assumption) | (apply qb_cc <;> assumption)))) | (apply qe_cc <;> assumption) | (apply qf_cc <;> assumption) | (apply qi_cc <;> assumption) | (apply qn_cc <;> assumption) | (apply qd_cc <;> assumption) | (apply qh_cc <;> assumption) | (apply qg_cc <;> assumption) | (apply ql_cc <;> assumption) | (apply qc_cc <;> assumption) | (apply qb_cc <;> assumption)) | simp [*]) ?_
  refine Tr.t (by first | exact (by first | (apply is_true; and_intros <;> (first | rfl | assumption | (apply qe_cc <;> assumption) | (apply qf_cc <;> assumption) | (apply qi_cc <;> assumption) | (apply qn_cc <;> assumption) | (apply qd_cc <;> assumption) | (apply qh_cc <;> assumption) | (apply qg_cc <;> assumption) | (apply ql_cc <;> assumption) | (apply qc_cc <;> assumption) | (apply qb_cc <;> assumption) | (first | (apply is_true; and_intros <;> (first | rfl | assumption | (apply qe_cc <;> assumption) | (apply qf_cc <;> assumption) | (apply qi_cc <;> assumption) | (apply qn_cc <;> assumption) | (apply qd_cc <;> assumption) | (apply qh_cc <;> assumption) | (apply qg_cc <;> assumption) | (apply ql_cc <;> assumption) | (apply qc_cc <;> assumption) | (apply qb_cc <;> assumption) | (first | (apply is_true; and_intros <;> (first | rfl | assumption | (apply qe_cc <;> assumption) | (apply qf_cc <;> assumption) | (apply qi_cc <;> assumption) | (apply qn_cc <;> assumption) | (apply qd_cc <;> assumption) | (apply qh_cc <;> assumption) | (apply qg_cc <;> assumption) | (apply ql_cc <;> assumption) | (apply qc_cc <;> assumption) | (apply qb_cc <;> assumption) | (first | (apply is_true; and_intros <;> (first | rfl | assumption | (apply qe_cc <;> assumption) | (apply qf_cc <;> assumption) | (apply qi_cc <;> assumption) | (apply qn_cc <;> assumption) | (apply qd_cc <;> assumption) | (apply qh_cc <;> assumption) | (apply qg_cc <;> assumption) | (apply ql_cc <;> assumption) | (apply qc_cc <;> assumption) | (apply qb_cc <;> assumption))) | (apply qe_cc <;> assumption) | (apply qf_cc <;> assumption) | (apply qi_cc <;> assumption) | (apply qn_cc <;> assumption) | (apply qd_cc <;> assumption) | (apply qh_cc <;> assumption) | (apply qg_cc <;> assumption) | (apply ql_cc <;> assumption) | (apply qc_cc <;> assumption) | (apply qb_cc <;> assumption)))) | (apply qe_cc <;> assumption) | (apply qf_cc <;> assumption) | (apply qi_cc <;> assumption) | (apply qn_cc <;> assumption) | (apply qd_cc <;> assumption) | (apply qh_cc <;> assumption) | (apply qg_cc <;> assumption) | (apply ql_cc <;> assumption) | (apply qc_cc <;> assumption) | (apply qb_cc <;> assumption)))) | (apply qe_cc <;> assumption) | (apply qf_cc <;> assumption) | (apply qi_cc <;> assumption) | (apply qn_cc <;> assumption) | (apply qd_cc <;> assumption) | (apply qh_cc <;> assumption) | (apply qg_cc <;> assumption) | (apply ql_cc <;> assumption) | (apply qc_cc <;> assumption) | (apply qb_cc <;> assumption)))) | (apply qe_cc <;> assumption) | (apply qf_cc <;> assumption) | (apply qi_cc <;> assumption) | (apply qn_cc <;> assumption) | (apply qd_cc <;> assumption) | (apply qh_cc <;> assumption) | (apply qg_cc <;> assumption) | (apply ql_cc <;> assumption) | (apply qc_cc <;> assumption) | (apply qb_cc <;> assumption)) | simp [*]) ?_
  refine Tr.t (by first | exact (by first | (apply qb_cc <;> assumption) | (first | (apply is_true; and_intros <;> (first | rfl | assumption | (apply qe_cc <;> assumption) | (apply qf_cc <;> assumption) | (apply qi_cc <;> assumption) | (apply qn_cc <;> assumption) | (apply qd_cc <;> assumption) | (apply qh_cc <;> assumption) | (apply qg_cc <;> assumption) | (apply ql_cc <;> assumption) | (apply qc_cc <;> assumption) | (apply qb_cc <;> assumption) | (first | (apply is_true; and_intros <;> (first | rfl | assumption | (apply qe_cc <;> assumption) | (apply qf_cc <;> assumption) | (apply qi_cc <;> assumption) | (apply qn_cc <;> assumption) | (apply qd_cc <;> assumption) | (apply qh_cc <;> assumption) | (apply qg_cc <;> assumption) | (apply ql_cc <;> assumption) | (apply qc_cc <;> assumption) | (apply qb_cc <;> assumption))) | (apply qe_cc <;> assumption) | (apply qf_cc <;> assumption) | (apply qi_cc <;> assumption) | (apply qn_cc <;> assumption) | (apply qd_cc <;> assumption) | (apply qh_cc <;> assumption) | (apply qg_cc <;> assumption) | (apply ql_cc <;> assumption) | (apply qc_cc <;> assumption) | (apply qb_cc <;> assumption)))) | (apply qe_cc <;> assumption) | (apply qf_cc <;> assumption) | (apply qi_cc <;> assumption) | (apply qn_cc <;> assumption) | (apply qd_cc <;> assumption) | (apply qh_cc <;> assumption) | (apply qg_cc <;> assumption) | (apply ql_cc <;> assumption) | (apply qc_cc <;> assumption) | (apply qb_cc <;> assumption))) | simp [*]) ?_
  refine Tr.t (by first | exact (by first | (apply is_true; and_intros <;> (first | rfl | assumption | (apply qe_cc <;> assumption) | (apply qf_cc <;> assumption) | (apply qi_cc <;> assumption) | (apply qn_cc <;> assumption) | (apply qd_cc <;> assumption) | (apply qh_cc <;> assumption) | (apply qg_cc <;> assumption) | (apply ql_cc <;> assumption) | (apply qc_cc <;> assumption) | (apply qb_cc <;> assumption) | (first | (apply is_true; and_intros <;> (first | rfl | assumption | (apply qe_cc <;> assumption) | (apply qf_cc <;> assumption) | (apply qi_cc <;> assumption) | (apply qn_cc <;> assumption) | (apply qd_cc <;> assumption) | (apply qh_cc <;> assumption) | (apply qg_cc <;> assumption) | (apply ql_cc <;> assumption) | (apply qc_cc <;> assumption) | (apply qb_cc <;> assumption) | (first | (apply is_true; and_intros <;> (first | rfl | assumption | (apply qe_cc <;> assumption) | (apply qf_cc <;> assumption) | (apply qi_cc <;> assumption) | (apply qn_cc <;> assumption) | (apply qd_cc <;> assumption) | (apply qh_cc <;> assumption) | (apply qg_cc <;> assumption) | (apply ql_cc <;> assumption) | (apply qc_cc <;> assumption) | (apply qb_cc <;> assumption) | (first | (apply is_true; and_intros <;> (first | rfl | assumption | (apply qe_cc <;> assumption) | (apply qf_cc <;> assumption) | (apply qi_cc <;> assumption) | (apply qn_cc <;> assumption) | (apply qd_cc <;> assumption) | (apply qh_cc <;> assumption) | (apply qg_cc <;> assumption) | (apply ql_cc <;> assumption) | (apply qc_cc <;> assumption) | (apply qb_cc <;> assumption))) | (apply qe_cc <;> assumption) | (apply qf_cc <;> assumption) | (apply qi_cc <;> assumption) | (apply qn_cc <;> assumption) | (apply qd_cc <;> assumption) | (apply qh_cc <;> assumption) | (apply qg_cc <;> assumption) | (apply ql_cc <;> assumption) | (apply qc_cc <;> assumption) | (apply qb_cc <;> assumption)))) | (apply qe_cc <;> assumption) | (apply qf_cc <;> assumption) | (apply qi_cc <;> assumption) | (apply qn_cc <;> assumption) | (apply qd_cc <;> assumption) | (apply qh_cc <;> assumption) | (apply qg_cc <;> assumption) | (apply ql_cc <;> assumption) | (apply qc_cc <;> assumption) | (apply qb_cc <;> assumption)))) | (apply qe_cc <;> assumption) | (apply qf_cc <;> assumption) | (apply qi_cc <;> assumption) | (apply qn_cc <;> assumption) | (apply qd_cc <;> assumption) | (apply qh_cc <;> assumption) | (apply qg_cc <;> assumption) | (apply ql_cc <;> assumption) | (apply qc_cc <;> assumption) | (apply qb_cc <;> assumption)))) | (apply qe_cc <;> assumption) | (apply qf_cc <;> assumption) | (apply qi_cc <;> assumption) | (apply qn_cc <;> assumption) | (apply qd_cc <;> assumption) | (apply qh_cc <;> assumption) | (apply qg_cc <;> assumption) | (apply ql_cc <;> assumption) | (apply qc_cc <;> assumption) | (apply qb_cc <;> assumption)) | simp [*]) ?_
  refine Tr.n (by first | (rw [hq2, decide_eq_false (by omega)]; exact Bool.false_ne_true) | (rw [hq2]; simp; done) | (simp [qm_vm, qj_v2, qp_v, qq_v, qo_v, qz_v]; done) | (simp only [qm_vm, qj_v2, qp_v, qq_v, qo_v, qz_v, decide_eq_true_eq]; omega) | (simp [qm_vm, qj_v2, qp_v, qq_v, qo_v, qz_v]; omega) | (simp (disch := omega) only [qm_vm, qj_v2, qp_v, qq_v, qo_v, qz_v, neg_bif, decide_eq_true_eq]; omega) | (simp (disch := omega) [qm_vm, qj_v2, qp_v, qq_v, qo_v, qz_v, neg_bif]; done)) ?_
  refine Tr.n (by first | (rw [hq2, decide_eq_false (by omega)]; exact Bool.false_ne_true) | (rw [hq2]; simp; done) | (simp [qm_vm, qj_v2, qp_v, qq_v, qo_v, qz_v]; done) | (simp only [qm_vm, qj_v2, qp_v, qq_v, qo_v, qz_v, decide_eq_true_eq]; omega) | (simp [qm_vm, qj_v2, qp_v, qq_v, qo_v, qz_v]; omega) | (simp (disch := omega) only [qm_vm, qj_v2, qp_v, qq_v, qo_v, qz_v, neg_bif, decide_eq_true_eq]; omega) | (simp (disch := omega) [qm_vm, qj_v2, qp_v, qq_v, qo_v, qz_v, neg_bif]; done)) ?_
  refine Tr.t (by first | exact (by first | (apply is_true; and_intros <;> (first | rfl | assumption | (apply qe_cc <;> assumption) | (apply qf_cc <;> assumption) | (apply qi_cc <;> assumption) | (apply qn_cc <;> assumption) | (apply qd_cc <;> assumption) | (apply qh_cc <;> assumption) | (apply qg_cc <;> assumption) | (apply ql_cc <;> assumption) | (apply qc_cc <;> assumption) | (apply qb_cc <;> assumption) | (first | (apply is_true; and_intros <;> (first | rfl | assumption | (apply qe_cc <;> assumption) | (apply qf_cc <;> assumption) | (apply qi_cc <;> assumption) | (apply qn_cc <;> assumption) | (apply qd_cc <;> assumption) | (apply qh_cc <;> assumption) | (apply qg_cc <;> assumption) | (apply ql_cc <;> assumption) | (apply qc_cc <;> assumption) | (apply qb_cc <;> assumption) | (first | (apply is_true; and_intros <;> (first | rfl | assumption | (apply qe_cc <;> assumption) | (apply qf_cc <;> assumption) | (apply qi_cc <;> assumption) | (apply qn_cc <;> assumption) | (apply qd_cc <;> assumption) | (apply qh_cc <;> assumption) | (apply qg_cc <;> assumption) | (apply ql_cc <;> assumption) | (apply qc_cc <;> assumption) | (apply qb_cc <;> assumption) | (first | (apply is_true; and_intros <;> (first | rfl | assumption | (apply qe_cc <;> assumption) | (apply qf_cc <;> assumption) | (apply qi_cc <;> assumption) | (apply qn_cc <;> assumption) | (apply qd_cc <;> assumption) | (apply qh_cc <;> assumption) | (apply qg_cc <;> assumption) | (apply ql_cc <;> assumption) | (apply qc_cc <;> assumption) | (apply qb_cc <;> assumption))) | (apply qe_cc <;> assumption) | (apply qf_cc <;> assumption) | (apply qi_cc <;> assumption) | (apply qn_cc <;> assumption) | (apply qd_cc <;> assumption) | (apply qh_cc <;> assumption) | (apply qg_cc <;> assumption) | (apply ql_cc <;> assumption) | (apply qc_cc <;> assumption) | (apply qb_cc <;> assumption)))) | (apply qe_cc <;> assumption) | (apply qf_cc <;> assumption) | (apply qi_cc <;> assumption) | (apply qn_cc <;> assumption) | (apply qd_cc <;> assumption) | (apply qh_cc <;> assumption) | (apply qg_cc <;> assumption) | (apply ql_cc <;> assumption) | (apply qc_cc <;> assumption) | (apply qb_cc <;> assumption)))) | (apply qe_cc <;> assumption) | (apply qf_cc <;> assumption) | (apply qi_cc <;> assumption) | (apply qn_cc <;> assumption) | (apply qd_cc <;> assumption) | (apply qh_cc <;> assumption) | (apply qg_cc <;> assumption) | (apply ql_cc <;> assumption) | (apply qc_cc <;> assumption) | (apply qb_cc <;> assumption)))) | (apply qe_cc <;> assumption) | (apply qf_cc <;> assumption) | (apply qi_cc <;> assumption) | (apply qn_cc <;> assumption) | (apply qd_cc <;> assumption) | (apply qh_cc <;> assumption) | (apply qg_cc <;> assumption) | (apply ql_cc <;> assumption) | (apply qc_cc <;> assumption) | (apply qb_cc <;> assumption)) | simp [*]) ?_
  refine Tr.t (by first | exact (by first | (apply is_true; and_intros <;> (first | rfl | assumption | (apply qe_cc <;> assumption) | (apply qf_cc <;> assumption) | (apply qi_cc <;> assumption) | (apply qn_cc <;> assumption) | (apply qd_cc <;> assumption) | (apply qh_cc <;> assumption) | (apply qg_cc <;> assumption) | (apply ql_cc <;> assumption) | (apply qc_cc <;> assumption) | (apply qb_cc <;> assumption) | (first | (apply is_true; and_intros <;> (first | rfl | assumption | (apply qe_cc <;> assumption) | (apply qf_cc <;> assumption) | (apply qi_cc <;> assumption) | (apply qn_cc <;> assumption) | (apply qd_cc <;> assumption) | (apply qh_cc <;> assumption) | (apply qg_cc <;> assumption) | (apply ql_cc <;> assumption) | (apply qc_cc <;> assumption) | (apply qb_cc <;> assumption) | (first | (apply is_true; and_intros <;> (first | rfl | assumption | (apply qe_cc <;> assumption) | (apply qf_cc <;> assumption) | (apply qi_cc <;> assumption) | (apply qn_cc <;> assumption) | (apply qd_cc <;> assumption) | (apply qh_cc <;> assumption) | (apply qg_cc <;> assumption) | (apply ql_cc <;> assumption) | (apply qc_cc <;> assumption) | (apply qb_cc <;> assumption) | (first | (apply is_true; and_intros <;> (first | rfl | assumption | (apply qe_cc <;> assumption) | (apply qf_cc <;> assumption) | (apply qi_cc <;> assumption) | (apply qn_cc <;> assumption) | (apply qd_cc <;> assumption) | (apply qh_cc <;> assumption) | (apply qg_cc <;> assumption) | (apply ql_cc <;> assumption) | (apply qc_cc <;> assumption) | (apply qb_cc <;> assumption))) | (apply qe_cc <;> assumption) | (apply qf_cc <;> assumption) | (apply qi_cc <;> assumption) | (apply qn_cc <;> assumption) | (apply qd_cc <;> assumption) | (apply qh_cc <;> assumption) | (apply qg_cc <;> assumption) | (apply ql_cc <;> assumption) | (apply qc_cc <;> assumption) | (apply qb_cc <;> assumption)))) | (apply qe_cc <;> assumption) | (apply qf_cc <;> assumption) | (apply qi_cc <;> assumption) | (apply qn_cc <;> assumption) | (apply qd_cc <;> assumption) | (apply qh_cc <;> assumption) | (apply qg_cc <;> assumption) | (apply ql_cc <;> assumption) | (apply qc_cc <;> assumption) | (apply qb_cc <;> assumption)))) | (apply qe_cc <;> assumption) | (apply qf_cc <;> assumption) | (apply qi_cc <;> assumption) | (apply qn_cc <;> assumption) | (apply qd_cc <;> assumption) | (apply qh_cc <;> assumption) | (apply qg_cc <;> assumption) | (apply ql_cc <;> assumption) | (apply qc_cc <;> assumption) | (apply qb_cc <;> assumption)))) | (apply qe_cc <;> assumption) | (apply qf_cc <;> assumption) | (apply qi_cc <;> assumption) | (apply qn_cc <;> assumption) | (apply qd_cc <;> assumption) | (apply qh_cc <;> assumption) | (apply qg_cc <;> assumption) | (apply ql_cc <;> assumption) | (apply qc_cc <;> assumption) | (apply qb_cc <;> assumption)) | simp [*]) ?_
  refine Tr.n (by first | (rw [hq2, decide_eq_false (by omega)]; exact Bool.false_ne_true) | (rw [hq2]; simp; done) | (simp [qm_vm, qj_v2, qp_v, qq_v, qo_v, qz_v]; done) | (simp only [qm_vm, qj_v2, qp_v, qq_v, qo_v, qz_v, decide_eq_true_eq]; omega) | (simp [qm_vm, qj_v2, qp_v, qq_v, qo_v, qz_v]; omega) | (simp (disch := omega) only [qm_vm, qj_v2, qp_v, qq_v, qo_v, qz_v, neg_bif, decide_eq_true_eq]; omega) | (simp (disch := omega) [qm_vm, qj_v2, qp_v, qq_v, qo_v, qz_v, neg_bif]; done)) ?_
  refine Tr.t (by first | exact (by first | (apply is_true; and_intros <;> (first | rfl | assumption | (apply qe_cc <;> assumption) | (apply qf_cc <;> assumption) | (apply qi_cc <;> assumption) | (apply qn_cc <;> assumption) | (apply qd_cc <;> assumption) | (apply qh_cc <;> assumption) | (apply qg_cc <;> assumption) | (apply ql_cc <;> assumption) | (apply qc_cc <;> assumption) | (apply qb_cc <;> assumption) | (first | (apply is_true; and_intros <;> (first | rfl | assumption | (apply qe_cc <;> assumption) | (apply qf_cc <;> assumption) | (apply qi_cc <;> assumption) | (apply qn_cc <;> assumption) | (apply qd_cc <;> assumption) | (apply qh_cc <;> assumption) | (apply qg_cc <;> assumption) | (apply ql_cc <;> assumption) | (apply qc_cc <;> assumption) | (apply qb_cc <;> assumption) | (first | (apply is_true; and_intros <;> (first | rfl | assumption | (apply qe_cc <;> assumption) | (apply qf_cc <;> assumption) | (apply qi_cc <;> assumption) | (apply qn_cc <;> assumption) | (apply qd_cc <;> assumption) | (apply qh_cc <;> assumption) | (apply qg_cc <;> assumption) | (apply ql_cc <;> assumption) | (apply qc_cc <;> assumption) | (apply qb_cc <;> assumption) | (first | (apply is_true; and_intros <;> (first | rfl | assumption | (apply qe_cc <;> assumption) | (apply qf_cc <;> assumption) | (apply qi_cc <;> assumption) | (apply qn_cc <;> assumption) | (apply qd_cc <;> assumption) | (apply qh_cc <;> assumption) | (apply qg_cc <;> assumption) | (apply ql_cc <;> assumption) | (apply qc_cc <;> assumption) | (apply qb_cc <;> assumption))) | (apply qe_cc <;> assumption) | (apply qf_cc <;> assumption) | (apply qi_cc <;> assumption) | (apply qn_cc <;> assumption) | (apply qd_cc <;> assumption) | (apply qh_cc <;> assumption) | (apply qg_cc <;> assumption) | (apply ql_cc <;> assumption) | (apply qc_cc <;> assumption) | (apply qb_cc <;> assumption)))) | (apply qe_cc <;> assumption) | (apply qf_cc <;> assumption) | (apply qi_cc <;> assumption) | (apply qn_cc <;> assumption) | (apply qd_cc <;> assumption) | (apply qh_cc <;> assumption) | (apply qg_cc <;> assumption) | (apply ql_cc <;> assumption) | (apply qc_cc <;> assumption) | (apply qb_cc <;> assumption)))) | (apply qe_cc <;> assumption) | (apply qf_cc <;> assumption) | (apply qi_cc <;> assumption) | (apply qn_cc <;> assumption) | (apply qd_cc <;> assumption) | (apply qh_cc <;> assumption) | (apply qg_cc <;> assumption) | (apply ql_cc <;> assumption) | (apply qc_cc <;> assumption) | (apply qb_cc <;> assumption)))) | (apply qe_cc <;> assumption) | (apply qf_cc <;> assumption) | (apply qi_cc <;> assumption) | (apply qn_cc <;> assumption) | (apply qd_cc <;> assumption) | (apply qh_cc <;> assumption) | (apply qg_cc <;> assumption) | (apply ql_cc <;> assumption) | (apply qc_cc <;> assumption) | (apply qb_cc <;> assumption)) | simp [*]) ?_
  refine Tr.t (by first | exact (by first | (apply is_true; and_intros <;> (first | rfl | assumption | (apply qe_cc <;> assumption) | (apply qf_cc <;> assumption) | (apply qi_cc <;> assumption) | (apply qn_cc <;> assumption) | (apply qd_cc <;> assumption) | (apply qh_cc <;> assumption) | (apply qg_cc <;> assumption) | (apply ql_cc <;> assumption) | (apply qc_cc <;> assumption) | (apply qb_cc <;> assumption) | (first | (apply is_true; and_intros <;> (first | rfl | assumption | (apply qe_cc <;> assumption) | (apply qf_cc <;> assumption) | (apply qi_cc <;> assumption) | (apply qn_cc <;> assumption) | (apply qd_cc <;> assumption) | (apply qh_cc <;> assumption) | (apply qg_cc <;> assumption) | (apply ql_cc <;> assumption) | (apply qc_cc <;> assumption) | (apply qb_cc <;> assumption) | (first | (apply is_true; and_intros <;> (first | rfl | assumption | (apply qe_cc <;> assumption) | (apply qf_cc <;> assumption) | (apply qi_cc <;> assumption) | (apply qn_cc <;> assumption) | (apply qd_cc <;> assumption) | (apply qh_cc <;> assumption) | (apply qg_cc <;> assumption) | (apply ql_cc <;> assumption) | (apply qc_cc <;> assumption) | (apply qb_cc <;> assumption) | (first | (apply is_true; and_intros <;> (first | rfl | assumption | (apply qe_cc <;> assumption) | (apply qf_cc <;> assumption) | (apply qi_cc <;> assumption) | (apply qn_cc <;> assumption) | (apply qd_cc <;> assumption) | (apply qh_cc <;> assumption) | (apply qg_cc <;> assumption) | (apply ql_cc <;> assumption) | (apply qc_cc <;> assumption) | (apply qb_cc <;> assumption))) | (apply qe_cc <;> assumption) | (apply qf_cc <;> assumption) | (apply qi_cc <;> assumption) | (apply qn_cc <;> assumption) | (apply qd_cc <;> assumption) | (apply qh_cc <;> assumption) | (apply qg_cc <;> assumption) | (apply ql_cc <;> assumption) | (apply qc_cc <;> assumption) | (apply qb_cc <;> assumption)))) | (apply qe_cc <;> assumption) | (apply qf_cc <;> assumption) | (apply qi_cc <;> assumption) | (apply qn_cc <;> assumption) | (apply qd_cc <;> assumption) | (apply qh_cc <;> assumption) | (apply qg_cc <;> assumption) | (apply ql_cc <;> assumption) | (apply qc_cc <;> assumption) | (apply qb_cc <;> assumption)))) | (apply qe_cc <;> assumption) | (apply qf_cc <;> assumption) | (apply qi_cc <;> assumption) | (apply qn_cc <;> assumption) | (apply qd_cc <;> assumption) | (apply qh_cc <;> assumption) | (apply qg_cc <;> assumption) | (apply ql_cc <;> assumption) | (apply qc_cc <;> assumption) | (apply qb_cc <;> assumption)))) | (apply qe_cc <;> assumption) | (apply qf_cc <;> assumption) | (apply qi_cc <;> assumption) | (apply qn_cc <;> assumption) | (apply qd_cc <;> assumption) | (apply qh_cc <;> assumption) | (apply qg_cc <;> assumption) | (apply ql_cc <;> assumption) | (apply qc_cc <;> assumption) | (apply qb_cc <;> assumption)) | simp [*]) ?_
  refine Tr.n (by first | (rw [hq2, decide_eq_false (by omega)]; exact Bool.false_ne_true) | (rw [hq2]; simp; done) | (simp [qm_vm, qj_v2, qp_v, qq_v, qo_v, qz_v]; done) | (simp only [qm_vm, qj_v2, qp_v, qq_v, qo_v, qz_v, decide_eq_true_eq]; omega) | (simp [qm_vm, qj_v2, qp_v, qq_v, qo_v, qz_v]; omega) | (simp (disch := omega) only [qm_vm, qj_v2, qp_v, qq_v, qo_v, qz_v, neg_bif, decide_eq_true_eq]; omega) | (simp (disch := omega) [qm_vm, qj_v2, qp_v, qq_v, qo_v, qz_v, neg_bif]; done)) ?_
  refine Tr.t (by apply qj_cc <;> (first | assumption | omega | (simp only [qm_vm, qj_v2, qp_v, qq_v]; omega) | (simp (disch := omega) only [qm_vm, qj_v2, qp_v, qq_v, neg_bif]; omega))) ?_
  refine Tr.t (by apply qj_cc <;> (first | assumption | omega | (simp only [qm_vm, qj_v2, qp_v, qq_v]; omega) | (simp (disch := omega) only [qm_vm, qj_v2, qp_v, qq_v, neg_bif]; omega))) ?_
  refine Tr.n (by first | (rw [hq2, decide_eq_false (by omega)]; exact Bool.false_ne_true) | (rw [hq2]; simp; done) | (simp [qm_vm, qj_v2, qp_v, qq_v, qo_v, qz_v]; done) | (simp only [qm_vm, qj_v2, qp_v, qq_v, qo_v, qz_v, decide_eq_true_eq]; omega) | (simp [qm_vm, qj_v2, qp_v, qq_v, qo_v, qz_v]; omega) | (simp (disch := omega) only [qm_vm, qj_v2, qp_v, qq_v, qo_v, qz_v, neg_bif, decide_eq_true_eq]; omega) | (simp (disch := omega) [qm_vm, qj_v2, qp_v, qq_v, qo_v, qz_v, neg_bif]; done)) ?_
  refine Tr.t (by first | exact (by first | (apply is_true; and_intros <;> (first | rfl | assumption | (apply qe_cc <;> assumption) | (apply qf_cc <;> assumption) | (apply qi_cc <;> assumption) | (apply qn_cc <;> assumption) | (apply qd_cc <;> assumption) | (apply qh_cc <;> assumption) | (apply qg_cc <;> assumption) | (apply ql_cc <;> assumption) | (apply qc_cc <;> assumption) | (apply qb_cc <;> assumption) | (first | (apply is_true; and_intros <;> (first | rfl | assumption | (apply qe_cc <;> assumption) | (apply qf_cc <;> assumption) | (apply qi_cc <;> assumption) | (apply qn_cc <;> assumption) | (apply qd_cc <;> assumption) | (apply qh_cc <;> assumption) | (apply qg_cc <;> assumption) | (apply ql_cc <;> assumption) | (apply qc_cc <;> assumption) | (apply qb_cc <;> assumption) | (first | (apply is_true; and_intros <;> (first | rfl | assumption | (apply qe_cc <;> assumption) | (apply qf_cc <;> assumption) | (apply qi_cc <;> assumption) | (apply qn_cc <;> assumption) | (apply qd_cc <;> assumption) | (apply qh_cc <;> assumption) | (apply qg_cc <;> assumption) | (apply ql_cc <;> assumption) | (apply qc_cc <;> assumption) | (apply qb_cc <;> assumption) | (first | (apply is_true; and_intros <;> (first | rfl | assumption | (apply qe_cc <;> assumption) | (apply qf_cc <;> assumption) | (apply qi_cc <;> assumption) | (apply qn_cc <;> assumption) | (apply qd_cc <;> assumption) | (apply qh_cc <;> assumption) | (apply qg_cc <;> assumption) | (apply ql_cc <;> assumption) | (apply qc_cc <;> assumption) | (apply qb_cc <;> assumption))) | (apply qe_cc <;> assumption) | (apply qf_cc <;> assumption) | (apply qi_cc <;> assumption) | (apply qn_cc <;> assumption) | (apply qd_cc <;> assumption) | (apply qh_cc <;> assumption) | (apply qg_cc <;> assumption) | (apply ql_cc <;> assumption) | (apply qc_cc <;> assumption) | (apply qb_cc <;> assumption)))) | (apply qe_cc <;> assumption) | (apply qf_cc <;> assumption) | (apply qi_cc <;> assumption) | (apply qn_cc <;> assumption) | (apply qd_cc <;> assumption) | (apply qh_cc <;> assumption) | (apply qg_cc <;> assumption) | (apply ql_cc <;> assumption) | (apply qc_cc <;> assumption) | (apply qb_cc <;> assumption)))) | (apply qe_cc <;> assumption) | (apply qf_cc <;> assumption) | (apply qi_cc <;> assumption) | (apply qn_cc <;> assumption) | (apply qd_cc <;> assumption) | (apply qh_cc <;> assumption) | (apply qg_cc <;> assumption) | (apply ql_cc <;> assumption) | (apply qc_cc <;> assumption) | (apply qb_cc <;> assumption)))) | (apply qe_cc <;> assumption) | (apply qf_cc <;> assumption) | (apply qi_cc <;> assumption) | (apply qn_cc <;> assumption) | (apply qd_cc <;> assumption) | (apply qh_cc <;> assumption) | (apply qg_cc <;> assumption) | (apply ql_cc <;> assumption) | (apply qc_cc <;> assumption) | (apply qb_cc <;> assumption)) | simp [*]) ?_
  refine Tr.n (by first | (rw [hq2, decide_eq_false (by omega)]; exact Bool.false_ne_true) | (rw [hq2]; simp; done) | (simp [qm_vm, qj_v2, qp_v, qq_v, qo_v, qz_v]; done) | (simp only [qm_vm, qj_v2, qp_v, qq_v, qo_v, qz_v, decide_eq_true_eq]; omega) | (simp [qm_vm, qj_v2, qp_v, qq_v, qo_v, qz_v]; omega) | (simp (disch := omega) only [qm_vm, qj_v2, qp_v, qq_v, qo_v, qz_v, neg_bif, decide_eq_true_eq]; omega) | (simp (disch := omega) [qm_vm, qj_v2, qp_v, qq_v, qo_v, qz_v, neg_bif]; done)) ?_
  refine Tr.n (by first | (rw [hq2, decide_eq_false (by omega)]; exact Bool.false_ne_true) | (rw [hq2]; simp; done) | (simp [qm_vm, qj_v2, qp_v, qq_v, qo_v, qz_v]; done) | (simp only [qm_vm, qj_v2, qp_v, qq_v, qo_v, qz_v, decide_eq_true_eq]; omega) | (simp [qm_vm, qj_v2, qp_v, qq_v, qo_v, qz_v]; omega) | (simp (disch := omega) only [qm_vm, qj_v2, qp_v, qq_v, qo_v, qz_v, neg_bif, decide_eq_true_eq]; omega) | (simp (disch := omega) [qm_vm, qj_v2, qp_v, qq_v, qo_v, qz_v, neg_bif]; done)) ?_
  refine Tr.t (by exact qp_ok hb1 hb2 hb3 hb4) ?_
  refine Tr.t (by exact hq1) ?_
  refine Tr.n (by first | (rw [hq2, decide_eq_false (by omega)]; exact Bool.false_ne_true) | (rw [hq2]; simp; done) | (simp [qm_vm, qj_v2, qp_v, qq_v, qo_v, qz_v]; done) | (simp only [qm_vm, qj_v2, qp_v, qq_v, qo_v, qz_v, decide_eq_true_eq]; omega) | (simp [qm_vm, qj_v2, qp_v, qq_v, qo_v, qz_v]; omega) | (simp (disch := omega) only [qm_vm, qj_v2, qp_v, qq_v, qo_v, qz_v, neg_bif, decide_eq_true_eq]; omega) | (simp (disch := omega) [qm_vm, qj_v2, qp_v, qq_v, qo_v, qz_v, neg_bif]; done)) ?_
  refine Tr.n (by first | (rw [hq2, decide_eq_false (by omega)]; exact Bool.false_ne_true) | (rw [hq2]; simp; done) | (simp [qm_vm, qj_v2, qp_v, qq_v, qo_v, qz_v]; done) | (simp only [qm_vm, qj_v2, qp_v, qq_v, qo_v, qz_v, decide_eq_true_eq]; omega) | (simp [qm_vm, qj_v2, qp_v, qq_v, qo_v, qz_v]; omega) | (simp (disch := omega) only [qm_vm, qj_v2, qp_v, qq_v, qo_v, qz_v, neg_bif, decide_eq_true_eq]; omega) | (simp (disch := omega) [qm_vm, qj_v2, qp_v, qq_v, qo_v, qz_v, neg_bif]; done)) ?_
  refine Tr.t (by first | exact (by first | (apply is_true; and_intros <;> (first | rfl | assumption | (apply qe_cc <;> assumption) | (apply qf_cc <;> assumption) | (apply qi_cc <;> assumption) | (apply qn_cc <;> assumption) | (apply qd_cc <;> assumption) | (apply qh_cc <;> assumption) | (apply qg_cc <;> assumption) | (apply ql_cc <;> assumption) | (apply qc_cc <;> assumption) | (apply qb_cc <;> assumption) | (first | (apply is_true; and_intros <;> (first | rfl | assumption | (apply qe_cc <;> assumption) | (apply qf_cc <;> assumption) | (apply qi_cc <;> assumption) | (apply qn_cc <;> assumption) | (apply qd_cc <;> assumption) | (apply qh_cc <;> assumption) | (apply qg_cc <;> assumption) | (apply ql_cc <;> assumption) | (apply qc_cc <;> assumption) | (apply qb_cc <;> assumption) | (first | (apply is_true; and_intros <;> (first | rfl | assumption | (apply qe_cc <;> assumption) | (apply qf_cc <;> assumption) | (apply qi_cc <;> assumption) | (apply qn_cc <;> assumption) | (apply qd_cc <;> assumption) | (apply qh_cc <;> assumption) | (apply qg_cc <;> assumption) | (apply ql_cc <;> assumption) | (apply qc_cc <;> assumption) | (apply qb_cc <;> assumption) | (first | (apply is_true; and_intros <;> (first | rfl | assumption | (apply qe_cc <;> assumption) | (apply qf_cc <;> assumption) | (apply qi_cc <;> assumption) | (apply qn_cc <;> assumption) | (apply qd_cc <;> assumption) | (apply qh_cc <;> assumption) | (apply qg_cc <;> assumption) | (apply ql_cc <;> assumption) | (apply qc_cc <;> assumption) | (apply qb_cc <;> assumption))) | (apply qe_cc <;> assumption) | (apply qf_cc <;> assumption) | (apply qi_cc <;> assumption) | (apply qn_cc <;> assumption) | (apply qd_cc <;> assumption) | (apply qh_cc <;> assumption) | (apply qg_cc <;> assumption) | (apply ql_cc <;> assumption) | (apply qc_cc <;> assumption) | (apply qb_cc <;> assumption)))) | (apply qe_cc <;> assumption) | (apply qf_cc <;> assumption) | (apply qi_cc <;> assumption) | (apply qn_cc <;> assumption) | (apply qd_cc <;> assumption) | (apply qh_cc <;> assumption) | (apply qg_cc <;> assumption) | (apply ql_cc <;> assumption) | (apply qc_cc <;> assumption) | (apply qb_cc <;> assumption)))) | (apply qe_cc <;> assumption) | (apply qf_cc <;> assumption) | (apply qi_cc <;> assumption) | (apply qn_cc <;> assumption) | (apply qd_cc <;> assumption) | (apply qh_cc <;> assumption) | (apply qg_cc <;> assumption) | (apply ql_cc <;> assumption) | (apply qc_cc <;> assumption) | (apply qb_cc <;> assumption)))) | (apply qe_cc <;> assumption) | (apply qf_cc <;> assumption) | (apply qi_cc <;> assumption) | (apply qn_cc <;> assumption) | (apply qd_cc <;> assumption) | (apply qh_cc <;> assumption) | (apply qg_cc <;> assumption) | (apply ql_cc <;> assumption) | (apply qc_cc <;> assumption) | (apply qb_cc <;> assumption)) | simp [*]) ?_
  refine Tr.t (by first | exact (by first | (apply is_true; and_intros <;> (first | rfl | assumption | (apply qe_cc <;> assumption) | (apply qf_cc <;> assumption) | (apply qi_cc <;> assumption) | (apply qn_cc <;> assumption) | (apply qd_cc <;> assumption) | (apply qh_cc <;> assumption) | (apply qg_cc <;> assumption) | (apply ql_cc <;> assumption) | (apply qc_cc <;> assumption) | (apply qb_cc <;> assumption) | (first | (apply is_true; and_intros <;> (first | rfl | assumption | (apply qe_cc <;> assumption) | (apply qf_cc <;> assumption) | (apply qi_cc <;> assumption) | (apply qn_cc <;> assumption) | (apply qd_cc <;> assumption) | (apply qh_cc <;> assumption) | (apply qg_cc <;> assumption) | (apply ql_cc <;> assumption) | (apply qc_cc <;> assumption) | (apply qb_cc <;> assumption) | (first | (apply is_true; and_intros <;> (first | rfl | assumption | (apply qe_cc <;> assumption) | (apply qf_cc <;> assumption) | (apply qi_cc <;> assumption) | (apply qn_cc <;> assumption) | (apply qd_cc <;> assumption) | (apply qh_cc <;> assumption) | (apply qg_cc <;> assumption) | (apply ql_cc <;> assumption) | (apply qc_cc <;> assumption) | (apply qb_cc <;> assumption) | (first | (apply is_true; and_intros <;> (first | rfl | assumption | (apply qe_cc <;> assumption) | (apply qf_cc <;> assumption) | (apply qi_cc <;> assumption) | (apply qn_cc <;> assumption) | (apply qd_cc <;> assumption) | (apply qh_cc <;> assumption) | (apply qg_cc <;> assumption) | (apply ql_cc <;> assumption) | (apply qc_cc <;> assumption) | (apply qb_cc <;> assumption))) | (apply qe_cc <;> assumption) | (apply qf_cc <;> assumption) | (apply qi_cc <;> assumption) | (apply qn_cc <;> assumption) | (apply qd_cc <;> assumption) | (apply qh_cc <;> assumption) | (apply qg_cc <;> assumption) | (apply ql_cc <;> assumption) | (apply qc_cc <;> assumption) | (apply qb_cc <;> assumption)))) | (apply qe_cc <;> assumption) | (apply qf_cc <;> assumption) | (apply qi_cc <;> assumption) | (apply qn_cc <;> assumption) | (apply qd_cc <;> assumption) | (apply qh_cc <;> assumption) | (apply qg_cc <;> assumption) | (apply ql_cc <;> assumption) | (apply qc_cc <;> assumption) | (apply qb_cc <;> assumption)))) | (apply qe_cc <;> assumption) | (apply qf_cc <;> assumption) | (apply qi_cc <;> assumption) | (apply qn_cc <;> assumption) | (apply qd_cc <;> assumption) | (apply qh_cc <;> assumption) | (apply qg_cc <;> assumption) | (apply ql_cc <;> assumption) | (apply qc_cc <;> assumption) | (apply qb_cc <;> assumption)))) | (apply qe_cc <;> assumption) | (apply qf_cc <;> assumption) | (apply qi_cc <;> assumption) | (apply qn_cc <;> assumption) | (apply qd_cc <;> assumption) | (apply qh_cc <;> assumption) | (apply qg_cc <;> assumption) | (apply ql_cc <;> assumption) | (apply qc_cc <;> assumption) | (apply qb_cc <;> assumption)) | simp [*]) ?_
  refine Tr.t (by first | exact (by first | (apply qb_cc <;> assumption) | (first | (apply is_true; and_intros <;> (first | rfl | assumption | (apply qe_cc <;> assumption) | (apply qf_cc <;> assumption) | (apply qi_cc <;> assumption) | (apply qn_cc <;> assumption) | (apply qd_cc <;> assumption) | (apply qh_cc <;> assumption) | (apply qg_cc <;> assumption) | (apply ql_cc <;> assumption) | (apply qc_cc <;> assumption) | (apply qb_cc <;> assumption) | (first | (apply is_true; and_intros <;> (first | rfl | assumption | (apply qe_cc <;> assumption) | (apply qf_cc <;> assumption) | (apply qi_cc <;> assumption) | (apply qn_cc <;> assumption) | (apply qd_cc <;> assumption) | (apply qh_cc <;> assumption) | (apply qg_cc <;> assumption) | (apply ql_cc <;> assumption) | (apply qc_cc <;> assumption) | (apply qb_cc <;> assumption))) | (apply qe_cc <;> assumption) | (apply qf_cc <;> assumption) | (apply qi_cc <;> assumption) | (apply qn_cc <;> assumption) | (apply qd_cc <;> assumption) | (apply qh_cc <;> assumption) | (apply qg_cc <;> assumption) | (apply ql_cc <;> assumption) | (apply qc_cc <;> assumption) | (apply qb_cc <;> assumption)))) | (apply qe_cc <;> assumption) | (apply qf_cc <;> assumption) | (apply qi_cc <;> assumption) | (apply qn_cc <;> assumption) | (apply qd_cc <;> assumption) | (apply qh_cc <;> assumption) | (apply qg_cc <;> assumption) | (apply ql_cc <;> assumption) | (apply qc_cc <;> assumption) | (apply qb_cc <;> assumption))) | simp [*]) ?_
  refine Tr.t (by first | exact (by first | (apply is_true; and_intros <;> (first | rfl | assumption | (apply qe_cc <;> assumption) | (apply qf_cc <;> assumption) | (apply qi_cc <;> assumption) | (apply qn_cc <;> assumption) | (apply qd_cc <;> assumption) | (apply qh_cc <;> assumption) | (apply qg_cc <;> assumption) | (apply ql_cc <;> assumption) | (apply qc_cc <;> assumption) | (apply qb_cc <;> assumption) | (first | (apply is_true; and_intros <;> (first | rfl | assumption | (apply qe_cc <;> assumption) | (apply qf_cc <;> assumption) | (apply qi_cc <;> assumption) | (apply qn_cc <;> assumption) | (apply qd_cc <;> assumption) | (apply qh_cc <;> assumption) | (apply qg_cc <;> assumption) | (apply ql_cc <;> assumption) | (apply qc_cc <;> assumption) | (apply qb_cc <;> assumption) | (first | (apply is_true; and_intros <;> (first | rfl | assumption | (apply qe_cc <;> assumption) | (apply qf_cc <;> assumption) | (apply qi_cc <;> assumption) | (apply qn_cc <;> assumption) | (apply qd_cc <;> assumption) | (apply qh_cc <;> assumption) | (apply qg_cc <;> assumption) | (apply ql_cc <;> assumption) | (apply qc_cc <;> assumption) | (apply qb_cc <;> assumption) | (first | (apply is_true; and_intros <;> (first | rfl | assumption | (apply qe_cc <;> assumption) | (apply qf_cc <;> assumption) | (apply qi_cc <;> assumption) | (apply qn_cc <;> assumption) | (apply qd_cc <;> assumption) | (apply qh_cc <;> assumption) | (apply qg_cc <;> assumption) | (apply ql_cc <;> assumption) | (apply qc_cc <;> assumption) | (apply qb_cc <;> assumption))) | (apply qe_cc <;> assumption) | (apply qf_cc <;> assumption) | (apply qi_cc <;> assumption) | (apply qn_cc <;> assumption) | (apply qd_cc <;> assumption) | (apply qh_cc <;> assumption) | (apply qg_cc <;> assumption) | (apply ql_cc <;> assumption) | (apply qc_cc <;> assumption) | (apply qb_cc <;> assumption)))) | (apply qe_cc <;> assumption) | (apply qf_cc <;> assumption) | (apply qi_cc <;> assumption) | (apply qn_cc <;> assumption) | (apply qd_cc <;> assumption) | (apply qh_cc <;> assumption) | (apply qg_cc <;> assumption) | (apply ql_cc <;> assumption) | (apply qc_cc <;> assumption) | (apply qb_cc <;> assumption)))) | (apply qe_cc <;> assumption) | (apply qf_cc <;> assumption) | (apply qi_cc <;> assumption) | (apply qn_cc <;> assumption) | (apply qd_cc <;> assumption) | (apply qh_cc <;> assumption) | (apply qg_cc <;> assumption) | (apply ql_cc <;> assumption) | (apply qc_cc <;> assumption) | (apply qb_cc <;> assumption)))) | (apply qe_cc <;> assumption) | (apply qf_cc <;> assumption) | (apply qi_cc <;> assumption) | (apply qn_cc <;> assumption) | (apply qd_cc <;> assumption) | (apply qh_cc <;> assumption) | (apply qg_cc <;> assumption) | (apply ql_cc <;> assumption) | (apply qc_cc <;> assumption) | (apply qb_cc <;> assumption)) | simp [*]) ?_
  refine Tr.n (by first | (rw [hq2, decide_eq_false (by omega)]; exact Bool.false_ne_true) | (rw [hq2]; simp; done) | (simp [qm_vm, qj_v2, qp_v, qq_v, qo_v, qz_v]; done) | (simp only [qm_vm, qj_v2, qp_v, qq_v, qo_v, qz_v, decide_eq_true_eq]; omega) | (simp [qm_vm, qj_v2, qp_v, qq_v, qo_v, qz_v]; omega) | (simp (disch := omega) only [qm_vm, qj_v2, qp_v, qq_v, qo_v, qz_v, neg_bif, decide_eq_true_eq]; omega) | (simp (disch := omega) [qm_vm, qj_v2, qp_v, qq_v, qo_v, qz_v, neg_bif]; done)) ?_
  refine Tr.n (by first | (rw [hq2, decide_eq_false (by omega)]; exact Bool.false_ne_true) | (rw [hq2]; simp; done) | (simp [qm_vm, qj_v2, qp_v, qq_v, qo_v, qz_v]; done) | (simp only [qm_vm, qj_v2, qp_v, qq_v, qo_v, qz_v, decide_eq_true_eq]; omega) | (simp [qm_vm, qj_v2, qp_v, qq_v, qo_v, qz_v]; omega) | (simp (disch := omega) only [qm_vm, qj_v2, qp_v, qq_v, qo_v, qz_v, neg_bif, decide_eq_true_eq]; omega) | (simp (disch := omega) [qm_vm, qj_v2, qp_v, qq_v, qo_v, qz_v, neg_bif]; done)) ?_
  refine Tr.t (by exact hq1) ?_
  refine Tr.n (by first | (rw [hq2, decide_eq_false (by omega)]; exact Bool.false_ne_true) | (rw [hq2]; simp; done) | (simp [qm_vm, qj_v2, qp_v, qq_v, qo_v, qz_v]; done) | (simp only [qm_vm, qj_v2, qp_v, qq_v, qo_v, qz_v, decide_eq_true_eq]; omega) | (simp [qm_vm, qj_v2, qp_v, qq_v, qo_v, qz_v]; omega) | (simp (disch := omega) only [qm_vm, qj_v2, qp_v, qq_v, qo_v, qz_v, neg_bif, decide_eq_true_eq]; omega) | (simp (disch := omega) [qm_vm, qj_v2, qp_v, qq_v, qo_v, qz_v, neg_bif]; done)) ?_
  refine Tr.n (by first | (rw [hq2, decide_eq_false (by omega)]; exact Bool.false_ne_true) | (rw [hq2]; simp; done) | (simp [qm_vm, qj_v2, qp_v, qq_v, qo_v, qz_v]; done) | (simp only [qm_vm, qj_v2, qp_v, qq_v, qo_v, qz_v, decide_eq_true_eq]; omega) | (simp [qm_vm, qj_v2, qp_v, qq_v, qo_v, qz_v]; omega) | (simp (disch := omega) only [qm_vm, qj_v2, qp_v, qq_v, qo_v, qz_v, neg_bif, decide_eq_true_eq]; omega) | (simp (disch := omega) [qm_vm, qj_v2, qp_v, qq_v, qo_v, qz_v, neg_bif]; done)) ?_
  rfl
theorem laws_FnExactChunkBox_pure : ∀ xs, ArgsTyped tab [22, 22, 2] xs → runF tab FT D34 live 5 noLoops xs = yes := by
  intro xs h
  cases h with | cons l0 g0 h =>
  obtain ⟨z0_0, rfl⟩ := len_1 l0
  have q0 := g0 0 (by decide)
  have q0 : Typed tab (.slice 2) z0_0 := q0
  obtain ⟨y0, rfl⟩ := typed_slice q0
  cases h with | cons l1 g1 h =>
  obtain ⟨z1_0, rfl⟩ := len_1 l1
  have q1 := g1 0 (by decide)
  have q1 : Typed tab (.slice 2) z1_0 := q1
  obtain ⟨y1, rfl⟩ := typed_slice q1
  cases h with | cons l2 g2 h =>
  obtain ⟨z2_0, rfl⟩ := len_1 l2
  have q2 := g2 0 (by decide)
  have q2 : Typed tab (.int .i64) z2_0 := q2
  obtain ⟨y2, rfl⟩ := typed_int q2
  cases h
  refine (laws_FnExactChunkBox_e y0 y1 y2).trans ?_
  rw [Tr.run_eq, laws_FnExactChunkBox_p y0 y1 y2 q0 q1 q2]
  rfl
end Go.Proofs.Ytmdbccmbmcgclaa.V
