/- What the functions of FnExactEncodeNode answer. No condition. -/
import Derived.Test.YthhdkojpkjkanaaVFnExactEncodeNodeP1
namespace Go.Proofs.Ythhdkojpkjkanaa.V
open Go
set_option maxRecDepth 100000
set_option linter.unusedVariables false
set_option linter.unusedSectionVars false
set_option linter.unusedSimpArgs false
set_option maxHeartbeats 2000000
def impl_Node_encode_mk (p : List UInt8) : Res := [(false, [⟨.str, .sh, TC.s p⟩])]
noncomputable def impl_Node_encode_c (L : Bool) (C : List (List TC)) (K : List (List TC)) (D : List (List TC)) : Bool := is (Typed tab (.slice 159) (.l C) ∧ Typed tab (.slice 2) (.l K) ∧ Typed tab (.slice 2) (.l D) ∧ nodeOk L C K D = true)
noncomputable def impl_Node_encode_v (L : Bool) (C : List (List TC)) (K : List (List TC)) (D : List (List TC)) : List UInt8 := hid (nodeV L C K D)
theorem impl_Node_encode_l (L : Bool) (C : List (List TC)) (K : List (List TC)) (D : List (List TC)) : (impl_Node_encode_c L C K D) = true → (impl_Node_encode_t L C K D).val = some (impl_Node_encode_v L C K D) := by
  intro h
  obtain ⟨hC, hK, hD, hok⟩ := is_iff.1 h
  unfold impl_Node_encode_t impl_Node_encode_v
  rw [hid_eq]
  rw [impl_putBytes_h (n := 1), impl_putBytes_h (n := (C.length : Int)), impl_putBytes_h (n := 2), impl_putBytes_h (n := (K.length : Int)), impl_putPairs_h (A := D), impl_putPairs_h (A := K)]
  cases L with
  | true =>
    have h8 := node_leaf hok
    refine Tr.n (by simp) (Tr.t (is_true ⟨1, rfl, by omega⟩) (Tr.t (is_true ⟨1, rfl, by omega⟩) (Tr.t (by simp only [bytesL_len]; decide) (Tr.t (is_true ⟨h8, by simp only [List.length_append, bytesL_len]; decide, rfl, rfl⟩) (Tr.t (is_true ⟨64, rfl, ?_, by omega⟩) ?_)))))
    · show ((_ ++ _) ++ chunksL C C.length).length ≤ 64
      simp only [List.length_append, bytesL_len, chunksL_len]
      omega
    · rw [Tr.val_ok, impl_padded_h]; rfl
  | false =>
    obtain ⟨h7, h8⟩ := node_inner hok
    refine Tr.t rfl (Tr.t (is_true ⟨1, rfl, by omega⟩) (Tr.t (is_true ⟨1, rfl, by omega⟩) (Tr.t (by simp only [bytesL_len]; decide) (Tr.t (is_true (by omega)) (Tr.t (by simp only [List.length_append, bytesL_len, pairsL_len]; omega) (Tr.t (is_true (by omega)) (Tr.t (by simp only [List.length_append, bytesL_len, pairsL_len]; omega) (Tr.t (is_true ⟨64, rfl, ?_, by omega⟩) ?_))))))))
    · simp only [List.length_append, bytesL_len, pairsL_len]
      omega
    · rw [Tr.val_ok, impl_padded_h]; rfl
noncomputable def impl_Node_encode_S : List Arg → Option (Bool × Res) := fun xs => match xs with
  | [(true, [(.bool, TC.b L), (.slice 159, TC.l C), (.slice 2, TC.l K), (.slice 2, TC.l D)])] => some ((impl_Node_encode_c L C K D), impl_Node_encode_mk (impl_Node_encode_v L C K D))
  | _ => .none
theorem impl_Node_encode_e (L : Bool) (C : List (List TC)) (K : List (List TC)) (D : List (List TC)) : runF tab FT D32 live 86 impl_Node_encode_lo [(true, [(.bool, TC.b L), (.slice 159, TC.l C), (.slice 2, TC.l K), (.slice 2, TC.l D)])] = (impl_Node_encode_t L C K D).run fun p => some (impl_Node_encode_mk p) := by kernel_rfl
theorem impl_Node_encode_s : ∀ xs r, impl_Node_encode_S xs = some (true, r) → runF tab FT D32 live 86 impl_Node_encode_lo xs = some r := by
  intro xs r h
  unfold impl_Node_encode_S at h
  split at h
  · simp only [Option.some.injEq, Prod.mk.injEq] at h
    obtain ⟨h1, rfl⟩ := h
    exact fun_told (impl_Node_encode_e _ _ _ _) (impl_Node_encode_l _ _ _ _) h1
  · cases h
noncomputable def D33 : Dt := also D32 86 impl_Node_encode_S
theorem d33 : DOk Go.Proofs.Try.prog tab D33 := d32.also mixed_ok tab_ok names_ok (fnLoops_one (by kernel_rfl) impl_Node_encode_is5) impl_Node_encode_s
theorem impl_Node_encode_h {L : Bool} {C K D : List (List TC)} : impl_Node_encode_v L C K D = nodeV L C K D := hid_eq _
/-! impl_EncodeNode -/
noncomputable def impl_EncodeNode_t (L : Bool) (C : List (List TC)) (K : List (List TC)) (D : List (List TC)) : Tr (List UInt8) := (.ite ((impl_ValidNode_c L C K D) = true) (.ite ((!(impl_ValidNode_v L C K D)) = true) (.ok ([]))
   (.ite ((impl_Node_encode_c L C K D) = true) (.ok (impl_Node_encode_v L C K D))
    .no))
  .no)
def impl_EncodeNode_mk (p : List UInt8) : Res := [(false, [⟨.str, .sh, TC.s p⟩])]
noncomputable def impl_EncodeNode_c (L : Bool) (C : List (List TC)) (K : List (List TC)) (D : List (List TC)) : Bool := is (Typed tab (.slice 159) (.l C) ∧ Typed tab (.slice 2) (.l K) ∧ Typed tab (.slice 2) (.l D))
noncomputable def impl_EncodeNode_v (L : Bool) (C : List (List TC)) (K : List (List TC)) (D : List (List TC)) : List UInt8 := bif nodeOk L C K D then hid (nodeV L C K D) else []
theorem impl_EncodeNode_l (L : Bool) (C : List (List TC)) (K : List (List TC)) (D : List (List TC)) : (impl_EncodeNode_c L C K D) = true → (impl_EncodeNode_t L C K D).val = some (impl_EncodeNode_v L C K D) := by
  intro h
  obtain ⟨hC, hK, hD⟩ := is_iff.1 h
  unfold impl_EncodeNode_t impl_EncodeNode_v
  refine Tr.t (impl_ValidNode_cc hC hK hD) ?_
  rw [impl_ValidNode_vv]
  cases hk : nodeOk L C K D with
  | false => exact Tr.t rfl rfl
  | true =>
    refine Tr.n (by simp) (Tr.t (is_true ⟨hC, hK, hD, hk⟩) ?_)
    rfl
noncomputable def impl_EncodeNode_S : List Arg → Option (Bool × Res) := fun xs => match xs with
  | [(true, [(.bool, TC.b L), (.slice 159, TC.l C), (.slice 2, TC.l K), (.slice 2, TC.l D)])] => some ((impl_EncodeNode_c L C K D), impl_EncodeNode_mk (impl_EncodeNode_v L C K D))
  | _ => .none
theorem impl_EncodeNode_e (L : Bool) (C : List (List TC)) (K : List (List TC)) (D : List (List TC)) : runF tab FT D33 live 39 noLoops [(true, [(.bool, TC.b L), (.slice 159, TC.l C), (.slice 2, TC.l K), (.slice 2, TC.l D)])] = (impl_EncodeNode_t L C K D).run fun p => some (impl_EncodeNode_mk p) := by kernel_rfl
theorem impl_EncodeNode_s : ∀ xs r, impl_EncodeNode_S xs = some (true, r) → runF tab FT D33 live 39 noLoops xs = some r := by
  intro xs r h
  unfold impl_EncodeNode_S at h
  split at h
  · simp only [Option.some.injEq, Prod.mk.injEq] at h
    obtain ⟨h1, rfl⟩ := h
    exact fun_told (impl_EncodeNode_e _ _ _ _) (impl_EncodeNode_l _ _ _ _) h1
  · cases h
noncomputable def D34 : Dt := also D33 39 impl_EncodeNode_S
theorem d34 : DOk Go.Proofs.Try.prog tab D34 := d33.also mixed_ok tab_ok names_ok noLoops_ok impl_EncodeNode_s
theorem impl_EncodeNode_h {L : Bool} {C K D : List (List TC)} : impl_EncodeNode_v L C K D = bif nodeOk L C K D then hid (nodeV L C K D) else [] := rfl
/-! laws_eqChunk -/
noncomputable def laws_eqChunk_t (x0 : Int) (x1 : Int) (x2 : Int) (x3 : Int) (y0 : Int) (y1 : Int) (y2 : Int) (y3 : Int) : Tr (Bool) := (.ite ((!(x0 == y0)) = true) (.ok false)
  (.ite ((!(x1 == y1)) = true) (.ok false)
   (.ite ((!(x2 == y2)) = true) (.ok false)
    (.ite ((!(x3 == y3)) = true) (.ok false)
     (.ok true)))))
def laws_eqChunk_mk (p : Bool) : Res := [(false, [⟨.bool, .sh, TC.b p⟩])]
noncomputable def laws_eqChunk_c (x0 : Int) (x1 : Int) (x2 : Int) (x3 : Int) (y0 : Int) (y1 : Int) (y2 : Int) (y3 : Int) : Bool := is (x0 = y0 ∧ x1 = y1 ∧ x2 = y2 ∧ x3 = y3)
noncomputable def laws_eqChunk_v (x0 : Int) (x1 : Int) (x2 : Int) (x3 : Int) (y0 : Int) (y1 : Int) (y2 : Int) (y3 : Int) : Bool := true
theorem laws_eqChunk_l (x0 : Int) (x1 : Int) (x2 : Int) (x3 : Int) (y0 : Int) (y1 : Int) (y2 : Int) (y3 : Int) : (laws_eqChunk_c x0 x1 x2 x3 y0 y1 y2 y3) = true → (laws_eqChunk_t x0 x1 x2 x3 y0 y1 y2 y3).val = some (laws_eqChunk_v x0 x1 x2 x3 y0 y1 y2 y3) := by
  intro h
  obtain ⟨rfl, rfl, rfl, rfl⟩ := is_iff.1 h
  unfold laws_eqChunk_t
  refine Tr.n (by simp) ?_
  refine Tr.n (by simp) ?_
  refine Tr.n (by simp) ?_
  refine Tr.n (by simp) ?_
  rfl
noncomputable def laws_eqChunk_S : List Arg → Option (Bool × Res) := fun xs => match xs with
  | [(true, [(.int .i64, TC.i x0), (.int .i64, TC.i x1), (.int .i64, TC.i x2), (.int .i64, TC.i x3)]), (true, [(.int .i64, TC.i y0), (.int .i64, TC.i y1), (.int .i64, TC.i y2), (.int .i64, TC.i y3)])] => some ((laws_eqChunk_c x0 x1 x2 x3 y0 y1 y2 y3), laws_eqChunk_mk (laws_eqChunk_v x0 x1 x2 x3 y0 y1 y2 y3))
  | _ => .none
theorem laws_eqChunk_e (x0 : Int) (x1 : Int) (x2 : Int) (x3 : Int) (y0 : Int) (y1 : Int) (y2 : Int) (y3 : Int) : runF tab FT D34 live 133 noLoops [(true, [(.int .i64, TC.i x0), (.int .i64, TC.i x1), (.int .i64, TC.i x2), (.int .i64, TC.i x3)]), (true, [(.int .i64, TC.i y0), (.int .i64, TC.i y1), (.int .i64, TC.i y2), (.int .i64, TC.i y3)])] = (laws_eqChunk_t x0 x1 x2 x3 y0 y1 y2 y3).run fun p => some (laws_eqChunk_mk p) := by kernel_rfl
theorem laws_eqChunk_s : ∀ xs r, laws_eqChunk_S xs = some (true, r) → runF tab FT D34 live 133 noLoops xs = some r := by
  intro xs r h
  unfold laws_eqChunk_S at h
  split at h
  · simp only [Option.some.injEq, Prod.mk.injEq] at h
    obtain ⟨h1, rfl⟩ := h
    exact fun_told (laws_eqChunk_e _ _ _ _ _ _ _ _) (laws_eqChunk_l _ _ _ _ _ _ _ _) h1
  · cases h
noncomputable def D35 : Dt := also D34 133 laws_eqChunk_S
theorem d35 : DOk Go.Proofs.Try.prog tab D35 := d34.also mixed_ok tab_ok names_ok noLoops_ok laws_eqChunk_s
/-! laws_eqChunkS -/
abbrev laws_eqChunkS_4_σ := List (List TC) × List (List TC) × Int
abbrev laws_eqChunkS_4_ω := (Unit) ⊕ (Unit)
noncomputable def laws_eqChunkS_4_step (A : List (List TC)) (C : List (List TC)) (i : Int) : Tr (laws_eqChunkS_4_σ ⊕ laws_eqChunkS_4_ω) := (.ite ((decide (i < (A.length : Int))) = true) (.ite ((0 : Int) ≤ i ∧ i < (A.length : Int)) (.ite ((0 : Int) ≤ i ∧ i < (C.length : Int)) (.ite ((laws_eqChunk_c ((nth (row A i) 0).int) ((nth (row A i) 1).int) ((nth (row A i) 2).int) ((nth (row A i) 3).int) ((nth (row C i) 0).int) ((nth (row C i) 1).int) ((nth (row C i) 2).int) ((nth (row C i) 3).int)) = true) (.ite ((!(laws_eqChunk_v ((nth (row A i) 0).int) ((nth (row A i) 1).int) ((nth (row A i) 2).int) ((nth (row A i) 3).int) ((nth (row C i) 0).int) ((nth (row C i) 1).int) ((nth (row C i) 2).int) ((nth (row C i) 3).int))) = true) (.ok (.inr (.inl ())))
      (.ok (.inl (A, C, (IntKind.wrap .i64 (i + (1 : Int)))))))
     .no)
    .no)
   .no)
  (.ok (.inr (.inr ()))))
noncomputable def laws_eqChunkS_4_st : laws_eqChunkS_4_σ → Tr (laws_eqChunkS_4_σ ⊕ laws_eqChunkS_4_ω) := fun x => (laws_eqChunkS_4_step (x.1) (x.2.1) (x.2.2))
noncomputable def laws_eqChunkS_o4_1 (A : List (List TC)) (C : List (List TC)) (i : Int) : Bool := is (A = C ∧ i = 0 ∧ Typed tab (.slice 159) (.l A))
noncomputable def laws_eqChunkS_4_fin (A : List (List TC)) (C : List (List TC)) (i : Int) : Told laws_eqChunkS_4_ω := (.leaf (laws_eqChunkS_o4_1 A C i) (.inr ()))
def laws_eqChunkS_4_sl (x : laws_eqChunkS_4_σ) : List Slot := [⟨.val false [⟨.slice 159, .sh, TC.l (x.1)⟩], ⟨0, 0⟩⟩, ⟨.val false [⟨.slice 159, .sh, TC.l (x.2.1)⟩], ⟨0, 0⟩⟩, ⟨.val false [⟨.int .i64, .sh, TC.i (x.2.2)⟩], ⟨0, 0⟩⟩]
def laws_eqChunkS_4_out : laws_eqChunkS_4_ω → Ex × List Slot := (Sum.elim (fun x => (.ret, [⟨.val false [⟨.bool, .sh, TC.b false⟩], ⟨0, 0⟩⟩])) (fun x => (.exit 0, [Slot.none])))
noncomputable def laws_eqChunkS_lo4 : List Slot → Option (Told (Ex × List Slot)) := fun s => match s with
  | [⟨.val false [⟨.slice 159, .sh, TC.l A⟩], ⟨0, 0⟩⟩, ⟨.val false [⟨.slice 159, .sh, TC.l C⟩], ⟨0, 0⟩⟩, ⟨.val false [⟨.int .i64, .sh, TC.i i⟩], ⟨0, 0⟩⟩] => some (((laws_eqChunkS_4_fin A C i)).map laws_eqChunkS_4_out)
  | _ => .none
noncomputable def laws_eqChunkS_lo : LoopTeller := fun r s => bif Nat.beq r 4 then laws_eqChunkS_lo4 s else .none
theorem laws_eqChunkS_4_r (A : List (List TC)) (C : List (List TC)) (i : Int) (fuel : Nat) : rounds (rnd tab FT D35 live 87 laws_eqChunkS_lo 0 4) leave (fuel + 1) (laws_eqChunkS_4_sl (A, C, i)) = ((laws_eqChunkS_4_step A C i)).run (goOn (fun s => rounds (rnd tab FT D35 live 87 laws_eqChunkS_lo 0 4) leave fuel (laws_eqChunkS_4_sl s)) fun w => some (laws_eqChunkS_4_out w)) := by kernel_rfl
theorem laws_eqChunkS_4_h (A : List (List TC)) (C : List (List TC)) (i : Int) (ow : laws_eqChunkS_4_ω) : ((laws_eqChunkS_4_fin A C i)).val = some ow → ∃ fuel, loopN laws_eqChunkS_4_st fuel (A, C, i) = some ow := by
  intro h
  simp only [laws_eqChunkS_4_fin, Told.val] at h
  split at h
  · rename_i ho
    obtain ⟨rfl, rfl, ht⟩ := is_iff.1 ho
    cases h
    have hlen : A.length ≤ 140737488351232 := by have := typed_room ht; simp only [show (tab 159).bytes = 32 from rfl] at this; omega
    refine ⟨_, loopN_run (N := A.length) (fun i => (A, A, (i : Int))) (fun i hi => ?_) ?_ A.length 0 (by omega)⟩
    · skip
      show (laws_eqChunkS_4_step A A (i : Int)).val = _
      unfold laws_eqChunkS_4_step
      refine Tr.t (by simp; omega) ?_
      refine Tr.t (by constructor <;> omega) ?_
      refine Tr.t (by constructor <;> omega) ?_
      refine Tr.t (by first | (apply is_true; and_intros <;> (first | rfl | assumption | (apply spec_l00Rises_cc <;> assumption) | (apply spec_l15Node_cc <;> assumption) | (apply impl_increasing_cc <;> assumption) | (apply impl_ValidNode_cc <;> assumption) | (first | (apply is_true; and_intros <;> (first | rfl | assumption | (apply spec_l00Rises_cc <;> assumption) | (apply spec_l15Node_cc <;> assumption) | (apply impl_increasing_cc <;> assumption) | (apply impl_ValidNode_cc <;> assumption) | (first | (apply is_true; and_intros <;> (first | rfl | assumption | (apply spec_l00Rises_cc <;> assumption) | (apply spec_l15Node_cc <;> assumption) | (apply impl_increasing_cc <;> assumption) | (apply impl_ValidNode_cc <;> assumption) | (first | (apply is_true; and_intros <;> (first | rfl | assumption | (apply spec_l00Rises_cc <;> assumption) | (apply spec_l15Node_cc <;> assumption) | (apply impl_increasing_cc <;> assumption) | (apply impl_ValidNode_cc <;> assumption))) | (apply spec_l00Rises_cc <;> assumption) | (apply spec_l15Node_cc <;> assumption) | (apply impl_increasing_cc <;> assumption) | (apply impl_ValidNode_cc <;> assumption)))) | (apply spec_l00Rises_cc <;> assumption) | (apply spec_l15Node_cc <;> assumption) | (apply impl_increasing_cc <;> assumption) | (apply impl_ValidNode_cc <;> assumption)))) | (apply spec_l00Rises_cc <;> assumption) | (apply spec_l15Node_cc <;> assumption) | (apply impl_increasing_cc <;> assumption) | (apply impl_ValidNode_cc <;> assumption)))) | (apply spec_l00Rises_cc <;> assumption) | (apply spec_l15Node_cc <;> assumption) | (apply impl_increasing_cc <;> assumption) | (apply impl_ValidNode_cc <;> assumption)) ?_
      refine Tr.n (by simp [laws_eqChunk_v]) ?_
      rw [Tr.val_ok, wrap64 (i := (i : Int) + 1) (by omega) (by omega)]; rfl
    · show (laws_eqChunkS_4_step A A (A.length : Int)).val = _
      refine Tr.n (by simp) ?_
      rfl
  · cases h
theorem laws_eqChunkS_is4 : LoopIs tab FT D35 live 87 laws_eqChunkS_lo 0 4 := by
  refine loop_told (sl := laws_eqChunkS_4_sl) (step := laws_eqChunkS_4_st) (out := laws_eqChunkS_4_out) (lor := laws_eqChunkS_lo4) (fin := fun x => (laws_eqChunkS_4_fin (x.1) (x.2.1) (x.2.2))) (fun _ => rfl) ?_ (fun x n => laws_eqChunkS_4_r x.1 x.2.1 x.2.2 n) (fun x ow => laws_eqChunkS_4_h x.1 x.2.1 x.2.2 ow)
  intro s t h
  unfold laws_eqChunkS_lo4 at h
  split at h
  · cases h; exact ⟨(_, _, _), rfl, rfl⟩
  · cases h
noncomputable def laws_eqChunkS_t (A : List (List TC)) (C : List (List TC)) : Tr (Bool) := (.ite ((!((A.length : Int) == (C.length : Int))) = true) (.ok false)
  (.ite ((laws_eqChunkS_o4_1 A C (0 : Int)) = true) (.ok true)
   .no))
def laws_eqChunkS_mk (p : Bool) : Res := [(false, [⟨.bool, .sh, TC.b p⟩])]
noncomputable def laws_eqChunkS_c (A : List (List TC)) (C : List (List TC)) : Bool := is (A = C ∧ Typed tab (.slice 159) (.l A))
noncomputable def laws_eqChunkS_v (A : List (List TC)) (C : List (List TC)) : Bool := true
theorem laws_eqChunkS_l (A : List (List TC)) (C : List (List TC)) : (laws_eqChunkS_c A C) = true → (laws_eqChunkS_t A C).val = some (laws_eqChunkS_v A C) := by
  intro h
  obtain ⟨rfl, ht⟩ := is_iff.1 h
  unfold laws_eqChunkS_t
  refine Tr.n (by simp) ?_
  refine Tr.t (by first | (apply is_true; and_intros <;> (first | rfl | assumption | (apply spec_l00Rises_cc <;> assumption) | (apply spec_l15Node_cc <;> assumption) | (apply impl_increasing_cc <;> assumption) | (apply impl_ValidNode_cc <;> assumption) | (first | (apply is_true; and_intros <;> (first | rfl | assumption | (apply spec_l00Rises_cc <;> assumption) | (apply spec_l15Node_cc <;> assumption) | (apply impl_increasing_cc <;> assumption) | (apply impl_ValidNode_cc <;> assumption) | (first | (apply is_true; and_intros <;> (first | rfl | assumption | (apply spec_l00Rises_cc <;> assumption) | (apply spec_l15Node_cc <;> assumption) | (apply impl_increasing_cc <;> assumption) | (apply impl_ValidNode_cc <;> assumption) | (first | (apply is_true; and_intros <;> (first | rfl | assumption | (apply spec_l00Rises_cc <;> assumption) | (apply spec_l15Node_cc <;> assumption) | (apply impl_increasing_cc <;> assumption) | (apply impl_ValidNode_cc <;> assumption))) | (apply spec_l00Rises_cc <;> assumption) | (apply spec_l15Node_cc <;> assumption) | (apply impl_increasing_cc <;> assumption) | (apply impl_ValidNode_cc <;> assumption)))) | (apply spec_l00Rises_cc <;> assumption) | (apply spec_l15Node_cc <;> assumption) | (apply impl_increasing_cc <;> assumption) | (apply impl_ValidNode_cc <;> assumption)))) | (apply spec_l00Rises_cc <;> assumption) | (apply spec_l15Node_cc <;> assumption) | (apply impl_increasing_cc <;> assumption) | (apply impl_ValidNode_cc <;> assumption)))) | (apply spec_l00Rises_cc <;> assumption) | (apply spec_l15Node_cc <;> assumption) | (apply impl_increasing_cc <;> assumption) | (apply impl_ValidNode_cc <;> assumption)) ?_
  rfl
noncomputable def laws_eqChunkS_S : List Arg → Option (Bool × Res) := fun xs => match xs with
  | [(false, [(.slice 159, TC.l A)]), (false, [(.slice 159, TC.l C)])] => some ((laws_eqChunkS_c A C), laws_eqChunkS_mk (laws_eqChunkS_v A C))
  | _ => .none
theorem laws_eqChunkS_e (A : List (List TC)) (C : List (List TC)) : runF tab FT D35 live 87 laws_eqChunkS_lo [(false, [(.slice 159, TC.l A)]), (false, [(.slice 159, TC.l C)])] = (laws_eqChunkS_t A C).run fun p => some (laws_eqChunkS_mk p) := by kernel_rfl
theorem laws_eqChunkS_s : ∀ xs r, laws_eqChunkS_S xs = some (true, r) → runF tab FT D35 live 87 laws_eqChunkS_lo xs = some r := by
  intro xs r h
  unfold laws_eqChunkS_S at h
  split at h
  · simp only [Option.some.injEq, Prod.mk.injEq] at h
    obtain ⟨h1, rfl⟩ := h
    exact fun_told (laws_eqChunkS_e _ _) (laws_eqChunkS_l _ _) h1
  · cases h
noncomputable def D36 : Dt := also D35 87 laws_eqChunkS_S
theorem d36 : DOk Go.Proofs.Try.prog tab D36 := d35.also mixed_ok tab_ok names_ok (fnLoops_one (by kernel_rfl) laws_eqChunkS_is4) laws_eqChunkS_s
/-! laws_eqInt64S -/
abbrev laws_eqInt64S_4_σ := List (List TC) × List (List TC) × Int
abbrev laws_eqInt64S_4_ω := (Unit) ⊕ (Unit)
noncomputable def laws_eqInt64S_4_step (A : List (List TC)) (C : List (List TC)) (i : Int) : Tr (laws_eqInt64S_4_σ ⊕ laws_eqInt64S_4_ω) := (.ite ((decide (i < (A.length : Int))) = true) (.ite ((0 : Int) ≤ i ∧ i < (A.length : Int)) (.ite ((0 : Int) ≤ i ∧ i < (C.length : Int)) (.ite ((!((nth (row A i) 0).int == (nth (row C i) 0).int)) = true) (.ok (.inr (.inl ())))
     (.ok (.inl (A, C, (IntKind.wrap .i64 (i + (1 : Int)))))))
    .no)
   .no)
  (.ok (.inr (.inr ()))))
noncomputable def laws_eqInt64S_4_st : laws_eqInt64S_4_σ → Tr (laws_eqInt64S_4_σ ⊕ laws_eqInt64S_4_ω) := fun x => (laws_eqInt64S_4_step (x.1) (x.2.1) (x.2.2))
noncomputable def laws_eqInt64S_o4_1 (A : List (List TC)) (C : List (List TC)) (i : Int) : Bool := is (A = C ∧ i = 0 ∧ Typed tab (.slice 2) (.l A))
noncomputable def laws_eqInt64S_4_fin (A : List (List TC)) (C : List (List TC)) (i : Int) : Told laws_eqInt64S_4_ω := (.leaf (laws_eqInt64S_o4_1 A C i) (.inr ()))
def laws_eqInt64S_4_sl (x : laws_eqInt64S_4_σ) : List Slot := [⟨.val false [⟨.slice 2, .sh, TC.l (x.1)⟩], ⟨0, 0⟩⟩, ⟨.val false [⟨.slice 2, .sh, TC.l (x.2.1)⟩], ⟨0, 0⟩⟩, ⟨.val false [⟨.int .i64, .sh, TC.i (x.2.2)⟩], ⟨0, 0⟩⟩]
def laws_eqInt64S_4_out : laws_eqInt64S_4_ω → Ex × List Slot := (Sum.elim (fun x => (.ret, [⟨.val false [⟨.bool, .sh, TC.b false⟩], ⟨0, 0⟩⟩])) (fun x => (.exit 0, [Slot.none])))
noncomputable def laws_eqInt64S_lo4 : List Slot → Option (Told (Ex × List Slot)) := fun s => match s with
  | [⟨.val false [⟨.slice 2, .sh, TC.l A⟩], ⟨0, 0⟩⟩, ⟨.val false [⟨.slice 2, .sh, TC.l C⟩], ⟨0, 0⟩⟩, ⟨.val false [⟨.int .i64, .sh, TC.i i⟩], ⟨0, 0⟩⟩] => some (((laws_eqInt64S_4_fin A C i)).map laws_eqInt64S_4_out)
  | _ => .none
noncomputable def laws_eqInt64S_lo : LoopTeller := fun r s => bif Nat.beq r 4 then laws_eqInt64S_lo4 s else .none
theorem laws_eqInt64S_4_r (A : List (List TC)) (C : List (List TC)) (i : Int) (fuel : Nat) : rounds (rnd tab FT D36 live 88 laws_eqInt64S_lo 0 4) leave (fuel + 1) (laws_eqInt64S_4_sl (A, C, i)) = ((laws_eqInt64S_4_step A C i)).run (goOn (fun s => rounds (rnd tab FT D36 live 88 laws_eqInt64S_lo 0 4) leave fuel (laws_eqInt64S_4_sl s)) fun w => some (laws_eqInt64S_4_out w)) := by kernel_rfl
theorem laws_eqInt64S_4_h (A : List (List TC)) (C : List (List TC)) (i : Int) (ow : laws_eqInt64S_4_ω) : ((laws_eqInt64S_4_fin A C i)).val = some ow → ∃ fuel, loopN laws_eqInt64S_4_st fuel (A, C, i) = some ow := by
  intro h
  simp only [laws_eqInt64S_4_fin, Told.val] at h
  split at h
  · rename_i ho
    obtain ⟨rfl, rfl, ht⟩ := is_iff.1 ho
    cases h
    have hlen : A.length ≤ 140737488351232 := by have := typed_room ht; simp only [show (tab 2).bytes = 8 from rfl] at this; omega
    refine ⟨_, loopN_run (N := A.length) (fun i => (A, A, (i : Int))) (fun i hi => ?_) ?_ A.length 0 (by omega)⟩
    · skip
      show (laws_eqInt64S_4_step A A (i : Int)).val = _
      unfold laws_eqInt64S_4_step
      refine Tr.t (by simp; omega) ?_
      refine Tr.t (by constructor <;> omega) ?_
      refine Tr.t (by constructor <;> omega) ?_
      refine Tr.n (by simp) ?_
      rw [Tr.val_ok, wrap64 (i := (i : Int) + 1) (by omega) (by omega)]; rfl
    · show (laws_eqInt64S_4_step A A (A.length : Int)).val = _
      refine Tr.n (by simp) ?_
      rfl
  · cases h
theorem laws_eqInt64S_is4 : LoopIs tab FT D36 live 88 laws_eqInt64S_lo 0 4 := by
  refine loop_told (sl := laws_eqInt64S_4_sl) (step := laws_eqInt64S_4_st) (out := laws_eqInt64S_4_out) (lor := laws_eqInt64S_lo4) (fin := fun x => (laws_eqInt64S_4_fin (x.1) (x.2.1) (x.2.2))) (fun _ => rfl) ?_ (fun x n => laws_eqInt64S_4_r x.1 x.2.1 x.2.2 n) (fun x ow => laws_eqInt64S_4_h x.1 x.2.1 x.2.2 ow)
  intro s t h
  unfold laws_eqInt64S_lo4 at h
  split at h
  · cases h; exact ⟨(_, _, _), rfl, rfl⟩
  · cases h
noncomputable def laws_eqInt64S_t (A : List (List TC)) (C : List (List TC)) : Tr (Bool) := (.ite ((!((A.length : Int) == (C.length : Int))) = true) (.ok false)
  (.ite ((laws_eqInt64S_o4_1 A C (0 : Int)) = true) (.ok true)
   .no))
def laws_eqInt64S_mk (p : Bool) : Res := [(false, [⟨.bool, .sh, TC.b p⟩])]
noncomputable def laws_eqInt64S_c (A : List (List TC)) (C : List (List TC)) : Bool := is (A = C ∧ Typed tab (.slice 2) (.l A))
noncomputable def laws_eqInt64S_v (A : List (List TC)) (C : List (List TC)) : Bool := true
theorem laws_eqInt64S_l (A : List (List TC)) (C : List (List TC)) : (laws_eqInt64S_c A C) = true → (laws_eqInt64S_t A C).val = some (laws_eqInt64S_v A C) := by
  intro h
  obtain ⟨rfl, ht⟩ := is_iff.1 h
  unfold laws_eqInt64S_t
  refine Tr.n (by simp) ?_
  refine Tr.t (by first | (apply is_true; and_intros <;> (first | rfl | assumption | (apply spec_l00Rises_cc <;> assumption) | (apply spec_l15Node_cc <;> assumption) | (apply impl_increasing_cc <;> assumption) | (apply impl_ValidNode_cc <;> assumption) | (first | (apply is_true; and_intros <;> (first | rfl | assumption | (apply spec_l00Rises_cc <;> assumption) | (apply spec_l15Node_cc <;> assumption) | (apply impl_increasing_cc <;> assumption) | (apply impl_ValidNode_cc <;> assumption) | (first | (apply is_true; and_intros <;> (first | rfl | assumption | (apply spec_l00Rises_cc <;> assumption) | (apply spec_l15Node_cc <;> assumption) | (apply impl_increasing_cc <;> assumption) | (apply impl_ValidNode_cc <;> assumption) | (first | (apply is_true; and_intros <;> (first | rfl | assumption | (apply spec_l00Rises_cc <;> assumption) | (apply spec_l15Node_cc <;> assumption) | (apply impl_increasing_cc <;> assumption) | (apply impl_ValidNode_cc <;> assumption))) | (apply spec_l00Rises_cc <;> assumption) | (apply spec_l15Node_cc <;> assumption) | (apply impl_increasing_cc <;> assumption) | (apply impl_ValidNode_cc <;> assumption)))) | (apply spec_l00Rises_cc <;> assumption) | (apply spec_l15Node_cc <;> assumption) | (apply impl_increasing_cc <;> assumption) | (apply impl_ValidNode_cc <;> assumption)))) | (apply spec_l00Rises_cc <;> assumption) | (apply spec_l15Node_cc <;> assumption) | (apply impl_increasing_cc <;> assumption) | (apply impl_ValidNode_cc <;> assumption)))) | (apply spec_l00Rises_cc <;> assumption) | (apply spec_l15Node_cc <;> assumption) | (apply impl_increasing_cc <;> assumption) | (apply impl_ValidNode_cc <;> assumption)) ?_
  rfl
noncomputable def laws_eqInt64S_S : List Arg → Option (Bool × Res) := fun xs => match xs with
  | [(false, [(.slice 2, TC.l A)]), (false, [(.slice 2, TC.l C)])] => some ((laws_eqInt64S_c A C), laws_eqInt64S_mk (laws_eqInt64S_v A C))
  | _ => .none
theorem laws_eqInt64S_e (A : List (List TC)) (C : List (List TC)) : runF tab FT D36 live 88 laws_eqInt64S_lo [(false, [(.slice 2, TC.l A)]), (false, [(.slice 2, TC.l C)])] = (laws_eqInt64S_t A C).run fun p => some (laws_eqInt64S_mk p) := by kernel_rfl
theorem laws_eqInt64S_s : ∀ xs r, laws_eqInt64S_S xs = some (true, r) → runF tab FT D36 live 88 laws_eqInt64S_lo xs = some r := by
  intro xs r h
  unfold laws_eqInt64S_S at h
  split at h
  · simp only [Option.some.injEq, Prod.mk.injEq] at h
    obtain ⟨h1, rfl⟩ := h
    exact fun_told (laws_eqInt64S_e _ _) (laws_eqInt64S_l _ _) h1
  · cases h
noncomputable def D37 : Dt := also D36 88 laws_eqInt64S_S
theorem d37 : DOk Go.Proofs.Try.prog tab D37 := d36.also mixed_ok tab_ok names_ok (fnLoops_one (by kernel_rfl) laws_eqInt64S_is4) laws_eqInt64S_s
/-! laws_eqNode -/
noncomputable def laws_eqNode_t (x0 : Bool) (x1 : List (List TC)) (x2 : List (List TC)) (x3 : List (List TC)) (y0 : Bool) (y1 : List (List TC)) (y2 : List (List TC)) (y3 : List (List TC)) : Tr (Bool) := (.ite ((!(x0 == y0)) = true) (.ok false)
  (.ite ((laws_eqChunkS_c x1 y1) = true) (.ite ((!(laws_eqChunkS_v x1 y1)) = true) (.ok false)
    (.ite ((laws_eqInt64S_c x2 y2) = true) (.ite ((!(laws_eqInt64S_v x2 y2)) = true) (.ok false)
      (.ite ((laws_eqInt64S_c x3 y3) = true) (.ite ((!(laws_eqInt64S_v x3 y3)) = true) (.ok false)
        (.ok true))
       .no))
     .no))
   .no))
def laws_eqNode_mk (p : Bool) : Res := [(false, [⟨.bool, .sh, TC.b p⟩])]
noncomputable def laws_eqNode_c (x0 : Bool) (x1 : List (List TC)) (x2 : List (List TC)) (x3 : List (List TC)) (y0 : Bool) (y1 : List (List TC)) (y2 : List (List TC)) (y3 : List (List TC)) : Bool := is (x0 = y0 ∧ x1 = y1 ∧ x2 = y2 ∧ x3 = y3 ∧ Typed tab (.slice 159) (.l x1) ∧ Typed tab (.slice 2) (.l x2) ∧ Typed tab (.slice 2) (.l x3))
noncomputable def laws_eqNode_v (x0 : Bool) (x1 : List (List TC)) (x2 : List (List TC)) (x3 : List (List TC)) (y0 : Bool) (y1 : List (List TC)) (y2 : List (List TC)) (y3 : List (List TC)) : Bool := true
theorem laws_eqNode_l (x0 : Bool) (x1 : List (List TC)) (x2 : List (List TC)) (x3 : List (List TC)) (y0 : Bool) (y1 : List (List TC)) (y2 : List (List TC)) (y3 : List (List TC)) : (laws_eqNode_c x0 x1 x2 x3 y0 y1 y2 y3) = true → (laws_eqNode_t x0 x1 x2 x3 y0 y1 y2 y3).val = some (laws_eqNode_v x0 x1 x2 x3 y0 y1 y2 y3) := by
  intro h
  obtain ⟨rfl, rfl, rfl, rfl, t0, t1, t2⟩ := is_iff.1 h
  unfold laws_eqNode_t
  refine Tr.n (by simp) ?_
  refine Tr.t (by first | (apply is_true; and_intros <;> (first | rfl | assumption | (apply spec_l00Rises_cc <;> assumption) | (apply spec_l15Node_cc <;> assumption) | (apply impl_increasing_cc <;> assumption) | (apply impl_ValidNode_cc <;> assumption) | (first | (apply is_true; and_intros <;> (first | rfl | assumption | (apply spec_l00Rises_cc <;> assumption) | (apply spec_l15Node_cc <;> assumption) | (apply impl_increasing_cc <;> assumption) | (apply impl_ValidNode_cc <;> assumption) | (first | (apply is_true; and_intros <;> (first | rfl | assumption | (apply spec_l00Rises_cc <;> assumption) | (apply spec_l15Node_cc <;> assumption) | (apply impl_increasing_cc <;> assumption) | (apply impl_ValidNode_cc <;> assumption) | (first | (apply is_true; and_intros <;> (first | rfl | assumption | (apply spec_l00Rises_cc <;> assumption) | (apply spec_l15Node_cc <;> assumption) | (apply impl_increasing_cc <;> assumption) | (apply impl_ValidNode_cc <;> assumption))) | (apply spec_l00Rises_cc <;> assumption) | (apply spec_l15Node_cc <;> assumption) | (apply impl_increasing_cc <;> assumption) | (apply impl_ValidNode_cc <;> assumption)))) | (apply spec_l00Rises_cc <;> assumption) | (apply spec_l15Node_cc <;> assumption) | (apply impl_increasing_cc <;> assumption) | (apply impl_ValidNode_cc <;> assumption)))) | (apply spec_l00Rises_cc <;> assumption) | (apply spec_l15Node_cc <;> assumption) | (apply impl_increasing_cc <;> assumption) | (apply impl_ValidNode_cc <;> assumption)))) | (apply spec_l00Rises_cc <;> assumption) | (apply spec_l15Node_cc <;> assumption) | (apply impl_increasing_cc <;> assumption) | (apply impl_ValidNode_cc <;> assumption)) ?_
  refine Tr.n (by simp [laws_eqChunkS_v]) ?_
  refine Tr.t (by first | (apply is_true; and_intros <;> (first | rfl | assumption | (apply spec_l00Rises_cc <;> assumption) | (apply spec_l15Node_cc <;> assumption) | (apply impl_increasing_cc <;> assumption) | (apply impl_ValidNode_cc <;> assumption) | (first | (apply is_true; and_intros <;> (first | rfl | assumption | (apply spec_l00Rises_cc <;> assumption) | (apply spec_l15Node_cc <;> assumption) | (apply impl_increasing_cc <;> assumption) | (apply impl_ValidNode_cc <;> assumption) | (first | (apply is_true; and_intros <;> (first | rfl | assumption | (apply spec_l00Rises_cc <;> assumption) | (apply spec_l15Node_cc <;> assumption) | (apply impl_increasing_cc <;> assumption) | (apply impl_ValidNode_cc <;> assumption) | (first | (apply is_true; and_intros <;> (first | rfl | assumption | (apply spec_l00Rises_cc <;> assumption) | (apply spec_l15Node_cc <;> assumption) | (apply impl_increasing_cc <;> assumption) | (apply impl_ValidNode_cc <;> assumption))) | (apply spec_l00Rises_cc <;> assumption) | (apply spec_l15Node_cc <;> assumption) | (apply impl_increasing_cc <;> assumption) | (apply impl_ValidNode_cc <;> assumption)))) | (apply spec_l00Rises_cc <;> assumption) | (apply spec_l15Node_cc <;> assumption) | (apply impl_increasing_cc <;> assumption) | (apply impl_ValidNode_cc <;> assumption)))) | (apply spec_l00Rises_cc <;> assumption) | (apply spec_l15Node_cc <;> assumption) | (apply impl_increasing_cc <;> assumption) | (apply impl_ValidNode_cc <;> assumption)))) | (apply spec_l00Rises_cc <;> assumption) | (apply spec_l15Node_cc <;> assumption) | (apply impl_increasing_cc <;> assumption) | (apply impl_ValidNode_cc <;> assumption)) ?_
  refine Tr.n (by simp [laws_eqInt64S_v]) ?_
  refine Tr.t (by first | (apply is_true; and_intros <;> (first | rfl | assumption | (apply spec_l00Rises_cc <;> assumption) | (apply spec_l15Node_cc <;> assumption) | (apply impl_increasing_cc <;> assumption) | (apply impl_ValidNode_cc <;> assumption) | (first | (apply is_true; and_intros <;> (first | rfl | assumption | (apply spec_l00Rises_cc <;> assumption) | (apply spec_l15Node_cc <;> assumption) | (apply impl_increasing_cc <;> assumption) | (apply impl_ValidNode_cc <;> assumption) | (first | (apply is_true; and_intros <;> (first | rfl | assumption | (apply spec_l00Rises_cc <;> assumption) | (apply spec_l15Node_cc <;> assumption) | (apply impl_increasing_cc <;> assumption) | (apply impl_ValidNode_cc <;> assumption) | (first | (apply is_true; and_intros <;> (first | rfl | assumption | (apply spec_l00Rises_cc <;> assumption) | (apply spec_l15Node_cc <;> assumption) | (apply impl_increasing_cc <;> assumption) | (apply impl_ValidNode_cc <;> assumption))) | (apply spec_l00Rises_cc <;> assumption) | (apply spec_l15Node_cc <;> assumption) | (apply impl_increasing_cc <;> assumption) | (apply impl_ValidNode_cc <;> assumption)))) | (apply spec_l00Rises_cc <;> assumption) | (apply spec_l15Node_cc <;> assumption) | (apply impl_increasing_cc <;> assumption) | (apply impl_ValidNode_cc <;> assumption)))) | (apply spec_l00Rises_cc <;> assumption) | (apply spec_l15Node_cc <;> assumption) | (apply impl_increasing_cc <;> assumption) | (apply impl_ValidNode_cc <;> assumption)))) | (apply spec_l00Rises_cc <;> assumption) | (apply spec_l15Node_cc <;> assumption) | (apply impl_increasing_cc <;> assumption) | (apply impl_ValidNode_cc <;> assumption)) ?_
  refine Tr.n (by simp [laws_eqInt64S_v]) ?_
  rfl
noncomputable def laws_eqNode_S : List Arg → Option (Bool × Res) := fun xs => match xs with
  | [(true, [(.bool, TC.b x0), (.slice 159, TC.l x1), (.slice 2, TC.l x2), (.slice 2, TC.l x3)]), (true, [(.bool, TC.b y0), (.slice 159, TC.l y1), (.slice 2, TC.l y2), (.slice 2, TC.l y3)])] => some ((laws_eqNode_c x0 x1 x2 x3 y0 y1 y2 y3), laws_eqNode_mk (laws_eqNode_v x0 x1 x2 x3 y0 y1 y2 y3))
  | _ => .none
theorem laws_eqNode_e (x0 : Bool) (x1 : List (List TC)) (x2 : List (List TC)) (x3 : List (List TC)) (y0 : Bool) (y1 : List (List TC)) (y2 : List (List TC)) (y3 : List (List TC)) : runF tab FT D37 live 40 noLoops [(true, [(.bool, TC.b x0), (.slice 159, TC.l x1), (.slice 2, TC.l x2), (.slice 2, TC.l x3)]), (true, [(.bool, TC.b y0), (.slice 159, TC.l y1), (.slice 2, TC.l y2), (.slice 2, TC.l y3)])] = (laws_eqNode_t x0 x1 x2 x3 y0 y1 y2 y3).run fun p => some (laws_eqNode_mk p) := by kernel_rfl
theorem laws_eqNode_s : ∀ xs r, laws_eqNode_S xs = some (true, r) → runF tab FT D37 live 40 noLoops xs = some r := by
  intro xs r h
  unfold laws_eqNode_S at h
  split at h
  · simp only [Option.some.injEq, Prod.mk.injEq] at h
    obtain ⟨h1, rfl⟩ := h
    exact fun_told (laws_eqNode_e _ _ _ _ _ _ _ _) (laws_eqNode_l _ _ _ _ _ _ _ _) h1
  · cases h
noncomputable def D38 : Dt := also D37 40 laws_eqNode_S
theorem d38 : DOk Go.Proofs.Try.prog tab D38 := d37.also mixed_ok tab_ok names_ok noLoops_ok laws_eqNode_s
/-! the law -/
noncomputable def laws_FnExactEncodeNode_t (x0 : Bool) (x1 : List (List TC)) (x2 : List (List TC)) (x3 : List (List TC)) : Tr Bool := (.ite ((decide ((laws_szNode_v x0 x1 x2 x3 (1048576 : Int)) < (0 : Int))) = true) (.ok true)
  (.ite ((laws_toNode_c x0 x1 x2 x3) = true) (.ite ((spec_EncodeNode_c ((laws_toNode_v x0 x1 x2 x3).1) ((laws_toNode_v x0 x1 x2 x3).2.1) ((laws_toNode_v x0 x1 x2 x3).2.2.1) ((laws_toNode_v x0 x1 x2 x3).2.2.2)) = true) (.ite ((laws_toNode_c x0 x1 x2 x3) = true) (.ite ((impl_EncodeNode_c ((laws_toNode_v x0 x1 x2 x3).1) ((laws_toNode_v x0 x1 x2 x3).2.1) ((laws_toNode_v x0 x1 x2 x3).2.2.1) ((laws_toNode_v x0 x1 x2 x3).2.2.2)) = true) (.ite ((!((impl_EncodeNode_v ((laws_toNode_v x0 x1 x2 x3).1) ((laws_toNode_v x0 x1 x2 x3).2.1) ((laws_toNode_v x0 x1 x2 x3).2.2.1) ((laws_toNode_v x0 x1 x2 x3).2.2.2)) == (spec_EncodeNode_v ((laws_toNode_v x0 x1 x2 x3).1) ((laws_toNode_v x0 x1 x2 x3).2.1) ((laws_toNode_v x0 x1 x2 x3).2.2.1) ((laws_toNode_v x0 x1 x2 x3).2.2.2)))) = true) (.ok false)
       (.ite ((laws_toNode_c x0 x1 x2 x3) = true) (.ite ((laws_eqNode_c ((laws_toNode_v x0 x1 x2 x3).1) ((laws_toNode_v x0 x1 x2 x3).2.1) ((laws_toNode_v x0 x1 x2 x3).2.2.1) ((laws_toNode_v x0 x1 x2 x3).2.2.2) ((laws_toNode_v x0 x1 x2 x3).1) ((laws_toNode_v x0 x1 x2 x3).2.1) ((laws_toNode_v x0 x1 x2 x3).2.2.1) ((laws_toNode_v x0 x1 x2 x3).2.2.2)) = true) (.ite ((!(laws_eqNode_v ((laws_toNode_v x0 x1 x2 x3).1) ((laws_toNode_v x0 x1 x2 x3).2.1) ((laws_toNode_v x0 x1 x2 x3).2.2.1) ((laws_toNode_v x0 x1 x2 x3).2.2.2) ((laws_toNode_v x0 x1 x2 x3).1) ((laws_toNode_v x0 x1 x2 x3).2.1) ((laws_toNode_v x0 x1 x2 x3).2.2.1) ((laws_toNode_v x0 x1 x2 x3).2.2.2))) = true) (.ok false)
          (.ok true))
         .no)
        .no))
      .no)
     .no)
    .no)
   .no))
theorem laws_FnExactEncodeNode_e (x0 : Bool) (x1 : List (List TC)) (x2 : List (List TC)) (x3 : List (List TC)) : runF tab FT D38 live 8 noLoops [(true, [(.bool, TC.b x0), (.slice 161, TC.l x1), (.slice 2, TC.l x2), (.slice 2, TC.l x3)])] = (laws_FnExactEncodeNode_t x0 x1 x2 x3).run fun p => some [(false, [⟨.bool, .sh, .b p⟩])] := by kernel_rfl
theorem EncodeNode_eq (L : Bool) (C K D : List (List TC)) : spec_EncodeNode_v L C K D = impl_EncodeNode_v L C K D := by
  rw [spec_EncodeNode_h, impl_EncodeNode_h]
theorem laws_FnExactEncodeNode_p (x0 : Bool) (x1 : List (List TC)) (x2 : List (List TC)) (x3 : List (List TC)) (h0 : Typed tab (.bool) (.b x0)) (h1 : Typed tab (.slice 161) (.l x1)) (h2 : Typed tab (.slice 2) (.l x2)) (h3 : Typed tab (.slice 2) (.l x3)) : (laws_FnExactEncodeNode_t x0 x1 x2 x3).val = some true := by
  have t1_159 := laws_toChunkS_ty h1
  have t2_2 := laws_toInt64S_ty h2
  have t3_2 := laws_toInt64S_ty h3
  unfold laws_FnExactEncodeNode_t
  rw [EncodeNode_eq]
  refine Tr.y ?_
  refine Tr.t (by first | exact (by first | (apply is_true; and_intros <;> (first | rfl | assumption | (apply spec_l00Rises_cc <;> assumption) | (apply spec_l15Node_cc <;> assumption) | (apply impl_increasing_cc <;> assumption) | (apply impl_ValidNode_cc <;> assumption) | (first | (apply is_true; and_intros <;> (first | rfl | assumption | (apply spec_l00Rises_cc <;> assumption) | (apply spec_l15Node_cc <;> assumption) | (apply impl_increasing_cc <;> assumption) | (apply impl_ValidNode_cc <;> assumption) | (first | (apply is_true; and_intros <;> (first | rfl | assumption | (apply spec_l00Rises_cc <;> assumption) | (apply spec_l15Node_cc <;> assumption) | (apply impl_increasing_cc <;> assumption) | (apply impl_ValidNode_cc <;> assumption) | (first | (apply is_true; and_intros <;> (first | rfl | assumption | (apply spec_l00Rises_cc <;> assumption) | (apply spec_l15Node_cc <;> assumption) | (apply impl_increasing_cc <;> assumption) | (apply impl_ValidNode_cc <;> assumption))) | (apply spec_l00Rises_cc <;> assumption) | (apply spec_l15Node_cc <;> assumption) | (apply impl_increasing_cc <;> assumption) | (apply impl_ValidNode_cc <;> assumption)))) | (apply spec_l00Rises_cc <;> assumption) | (apply spec_l15Node_cc <;> assumption) | (apply impl_increasing_cc <;> assumption) | (apply impl_ValidNode_cc <;> assumption)))) | (apply spec_l00Rises_cc <;> assumption) | (apply spec_l15Node_cc <;> assumption) | (apply impl_increasing_cc <;> assumption) | (apply impl_ValidNode_cc <;> assumption)))) | (apply spec_l00Rises_cc <;> assumption) | (apply spec_l15Node_cc <;> assumption) | (apply impl_increasing_cc <;> assumption) | (apply impl_ValidNode_cc <;> assumption)) | simp [*]) ?_
  refine Tr.t (by first | exact (by first | (apply is_true; and_intros <;> (first | rfl | assumption | (apply spec_l00Rises_cc <;> assumption) | (apply spec_l15Node_cc <;> assumption) | (apply impl_increasing_cc <;> assumption) | (apply impl_ValidNode_cc <;> assumption) | (first | (apply is_true; and_intros <;> (first | rfl | assumption | (apply spec_l00Rises_cc <;> assumption) | (apply spec_l15Node_cc <;> assumption) | (apply impl_increasing_cc <;> assumption) | (apply impl_ValidNode_cc <;> assumption) | (first | (apply is_true; and_intros <;> (first | rfl | assumption | (apply spec_l00Rises_cc <;> assumption) | (apply spec_l15Node_cc <;> assumption) | (apply impl_increasing_cc <;> assumption) | (apply impl_ValidNode_cc <;> assumption) | (first | (apply is_true; and_intros <;> (first | rfl | assumption | (apply spec_l00Rises_cc <;> assumption) | (apply spec_l15Node_cc <;> assumption) | (apply impl_increasing_cc <;> assumption) | (apply impl_ValidNode_cc <;> assumption))) | (apply spec_l00Rises_cc <;> assumption) | (apply spec_l15Node_cc <;> assumption) | (apply impl_increasing_cc <;> assumption) | (apply impl_ValidNode_cc <;> assumption)))) | (apply spec_l00Rises_cc <;> assumption) | (apply spec_l15Node_cc <;> assumption) | (apply impl_increasing_cc <;> assumption) | (apply impl_ValidNode_cc <;> assumption)))) | (apply spec_l00Rises_cc <;> assumption) | (apply spec_l15Node_cc <;> assumption) | (apply impl_increasing_cc <;> assumption) | (apply impl_ValidNode_cc <;> assumption)))) | (apply spec_l00Rises_cc <;> assumption) | (apply spec_l15Node_cc <;> assumption) | (apply impl_increasing_cc <;> assumption) | (apply impl_ValidNode_cc <;> assumption)) | simp [*]) ?_
  refine Tr.t (by first | exact (by first | (apply is_true; and_intros <;> (first | rfl | assumption | (apply spec_l00Rises_cc <;> assumption) | (apply spec_l15Node_cc <;> assumption) | (apply impl_increasing_cc <;> assumption) | (apply impl_ValidNode_cc <;> assumption) | (first | (apply is_true; and_intros <;> (first | rfl | assumption | (apply spec_l00Rises_cc <;> assumption) | (apply spec_l15Node_cc <;> assumption) | (apply impl_increasing_cc <;> assumption) | (apply impl_ValidNode_cc <;> assumption) | (first | (apply is_true; and_intros <;> (first | rfl | assumption | (apply spec_l00Rises_cc <;> assumption) | (apply spec_l15Node_cc <;> assumption) | (apply impl_increasing_cc <;> assumption) | (apply impl_ValidNode_cc <;> assumption) | (first | (apply is_true; and_intros <;> (first | rfl | assumption | (apply spec_l00Rises_cc <;> assumption) | (apply spec_l15Node_cc <;> assumption) | (apply impl_increasing_cc <;> assumption) | (apply impl_ValidNode_cc <;> assumption))) | (apply spec_l00Rises_cc <;> assumption) | (apply spec_l15Node_cc <;> assumption) | (apply impl_increasing_cc <;> assumption) | (apply impl_ValidNode_cc <;> assumption)))) | (apply spec_l00Rises_cc <;> assumption) | (apply spec_l15Node_cc <;> assumption) | (apply impl_increasing_cc <;> assumption) | (apply impl_ValidNode_cc <;> assumption)))) | (apply spec_l00Rises_cc <;> assumption) | (apply spec_l15Node_cc <;> assumption) | (apply impl_increasing_cc <;> assumption) | (apply impl_ValidNode_cc <;> assumption)))) | (apply spec_l00Rises_cc <;> assumption) | (apply spec_l15Node_cc <;> assumption) | (apply impl_increasing_cc <;> assumption) | (apply impl_ValidNode_cc <;> assumption)) | simp [*]) ?_
  refine Tr.t (by first | exact (by first | (apply is_true; and_intros <;> (first | rfl | assumption | (apply spec_l00Rises_cc <;> assumption) | (apply spec_l15Node_cc <;> assumption) | (apply impl_increasing_cc <;> assumption) | (apply impl_ValidNode_cc <;> assumption) | (first | (apply is_true; and_intros <;> (first | rfl | assumption | (apply spec_l00Rises_cc <;> assumption) | (apply spec_l15Node_cc <;> assumption) | (apply impl_increasing_cc <;> assumption) | (apply impl_ValidNode_cc <;> assumption) | (first | (apply is_true; and_intros <;> (first | rfl | assumption | (apply spec_l00Rises_cc <;> assumption) | (apply spec_l15Node_cc <;> assumption) | (apply impl_increasing_cc <;> assumption) | (apply impl_ValidNode_cc <;> assumption) | (first | (apply is_true; and_intros <;> (first | rfl | assumption | (apply spec_l00Rises_cc <;> assumption) | (apply spec_l15Node_cc <;> assumption) | (apply impl_increasing_cc <;> assumption) | (apply impl_ValidNode_cc <;> assumption))) | (apply spec_l00Rises_cc <;> assumption) | (apply spec_l15Node_cc <;> assumption) | (apply impl_increasing_cc <;> assumption) | (apply impl_ValidNode_cc <;> assumption)))) | (apply spec_l00Rises_cc <;> assumption) | (apply spec_l15Node_cc <;> assumption) | (apply impl_increasing_cc <;> assumption) | (apply impl_ValidNode_cc <;> assumption)))) | (apply spec_l00Rises_cc <;> assumption) | (apply spec_l15Node_cc <;> assumption) | (apply impl_increasing_cc <;> assumption) | (apply impl_ValidNode_cc <;> assumption)))) | (apply spec_l00Rises_cc <;> assumption) | (apply spec_l15Node_cc <;> assumption) | (apply impl_increasing_cc <;> assumption) | (apply impl_ValidNode_cc <;> assumption)) | simp [*]) ?_
  refine Tr.n (by first | (simp [laws_szChunkS_v, laws_szInt64S_v, laws_szNode_v, laws_toChunk_v, laws_toChunkS_u3_1, laws_toChunkS_v, laws_toInt64S_u3_1, laws_toInt64S_v, laws_toNode_v, spec_l00In_v, spec_l15Chunk_v, spec_l00Rises_k2_1, spec_l00Rises_vv, spec_l15Node_k11_1, spec_l15Node_k3_1, spec_l15Node_vv, spec_l01Bytes_u3_1, spec_l01Bytes_v, spec_l01Pad_v, spec_l15Encode_u16_1, spec_l15Encode_u12_1_4, spec_l15Encode_u5_1, spec_l15Encode_v, spec_EncodeNode_v, impl_keysOf_u3_1, impl_keysOf_v, impl_increasing_k2_1, impl_increasing_vv, impl_within_v, impl_chunkOk_v, impl_ValidNode_1_v, slices_IndexFunc_impl_Chunk_impl_Chunk_k2_1, slices_IndexFunc_impl_Chunk_impl_Chunk_u2_3, slices_IndexFunc_impl_Chunk_impl_Chunk_v, slices_ContainsFunc_impl_Chunk_impl_Chunk_v, impl_allWithin_1_v, slices_IndexFunc_int64_int64_k2_1, slices_IndexFunc_int64_int64_u2_3, slices_IndexFunc_int64_int64_v, slices_ContainsFunc_int64_int64_v, impl_allWithin_v, impl_ValidNode_vv, impl_putBytes_u3_1, impl_putBytes_v, impl_putPairs_u3_1, impl_putPairs_v, strings_Repeat_v, impl_zeros_v, impl_padded_v, impl_Node_encode_u5_1, impl_Node_encode_v, impl_EncodeNode_v, laws_eqChunk_v, laws_eqChunkS_v, laws_eqInt64S_v, laws_eqNode_v]; done) | (simp only [laws_szChunkS_v, laws_szInt64S_v, laws_szNode_v, laws_toChunk_v, laws_toChunkS_u3_1, laws_toChunkS_v, laws_toInt64S_u3_1, laws_toInt64S_v, laws_toNode_v, spec_l00In_v, spec_l15Chunk_v, spec_l00Rises_k2_1, spec_l00Rises_vv, spec_l15Node_k11_1, spec_l15Node_k3_1, spec_l15Node_vv, spec_l01Bytes_u3_1, spec_l01Bytes_v, spec_l01Pad_v, spec_l15Encode_u16_1, spec_l15Encode_u12_1_4, spec_l15Encode_u5_1, spec_l15Encode_v, spec_EncodeNode_v, impl_keysOf_u3_1, impl_keysOf_v, impl_increasing_k2_1, impl_increasing_vv, impl_within_v, impl_chunkOk_v, impl_ValidNode_1_v, slices_IndexFunc_impl_Chunk_impl_Chunk_k2_1, slices_IndexFunc_impl_Chunk_impl_Chunk_u2_3, slices_IndexFunc_impl_Chunk_impl_Chunk_v, slices_ContainsFunc_impl_Chunk_impl_Chunk_v, impl_allWithin_1_v, slices_IndexFunc_int64_int64_k2_1, slices_IndexFunc_int64_int64_u2_3, slices_IndexFunc_int64_int64_v, slices_ContainsFunc_int64_int64_v, impl_allWithin_v, impl_ValidNode_vv, impl_putBytes_u3_1, impl_putBytes_v, impl_putPairs_u3_1, impl_putPairs_v, strings_Repeat_v, impl_zeros_v, impl_padded_v, impl_Node_encode_u5_1, impl_Node_encode_v, impl_EncodeNode_v, laws_eqChunk_v, laws_eqChunkS_v, laws_eqInt64S_v, laws_eqNode_v, nth0, nth1, nth2, nth3, nth4, nth5, int_i, bool_b, str_s, list_l, cells_p, Bool.not_eq_true, bne_self_eq_false, beq_self_eq_true, Bool.not_true]; done) | (simp [laws_szChunkS_v, laws_szInt64S_v, laws_szNode_v, laws_toChunk_v, laws_toChunkS_u3_1, laws_toChunkS_v, laws_toInt64S_u3_1, laws_toInt64S_v, laws_toNode_v, spec_l00In_v, spec_l15Chunk_v, spec_l00Rises_k2_1, spec_l00Rises_vv, spec_l15Node_k11_1, spec_l15Node_k3_1, spec_l15Node_vv, spec_l01Bytes_u3_1, spec_l01Bytes_v, spec_l01Pad_v, spec_l15Encode_u16_1, spec_l15Encode_u12_1_4, spec_l15Encode_u5_1, spec_l15Encode_v, spec_EncodeNode_v, impl_keysOf_u3_1, impl_keysOf_v, impl_increasing_k2_1, impl_increasing_vv, impl_within_v, impl_chunkOk_v, impl_ValidNode_1_v, slices_IndexFunc_impl_Chunk_impl_Chunk_k2_1, slices_IndexFunc_impl_Chunk_impl_Chunk_u2_3, slices_IndexFunc_impl_Chunk_impl_Chunk_v, slices_ContainsFunc_impl_Chunk_impl_Chunk_v, impl_allWithin_1_v, slices_IndexFunc_int64_int64_k2_1, slices_IndexFunc_int64_int64_u2_3, slices_IndexFunc_int64_int64_v, slices_ContainsFunc_int64_int64_v, impl_allWithin_v, impl_ValidNode_vv, impl_putBytes_u3_1, impl_putBytes_v, impl_putPairs_u3_1, impl_putPairs_v, strings_Repeat_v, impl_zeros_v, impl_padded_v, impl_Node_encode_u5_1, impl_Node_encode_v, impl_EncodeNode_v, laws_eqChunk_v, laws_eqChunkS_v, laws_eqInt64S_v, laws_eqNode_v, nth0, nth1, nth2, nth3, nth4, nth5, int_i, bool_b, str_s, list_l, cells_p]; done) | (simp [laws_szChunkS_v, laws_szInt64S_v, laws_szNode_v, laws_toChunk_v, laws_toChunkS_u3_1, laws_toChunkS_v, laws_toInt64S_u3_1, laws_toInt64S_v, laws_toNode_v, spec_l00In_v, spec_l15Chunk_v, spec_l00Rises_k2_1, spec_l00Rises_vv, spec_l15Node_k11_1, spec_l15Node_k3_1, spec_l15Node_vv, spec_l01Bytes_u3_1, spec_l01Bytes_v, spec_l01Pad_v, spec_l15Encode_u16_1, spec_l15Encode_u12_1_4, spec_l15Encode_u5_1, spec_l15Encode_v, spec_EncodeNode_v, impl_keysOf_u3_1, impl_keysOf_v, impl_increasing_k2_1, impl_increasing_vv, impl_within_v, impl_chunkOk_v, impl_ValidNode_1_v, slices_IndexFunc_impl_Chunk_impl_Chunk_k2_1, slices_IndexFunc_impl_Chunk_impl_Chunk_u2_3, slices_IndexFunc_impl_Chunk_impl_Chunk_v, slices_ContainsFunc_impl_Chunk_impl_Chunk_v, impl_allWithin_1_v, slices_IndexFunc_int64_int64_k2_1, slices_IndexFunc_int64_int64_u2_3, slices_IndexFunc_int64_int64_v, slices_ContainsFunc_int64_int64_v, impl_allWithin_v, impl_ValidNode_vv, impl_putBytes_u3_1, impl_putBytes_v, impl_putPairs_u3_1, impl_putPairs_v, strings_Repeat_v, impl_zeros_v, impl_padded_v, impl_Node_encode_u5_1, impl_Node_encode_v, impl_EncodeNode_v, laws_eqChunk_v, laws_eqChunkS_v, laws_eqInt64S_v, laws_eqNode_v, nth0, nth1, nth2, nth3, nth4, nth5, int_i, bool_b, str_s, list_l, cells_p] <;> rfl)) ?_
  refine Tr.t (by first | exact (by first | (apply is_true; and_intros <;> (first | rfl | assumption | (apply spec_l00Rises_cc <;> assumption) | (apply spec_l15Node_cc <;> assumption) | (apply impl_increasing_cc <;> assumption) | (apply impl_ValidNode_cc <;> assumption) | (first | (apply is_true; and_intros <;> (first | rfl | assumption | (apply spec_l00Rises_cc <;> assumption) | (apply spec_l15Node_cc <;> assumption) | (apply impl_increasing_cc <;> assumption) | (apply impl_ValidNode_cc <;> assumption) | (first | (apply is_true; and_intros <;> (first | rfl | assumption | (apply spec_l00Rises_cc <;> assumption) | (apply spec_l15Node_cc <;> assumption) | (apply impl_increasing_cc <;> assumption) | (apply impl_ValidNode_cc <;> assumption) | (first | (apply is_true; and_intros <;> (first | rfl | assumption | (apply spec_l00Rises_cc <;> assumption) | (apply spec_l15Node_cc <;> assumption) | (apply impl_increasing_cc <;> assumption) | (apply impl_ValidNode_cc <;> assumption))) | (apply spec_l00Rises_cc <;> assumption) | (apply spec_l15Node_cc <;> assumption) | (apply impl_increasing_cc <;> assumption) | (apply impl_ValidNode_cc <;> assumption)))) | (apply spec_l00Rises_cc <;> assumption) | (apply spec_l15Node_cc <;> assumption) | (apply impl_increasing_cc <;> assumption) | (apply impl_ValidNode_cc <;> assumption)))) | (apply spec_l00Rises_cc <;> assumption) | (apply spec_l15Node_cc <;> assumption) | (apply impl_increasing_cc <;> assumption) | (apply impl_ValidNode_cc <;> assumption)))) | (apply spec_l00Rises_cc <;> assumption) | (apply spec_l15Node_cc <;> assumption) | (apply impl_increasing_cc <;> assumption) | (apply impl_ValidNode_cc <;> assumption)) | simp [*]) ?_
  refine Tr.t (by first | exact (by first | (apply is_true; and_intros <;> (first | rfl | assumption | (apply spec_l00Rises_cc <;> assumption) | (apply spec_l15Node_cc <;> assumption) | (apply impl_increasing_cc <;> assumption) | (apply impl_ValidNode_cc <;> assumption) | (first | (apply is_true; and_intros <;> (first | rfl | assumption | (apply spec_l00Rises_cc <;> assumption) | (apply spec_l15Node_cc <;> assumption) | (apply impl_increasing_cc <;> assumption) | (apply impl_ValidNode_cc <;> assumption) | (first | (apply is_true; and_intros <;> (first | rfl | assumption | (apply spec_l00Rises_cc <;> assumption) | (apply spec_l15Node_cc <;> assumption) | (apply impl_increasing_cc <;> assumption) | (apply impl_ValidNode_cc <;> assumption) | (first | (apply is_true; and_intros <;> (first | rfl | assumption | (apply spec_l00Rises_cc <;> assumption) | (apply spec_l15Node_cc <;> assumption) | (apply impl_increasing_cc <;> assumption) | (apply impl_ValidNode_cc <;> assumption))) | (apply spec_l00Rises_cc <;> assumption) | (apply spec_l15Node_cc <;> assumption) | (apply impl_increasing_cc <;> assumption) | (apply impl_ValidNode_cc <;> assumption)))) | (apply spec_l00Rises_cc <;> assumption) | (apply spec_l15Node_cc <;> assumption) | (apply impl_increasing_cc <;> assumption) | (apply impl_ValidNode_cc <;> assumption)))) | (apply spec_l00Rises_cc <;> assumption) | (apply spec_l15Node_cc <;> assumption) | (apply impl_increasing_cc <;> assumption) | (apply impl_ValidNode_cc <;> assumption)))) | (apply spec_l00Rises_cc <;> assumption) | (apply spec_l15Node_cc <;> assumption) | (apply impl_increasing_cc <;> assumption) | (apply impl_ValidNode_cc <;> assumption)) | simp [*]) ?_
  refine Tr.n (by first | (simp [laws_szChunkS_v, laws_szInt64S_v, laws_szNode_v, laws_toChunk_v, laws_toChunkS_u3_1, laws_toChunkS_v, laws_toInt64S_u3_1, laws_toInt64S_v, laws_toNode_v, spec_l00In_v, spec_l15Chunk_v, spec_l00Rises_k2_1, spec_l00Rises_vv, spec_l15Node_k11_1, spec_l15Node_k3_1, spec_l15Node_vv, spec_l01Bytes_u3_1, spec_l01Bytes_v, spec_l01Pad_v, spec_l15Encode_u16_1, spec_l15Encode_u12_1_4, spec_l15Encode_u5_1, spec_l15Encode_v, spec_EncodeNode_v, impl_keysOf_u3_1, impl_keysOf_v, impl_increasing_k2_1, impl_increasing_vv, impl_within_v, impl_chunkOk_v, impl_ValidNode_1_v, slices_IndexFunc_impl_Chunk_impl_Chunk_k2_1, slices_IndexFunc_impl_Chunk_impl_Chunk_u2_3, slices_IndexFunc_impl_Chunk_impl_Chunk_v, slices_ContainsFunc_impl_Chunk_impl_Chunk_v, impl_allWithin_1_v, slices_IndexFunc_int64_int64_k2_1, slices_IndexFunc_int64_int64_u2_3, slices_IndexFunc_int64_int64_v, slices_ContainsFunc_int64_int64_v, impl_allWithin_v, impl_ValidNode_vv, impl_putBytes_u3_1, impl_putBytes_v, impl_putPairs_u3_1, impl_putPairs_v, strings_Repeat_v, impl_zeros_v, impl_padded_v, impl_Node_encode_u5_1, impl_Node_encode_v, impl_EncodeNode_v, laws_eqChunk_v, laws_eqChunkS_v, laws_eqInt64S_v, laws_eqNode_v]; done) | (simp only [laws_szChunkS_v, laws_szInt64S_v, laws_szNode_v, laws_toChunk_v, laws_toChunkS_u3_1, laws_toChunkS_v, laws_toInt64S_u3_1, laws_toInt64S_v, laws_toNode_v, spec_l00In_v, spec_l15Chunk_v, spec_l00Rises_k2_1, spec_l00Rises_vv, spec_l15Node_k11_1, spec_l15Node_k3_1, spec_l15Node_vv, spec_l01Bytes_u3_1, spec_l01Bytes_v, spec_l01Pad_v, spec_l15Encode_u16_1, spec_l15Encode_u12_1_4, spec_l15Encode_u5_1, spec_l15Encode_v, spec_EncodeNode_v, impl_keysOf_u3_1, impl_keysOf_v, impl_increasing_k2_1, impl_increasing_vv, impl_within_v, impl_chunkOk_v, impl_ValidNode_1_v, slices_IndexFunc_impl_Chunk_impl_Chunk_k2_1, slices_IndexFunc_impl_Chunk_impl_Chunk_u2_3, slices_IndexFunc_impl_Chunk_impl_Chunk_v, slices_ContainsFunc_impl_Chunk_impl_Chunk_v, impl_allWithin_1_v, slices_IndexFunc_int64_int64_k2_1, slices_IndexFunc_int64_int64_u2_3, slices_IndexFunc_int64_int64_v, slices_ContainsFunc_int64_int64_v, impl_allWithin_v, impl_ValidNode_vv, impl_putBytes_u3_1, impl_putBytes_v, impl_putPairs_u3_1, impl_putPairs_v, strings_Repeat_v, impl_zeros_v, impl_padded_v, impl_Node_encode_u5_1, impl_Node_encode_v, impl_EncodeNode_v, laws_eqChunk_v, laws_eqChunkS_v, laws_eqInt64S_v, laws_eqNode_v, nth0, nth1, nth2, nth3, nth4, nth5, int_i, bool_b, str_s, list_l, cells_p, Bool.not_eq_true, bne_self_eq_false, beq_self_eq_true, Bool.not_true]; done) | (simp [laws_szChunkS_v, laws_szInt64S_v, laws_szNode_v, laws_toChunk_v, laws_toChunkS_u3_1, laws_toChunkS_v, laws_toInt64S_u3_1, laws_toInt64S_v, laws_toNode_v, spec_l00In_v, spec_l15Chunk_v, spec_l00Rises_k2_1, spec_l00Rises_vv, spec_l15Node_k11_1, spec_l15Node_k3_1, spec_l15Node_vv, spec_l01Bytes_u3_1, spec_l01Bytes_v, spec_l01Pad_v, spec_l15Encode_u16_1, spec_l15Encode_u12_1_4, spec_l15Encode_u5_1, spec_l15Encode_v, spec_EncodeNode_v, impl_keysOf_u3_1, impl_keysOf_v, impl_increasing_k2_1, impl_increasing_vv, impl_within_v, impl_chunkOk_v, impl_ValidNode_1_v, slices_IndexFunc_impl_Chunk_impl_Chunk_k2_1, slices_IndexFunc_impl_Chunk_impl_Chunk_u2_3, slices_IndexFunc_impl_Chunk_impl_Chunk_v, slices_ContainsFunc_impl_Chunk_impl_Chunk_v, impl_allWithin_1_v, slices_IndexFunc_int64_int64_k2_1, slices_IndexFunc_int64_int64_u2_3, slices_IndexFunc_int64_int64_v, slices_ContainsFunc_int64_int64_v, impl_allWithin_v, impl_ValidNode_vv, impl_putBytes_u3_1, impl_putBytes_v, impl_putPairs_u3_1, impl_putPairs_v, strings_Repeat_v, impl_zeros_v, impl_padded_v, impl_Node_encode_u5_1, impl_Node_encode_v, impl_EncodeNode_v, laws_eqChunk_v, laws_eqChunkS_v, laws_eqInt64S_v, laws_eqNode_v, nth0, nth1, nth2, nth3, nth4, nth5, int_i, bool_b, str_s, list_l, cells_p]; done) | (simp [laws_szChunkS_v, laws_szInt64S_v, laws_szNode_v, laws_toChunk_v, laws_toChunkS_u3_1, laws_toChunkS_v, laws_toInt64S_u3_1, laws_toInt64S_v, laws_toNode_v, spec_l00In_v, spec_l15Chunk_v, spec_l00Rises_k2_1, spec_l00Rises_vv, spec_l15Node_k11_1, spec_l15Node_k3_1, spec_l15Node_vv, spec_l01Bytes_u3_1, spec_l01Bytes_v, spec_l01Pad_v, spec_l15Encode_u16_1, spec_l15Encode_u12_1_4, spec_l15Encode_u5_1, spec_l15Encode_v, spec_EncodeNode_v, impl_keysOf_u3_1, impl_keysOf_v, impl_increasing_k2_1, impl_increasing_vv, impl_within_v, impl_chunkOk_v, impl_ValidNode_1_v, slices_IndexFunc_impl_Chunk_impl_Chunk_k2_1, slices_IndexFunc_impl_Chunk_impl_Chunk_u2_3, slices_IndexFunc_impl_Chunk_impl_Chunk_v, slices_ContainsFunc_impl_Chunk_impl_Chunk_v, impl_allWithin_1_v, slices_IndexFunc_int64_int64_k2_1, slices_IndexFunc_int64_int64_u2_3, slices_IndexFunc_int64_int64_v, slices_ContainsFunc_int64_int64_v, impl_allWithin_v, impl_ValidNode_vv, impl_putBytes_u3_1, impl_putBytes_v, impl_putPairs_u3_1, impl_putPairs_v, strings_Repeat_v, impl_zeros_v, impl_padded_v, impl_Node_encode_u5_1, impl_Node_encode_v, impl_EncodeNode_v, laws_eqChunk_v, laws_eqChunkS_v, laws_eqInt64S_v, laws_eqNode_v, nth0, nth1, nth2, nth3, nth4, nth5, int_i, bool_b, str_s, list_l, cells_p] <;> rfl)) ?_
  rfl
theorem laws_FnExactEncodeNode_pure : ∀ xs, ArgsTyped tab [74] xs → runF tab FT D38 live 8 noLoops xs = yes := by
  intro xs h
  cases h with | cons l0 g0 h =>
  obtain ⟨z0_0, z0_1, z0_2, z0_3, rfl⟩ := len_4 l0
  have q0 := g0 0 (by decide)
  have q0 : Typed tab (.bool) z0_0 := q0
  obtain ⟨y0, rfl⟩ := typed_bool q0
  have q1 := g0 1 (by decide)
  have q1 : Typed tab (.slice 161) z0_1 := q1
  obtain ⟨y1, rfl⟩ := typed_slice q1
  have q2 := g0 2 (by decide)
  have q2 : Typed tab (.slice 2) z0_2 := q2
  obtain ⟨y2, rfl⟩ := typed_slice q2
  have q3 := g0 3 (by decide)
  have q3 : Typed tab (.slice 2) z0_3 := q3
  obtain ⟨y3, rfl⟩ := typed_slice q3
  cases h
  refine (laws_FnExactEncodeNode_e y0 y1 y2 y3).trans ?_
  rw [Tr.run_eq, laws_FnExactEncodeNode_p y0 y1 y2 y3 q0 q1 q2 q3]
  rfl
end Go.Proofs.Ythhdkojpkjkanaa.V
