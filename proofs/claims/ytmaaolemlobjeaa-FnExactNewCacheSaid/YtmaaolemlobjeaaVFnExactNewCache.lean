/- What the functions of FnExactNewCache answer. No condition. -/
import Derived.Test.YtmaaolemlobjeaaVFacts
namespace Go.Proofs.Ytmaaolemlobjeaa.V
open Go
set_option maxRecDepth 100000
set_option linter.unusedVariables false
set_option linter.unusedSectionVars false
set_option linter.unusedSimpArgs false
set_option maxHeartbeats 2000000
def digT (k : Int) : List UInt8 := [[TC.i (IntKind.wrap .u8 (IntKind.wrap .i64 ((48 : Int) + (Int.tmod k (10 : Int)))))]].map byteOf
theorem digT_len (k : Int) : (digT k).length ≤ 1 := Nat.le_refl 1
/-! spec_l00In -/
noncomputable def spec_l00In_t (a0 : Int) (a1 : Int) (a2 : Int) : Tr (Bool) := (.ite ((decide (a0 ≥ a1)) = true) (.ok (decide (a0 ≤ a2)))
  (.ok false))
def spec_l00In_mk (p : Bool) : Res := [(false, [⟨.bool, .sh, TC.b p⟩])]
noncomputable def spec_l00In_c (a0 : Int) (a1 : Int) (a2 : Int) : Bool := true
noncomputable def spec_l00In_v (a0 : Int) (a1 : Int) (a2 : Int) : Bool := (bif (decide (a0 ≥ a1)) then (decide (a0 ≤ a2)) else false)
theorem spec_l00In_l (a0 : Int) (a1 : Int) (a2 : Int) : (spec_l00In_c a0 a1 a2) = true → (spec_l00In_t a0 a1 a2).val = some (spec_l00In_v a0 a1 a2) := by
  intro h
  skip
  unfold spec_l00In_t spec_l00In_v
  exact (Tr.s rfl rfl)
noncomputable def spec_l00In_S : List Arg → Option (Bool × Res) := fun xs => match xs with
  | [(false, [(.int .i64, TC.i a0)]), (false, [(.int .i64, TC.i a1)]), (false, [(.int .i64, TC.i a2)])] => some (true, spec_l00In_mk (spec_l00In_v a0 a1 a2))
  | _ => .none
theorem spec_l00In_e (a0 : Int) (a1 : Int) (a2 : Int) : runF tab FT D0 live 28 noLoops [(false, [(.int .i64, TC.i a0)]), (false, [(.int .i64, TC.i a1)]), (false, [(.int .i64, TC.i a2)])] = (spec_l00In_t a0 a1 a2).run fun p => some (spec_l00In_mk p) := by kernel_rfl
theorem spec_l00In_s : ∀ xs r, spec_l00In_S xs = some (true, r) → runF tab FT D0 live 28 noLoops xs = some r := by
  intro xs r h
  unfold spec_l00In_S at h
  split at h
  · simp only [Option.some.injEq, Prod.mk.injEq] at h
    obtain ⟨h1, rfl⟩ := h
    exact fun_told (spec_l00In_e _ _ _) (spec_l00In_l _ _ _) rfl
  · cases h
noncomputable def D1 : Dt := also D0 28 spec_l00In_S
theorem d1 : DOk Go.Proofs.Try.prog tab D1 := d0.also mixed_ok tab_ok names_ok noLoops_ok spec_l00In_s
/-! spec_NewCache -/
noncomputable def spec_NewCache_t (a0 : Int) : Tr (Int × List (List TC) × Int) := (.ite ((!(spec_l00In_v a0 (1 : Int) (16 : Int))) = true) (.ok ((0 : Int), [], (2 : Int)))
  (.ok (a0, [], (0 : Int))))
def spec_NewCache_mk (p : Int × List (List TC) × Int) : Res := [(true, [⟨.int .i64, .sh, TC.i (p.1)⟩, ⟨.slice 63, .own true, TC.l (p.2.1)⟩, ⟨.int .i64, .sh, TC.i (0 : Int)⟩, ⟨.int .i64, .sh, TC.i (0 : Int)⟩, ⟨.int .i64, .sh, TC.i (0 : Int)⟩]), (false, [⟨.int .i64, .sh, TC.i (p.2.2)⟩])]
noncomputable def spec_NewCache_c (a0 : Int) : Bool := true
noncomputable def spec_NewCache_v (a0 : Int) : Int × List (List TC) × Int := (bif (!(spec_l00In_v a0 (1 : Int) (16 : Int))) then ((0 : Int), [], (2 : Int)) else (a0, [], (0 : Int)))
theorem spec_NewCache_l (a0 : Int) : (spec_NewCache_c a0) = true → (spec_NewCache_t a0).val = some (spec_NewCache_v a0) := by
  intro h
  skip
  unfold spec_NewCache_t spec_NewCache_v
  exact (Tr.s rfl rfl)
noncomputable def spec_NewCache_S : List Arg → Option (Bool × Res) := fun xs => match xs with
  | [(false, [(.int .i64, TC.i a0)])] => some (true, spec_NewCache_mk (spec_NewCache_v a0))
  | _ => .none
theorem spec_NewCache_e (a0 : Int) : runF tab FT D1 live 13 noLoops [(false, [(.int .i64, TC.i a0)])] = (spec_NewCache_t a0).run fun p => some (spec_NewCache_mk p) := by kernel_rfl
theorem spec_NewCache_s : ∀ xs r, spec_NewCache_S xs = some (true, r) → runF tab FT D1 live 13 noLoops xs = some r := by
  intro xs r h
  unfold spec_NewCache_S at h
  split at h
  · simp only [Option.some.injEq, Prod.mk.injEq] at h
    obtain ⟨h1, rfl⟩ := h
    exact fun_told (spec_NewCache_e _) (spec_NewCache_l _) rfl
  · cases h
noncomputable def D2 : Dt := also D1 13 spec_NewCache_S
theorem d2 : DOk Go.Proofs.Try.prog tab D2 := d1.also mixed_ok tab_ok names_ok noLoops_ok spec_NewCache_s
/-! impl_within -/
noncomputable def impl_within_t (a0 : Int) (a1 : Int) (a2 : Int) : Tr (Bool) := (.ite ((decide (a0 ≥ a1)) = true) (.ok (decide (a0 ≤ a2)))
  (.ok false))
def impl_within_mk (p : Bool) : Res := [(false, [⟨.bool, .sh, TC.b p⟩])]
noncomputable def impl_within_c (a0 : Int) (a1 : Int) (a2 : Int) : Bool := true
noncomputable def impl_within_v (a0 : Int) (a1 : Int) (a2 : Int) : Bool := (bif (decide (a0 ≥ a1)) then (decide (a0 ≤ a2)) else false)
theorem impl_within_l (a0 : Int) (a1 : Int) (a2 : Int) : (impl_within_c a0 a1 a2) = true → (impl_within_t a0 a1 a2).val = some (impl_within_v a0 a1 a2) := by
  intro h
  skip
  unfold impl_within_t impl_within_v
  exact (Tr.s rfl rfl)
noncomputable def impl_within_S : List Arg → Option (Bool × Res) := fun xs => match xs with
  | [(false, [(.int .i64, TC.i a0)]), (false, [(.int .i64, TC.i a1)]), (false, [(.int .i64, TC.i a2)])] => some (true, impl_within_mk (impl_within_v a0 a1 a2))
  | _ => .none
theorem impl_within_e (a0 : Int) (a1 : Int) (a2 : Int) : runF tab FT D2 live 29 noLoops [(false, [(.int .i64, TC.i a0)]), (false, [(.int .i64, TC.i a1)]), (false, [(.int .i64, TC.i a2)])] = (impl_within_t a0 a1 a2).run fun p => some (impl_within_mk p) := by kernel_rfl
theorem impl_within_s : ∀ xs r, impl_within_S xs = some (true, r) → runF tab FT D2 live 29 noLoops xs = some r := by
  intro xs r h
  unfold impl_within_S at h
  split at h
  · simp only [Option.some.injEq, Prod.mk.injEq] at h
    obtain ⟨h1, rfl⟩ := h
    exact fun_told (impl_within_e _ _ _) (impl_within_l _ _ _) rfl
  · cases h
noncomputable def D3 : Dt := also D2 29 impl_within_S
theorem d3 : DOk Go.Proofs.Try.prog tab D3 := d2.also mixed_ok tab_ok names_ok noLoops_ok impl_within_s
/-! impl_NewCache -/
noncomputable def impl_NewCache_t (a0 : Int) : Tr (Int × List (List TC) × Int) := (.ite ((!(impl_within_v a0 (1 : Int) (16 : Int))) = true) (.ok ((0 : Int), [], (2 : Int)))
  (.ok (a0, [], (0 : Int))))
def impl_NewCache_mk (p : Int × List (List TC) × Int) : Res := [(true, [⟨.int .i64, .sh, TC.i (p.1)⟩, ⟨.slice 63, .own true, TC.l (p.2.1)⟩, ⟨.int .i64, .sh, TC.i (0 : Int)⟩, ⟨.int .i64, .sh, TC.i (0 : Int)⟩, ⟨.int .i64, .sh, TC.i (0 : Int)⟩]), (false, [⟨.int .i64, .sh, TC.i (p.2.2)⟩])]
noncomputable def impl_NewCache_c (a0 : Int) : Bool := true
noncomputable def impl_NewCache_v (a0 : Int) : Int × List (List TC) × Int := (bif (!(impl_within_v a0 (1 : Int) (16 : Int))) then ((0 : Int), [], (2 : Int)) else (a0, [], (0 : Int)))
theorem impl_NewCache_l (a0 : Int) : (impl_NewCache_c a0) = true → (impl_NewCache_t a0).val = some (impl_NewCache_v a0) := by
  intro h
  skip
  unfold impl_NewCache_t impl_NewCache_v
  exact (Tr.s rfl rfl)
noncomputable def impl_NewCache_S : List Arg → Option (Bool × Res) := fun xs => match xs with
  | [(false, [(.int .i64, TC.i a0)])] => some (true, impl_NewCache_mk (impl_NewCache_v a0))
  | _ => .none
theorem impl_NewCache_e (a0 : Int) : runF tab FT D3 live 14 noLoops [(false, [(.int .i64, TC.i a0)])] = (impl_NewCache_t a0).run fun p => some (impl_NewCache_mk p) := by kernel_rfl
theorem impl_NewCache_s : ∀ xs r, impl_NewCache_S xs = some (true, r) → runF tab FT D3 live 14 noLoops xs = some r := by
  intro xs r h
  unfold impl_NewCache_S at h
  split at h
  · simp only [Option.some.injEq, Prod.mk.injEq] at h
    obtain ⟨h1, rfl⟩ := h
    exact fun_told (impl_NewCache_e _) (impl_NewCache_l _) rfl
  · cases h
noncomputable def D4 : Dt := also D3 14 impl_NewCache_S
theorem d4 : DOk Go.Proofs.Try.prog tab D4 := d3.also mixed_ok tab_ok names_ok noLoops_ok impl_NewCache_s
/-! laws_eqSlot -/
noncomputable def laws_eqSlot_t (x0 : Int) (x1 : Int) (x2 : List UInt8) (x3 : Bool) (y0 : Int) (y1 : Int) (y2 : List UInt8) (y3 : Bool) : Tr (Bool) := (.ite ((!(x0 == y0)) = true) (.ok false)
  (.ite ((!(x1 == y1)) = true) (.ok false)
   (.ite ((!(x2 == y2)) = true) (.ok false)
    (.ite ((!(x3 == y3)) = true) (.ok false)
     (.ok true)))))
def laws_eqSlot_mk (p : Bool) : Res := [(false, [⟨.bool, .sh, TC.b p⟩])]
noncomputable def laws_eqSlot_c (x0 : Int) (x1 : Int) (x2 : List UInt8) (x3 : Bool) (y0 : Int) (y1 : Int) (y2 : List UInt8) (y3 : Bool) : Bool := is (x0 = y0 ∧ x1 = y1 ∧ x2 = y2 ∧ x3 = y3 ∧ Typed tab (.str) (.s x2))
noncomputable def laws_eqSlot_v (x0 : Int) (x1 : Int) (x2 : List UInt8) (x3 : Bool) (y0 : Int) (y1 : Int) (y2 : List UInt8) (y3 : Bool) : Bool := true
theorem laws_eqSlot_l (x0 : Int) (x1 : Int) (x2 : List UInt8) (x3 : Bool) (y0 : Int) (y1 : Int) (y2 : List UInt8) (y3 : Bool) : (laws_eqSlot_c x0 x1 x2 x3 y0 y1 y2 y3) = true → (laws_eqSlot_t x0 x1 x2 x3 y0 y1 y2 y3).val = some (laws_eqSlot_v x0 x1 x2 x3 y0 y1 y2 y3) := by
  intro h
  obtain ⟨rfl, rfl, rfl, rfl, t0⟩ := is_iff.1 h
  unfold laws_eqSlot_t
  refine Tr.n (by simp) ?_
  refine Tr.n (by simp) ?_
  refine Tr.n (by simp) ?_
  refine Tr.n (by simp) ?_
  rfl
noncomputable def laws_eqSlot_S : List Arg → Option (Bool × Res) := fun xs => match xs with
  | [(true, [(.int .i64, TC.i x0), (.int .i64, TC.i x1), (.str, TC.s x2), (.bool, TC.b x3)]), (true, [(.int .i64, TC.i y0), (.int .i64, TC.i y1), (.str, TC.s y2), (.bool, TC.b y3)])] => some ((laws_eqSlot_c x0 x1 x2 x3 y0 y1 y2 y3), laws_eqSlot_mk (laws_eqSlot_v x0 x1 x2 x3 y0 y1 y2 y3))
  | _ => .none
theorem laws_eqSlot_e (x0 : Int) (x1 : Int) (x2 : List UInt8) (x3 : Bool) (y0 : Int) (y1 : Int) (y2 : List UInt8) (y3 : Bool) : runF tab FT D4 live 45 noLoops [(true, [(.int .i64, TC.i x0), (.int .i64, TC.i x1), (.str, TC.s x2), (.bool, TC.b x3)]), (true, [(.int .i64, TC.i y0), (.int .i64, TC.i y1), (.str, TC.s y2), (.bool, TC.b y3)])] = (laws_eqSlot_t x0 x1 x2 x3 y0 y1 y2 y3).run fun p => some (laws_eqSlot_mk p) := by kernel_rfl
theorem laws_eqSlot_s : ∀ xs r, laws_eqSlot_S xs = some (true, r) → runF tab FT D4 live 45 noLoops xs = some r := by
  intro xs r h
  unfold laws_eqSlot_S at h
  split at h
  · simp only [Option.some.injEq, Prod.mk.injEq] at h
    obtain ⟨h1, rfl⟩ := h
    exact fun_told (laws_eqSlot_e _ _ _ _ _ _ _ _) (laws_eqSlot_l _ _ _ _ _ _ _ _) h1
  · cases h
noncomputable def D5 : Dt := also D4 45 laws_eqSlot_S
theorem d5 : DOk Go.Proofs.Try.prog tab D5 := d4.also mixed_ok tab_ok names_ok noLoops_ok laws_eqSlot_s
/-! laws_eqSlotS -/
abbrev laws_eqSlotS_4_σ := List (List TC) × List (List TC) × Int
abbrev laws_eqSlotS_4_ω := (Unit) ⊕ (Unit)
noncomputable def laws_eqSlotS_4_step (A : List (List TC)) (C : List (List TC)) (i : Int) : Tr (laws_eqSlotS_4_σ ⊕ laws_eqSlotS_4_ω) := (.ite ((decide (i < (A.length : Int))) = true) (.ite ((0 : Int) ≤ i ∧ i < (A.length : Int)) (.ite ((0 : Int) ≤ i ∧ i < (C.length : Int)) (.ite ((laws_eqSlot_c ((nth (row A i) 0).int) ((nth (row A i) 1).int) ((nth (row A i) 2).str) ((nth (row A i) 3).bool) ((nth (row C i) 0).int) ((nth (row C i) 1).int) ((nth (row C i) 2).str) ((nth (row C i) 3).bool)) = true) (.ite ((!(laws_eqSlot_v ((nth (row A i) 0).int) ((nth (row A i) 1).int) ((nth (row A i) 2).str) ((nth (row A i) 3).bool) ((nth (row C i) 0).int) ((nth (row C i) 1).int) ((nth (row C i) 2).str) ((nth (row C i) 3).bool))) = true) (.ok (.inr (.inl ())))
      (.ok (.inl (A, C, (IntKind.wrap .i64 (i + (1 : Int)))))))
     .no)
    .no)
   .no)
  (.ok (.inr (.inr ()))))
noncomputable def laws_eqSlotS_4_st : laws_eqSlotS_4_σ → Tr (laws_eqSlotS_4_σ ⊕ laws_eqSlotS_4_ω) := fun x => (laws_eqSlotS_4_step (x.1) (x.2.1) (x.2.2))
noncomputable def laws_eqSlotS_o4_1 (A : List (List TC)) (C : List (List TC)) (i : Int) : Bool := is (A = C ∧ i = 0 ∧ Typed tab (.slice 63) (.l A))
noncomputable def laws_eqSlotS_4_fin (A : List (List TC)) (C : List (List TC)) (i : Int) : Told laws_eqSlotS_4_ω := (.leaf (laws_eqSlotS_o4_1 A C i) (.inr ()))
def laws_eqSlotS_4_sl (x : laws_eqSlotS_4_σ) : List Slot := [⟨.val false [⟨.slice 63, .sh, TC.l (x.1)⟩], ⟨0, 0⟩⟩, ⟨.val false [⟨.slice 63, .sh, TC.l (x.2.1)⟩], ⟨0, 0⟩⟩, ⟨.val false [⟨.int .i64, .sh, TC.i (x.2.2)⟩], ⟨0, 0⟩⟩]
def laws_eqSlotS_4_out : laws_eqSlotS_4_ω → Ex × List Slot := (Sum.elim (fun x => (.ret, [⟨.val false [⟨.bool, .sh, TC.b false⟩], ⟨0, 0⟩⟩])) (fun x => (.exit 0, [Slot.none])))
noncomputable def laws_eqSlotS_lo4 : List Slot → Option (Told (Ex × List Slot)) := fun s => match s with
  | [⟨.val false [⟨.slice 63, .sh, TC.l A⟩], ⟨0, 0⟩⟩, ⟨.val false [⟨.slice 63, .sh, TC.l C⟩], ⟨0, 0⟩⟩, ⟨.val false [⟨.int .i64, .sh, TC.i i⟩], ⟨0, 0⟩⟩] => some (((laws_eqSlotS_4_fin A C i)).map laws_eqSlotS_4_out)
  | _ => .none
noncomputable def laws_eqSlotS_lo : LoopTeller := fun r s => bif Nat.beq r 4 then laws_eqSlotS_lo4 s else .none
theorem laws_eqSlotS_4_r (A : List (List TC)) (C : List (List TC)) (i : Int) (fuel : Nat) : rounds (rnd tab FT D5 live 30 laws_eqSlotS_lo 0 4) leave (fuel + 1) (laws_eqSlotS_4_sl (A, C, i)) = ((laws_eqSlotS_4_step A C i)).run (goOn (fun s => rounds (rnd tab FT D5 live 30 laws_eqSlotS_lo 0 4) leave fuel (laws_eqSlotS_4_sl s)) fun w => some (laws_eqSlotS_4_out w)) := by kernel_rfl
theorem laws_eqSlotS_4_h (A : List (List TC)) (C : List (List TC)) (i : Int) (ow : laws_eqSlotS_4_ω) : ((laws_eqSlotS_4_fin A C i)).val = some ow → ∃ fuel, loopN laws_eqSlotS_4_st fuel (A, C, i) = some ow := by
  intro h
  simp only [laws_eqSlotS_4_fin, Told.val] at h
  split at h
  · rename_i ho
    obtain ⟨rfl, rfl, ht⟩ := is_iff.1 ho
    cases h
    have hlen : A.length ≤ 140737488351232 := by have := typed_room ht; simp only [show (tab 63).bytes = 40 from rfl] at this; omega
    refine ⟨_, loopN_run (N := A.length) (fun i => (A, A, (i : Int))) (fun i hi => ?_) ?_ A.length 0 (by omega)⟩
    · have c2 : Typed tab (.str) (.s (nth (A.getD i []) 2).str) := typed_s (typed_cell ht (A.getD i []) (mem_getD hi) 2 (by decide))
      show (laws_eqSlotS_4_step A A (i : Int)).val = _
      unfold laws_eqSlotS_4_step
      refine Tr.t (by simp; omega) ?_
      refine Tr.t (by constructor <;> omega) ?_
      refine Tr.t (by constructor <;> omega) ?_
      refine Tr.t (by first | (apply is_true; and_intros <;> (first | rfl | assumption | (first | (apply is_true; and_intros <;> (first | rfl | assumption | (first | (apply is_true; and_intros <;> (first | rfl | assumption | (first | (apply is_true; and_intros <;> (first | rfl | assumption)))))))))))) ?_
      refine Tr.n (by simp [laws_eqSlot_v]) ?_
      rw [Tr.val_ok, wrap64 (i := (i : Int) + 1) (by omega) (by omega)]; rfl
    · show (laws_eqSlotS_4_step A A (A.length : Int)).val = _
      refine Tr.n (by simp) ?_
      rfl
  · cases h
theorem laws_eqSlotS_is4 : LoopIs tab FT D5 live 30 laws_eqSlotS_lo 0 4 := by
  refine loop_told (sl := laws_eqSlotS_4_sl) (step := laws_eqSlotS_4_st) (out := laws_eqSlotS_4_out) (lor := laws_eqSlotS_lo4) (fin := fun x => (laws_eqSlotS_4_fin (x.1) (x.2.1) (x.2.2))) (fun _ => rfl) ?_ (fun x n => laws_eqSlotS_4_r x.1 x.2.1 x.2.2 n) (fun x ow => laws_eqSlotS_4_h x.1 x.2.1 x.2.2 ow)
  intro s t h
  unfold laws_eqSlotS_lo4 at h
  split at h
  · cases h; exact ⟨(_, _, _), rfl, rfl⟩
  · cases h
noncomputable def laws_eqSlotS_t (A : List (List TC)) (C : List (List TC)) : Tr (Bool) := (.ite ((!((A.length : Int) == (C.length : Int))) = true) (.ok false)
  (.ite ((laws_eqSlotS_o4_1 A C (0 : Int)) = true) (.ok true)
   .no))
def laws_eqSlotS_mk (p : Bool) : Res := [(false, [⟨.bool, .sh, TC.b p⟩])]
noncomputable def laws_eqSlotS_c (A : List (List TC)) (C : List (List TC)) : Bool := is (A = C ∧ Typed tab (.slice 63) (.l A))
noncomputable def laws_eqSlotS_v (A : List (List TC)) (C : List (List TC)) : Bool := true
theorem laws_eqSlotS_l (A : List (List TC)) (C : List (List TC)) : (laws_eqSlotS_c A C) = true → (laws_eqSlotS_t A C).val = some (laws_eqSlotS_v A C) := by
  intro h
  obtain ⟨rfl, ht⟩ := is_iff.1 h
  unfold laws_eqSlotS_t
  refine Tr.n (by simp) ?_
  refine Tr.t (by first | (apply is_true; and_intros <;> (first | rfl | assumption | (first | (apply is_true; and_intros <;> (first | rfl | assumption | (first | (apply is_true; and_intros <;> (first | rfl | assumption | (first | (apply is_true; and_intros <;> (first | rfl | assumption)))))))))))) ?_
  rfl
noncomputable def laws_eqSlotS_S : List Arg → Option (Bool × Res) := fun xs => match xs with
  | [(false, [(.slice 63, TC.l A)]), (false, [(.slice 63, TC.l C)])] => some ((laws_eqSlotS_c A C), laws_eqSlotS_mk (laws_eqSlotS_v A C))
  | _ => .none
theorem laws_eqSlotS_e (A : List (List TC)) (C : List (List TC)) : runF tab FT D5 live 30 laws_eqSlotS_lo [(false, [(.slice 63, TC.l A)]), (false, [(.slice 63, TC.l C)])] = (laws_eqSlotS_t A C).run fun p => some (laws_eqSlotS_mk p) := by kernel_rfl
theorem laws_eqSlotS_s : ∀ xs r, laws_eqSlotS_S xs = some (true, r) → runF tab FT D5 live 30 laws_eqSlotS_lo xs = some r := by
  intro xs r h
  unfold laws_eqSlotS_S at h
  split at h
  · simp only [Option.some.injEq, Prod.mk.injEq] at h
    obtain ⟨h1, rfl⟩ := h
    exact fun_told (laws_eqSlotS_e _ _) (laws_eqSlotS_l _ _) h1
  · cases h
noncomputable def D6 : Dt := also D5 30 laws_eqSlotS_S
theorem d6 : DOk Go.Proofs.Try.prog tab D6 := d5.also mixed_ok tab_ok names_ok (fnLoops_one (by kernel_rfl) laws_eqSlotS_is4) laws_eqSlotS_s
/-! laws_eqCache -/
noncomputable def laws_eqCache_t (x0 : Int) (x1 : List (List TC)) (x2 : Int) (x3 : Int) (x4 : Int) (y0 : Int) (y1 : List (List TC)) (y2 : Int) (y3 : Int) (y4 : Int) : Tr (Bool) := (.ite ((!(x0 == y0)) = true) (.ok false)
  (.ite ((laws_eqSlotS_c x1 y1) = true) (.ite ((!(laws_eqSlotS_v x1 y1)) = true) (.ok false)
    (.ite ((!(x2 == y2)) = true) (.ok false)
     (.ite ((!(x3 == y3)) = true) (.ok false)
      (.ite ((!(x4 == y4)) = true) (.ok false)
       (.ok true)))))
   .no))
def laws_eqCache_mk (p : Bool) : Res := [(false, [⟨.bool, .sh, TC.b p⟩])]
noncomputable def laws_eqCache_c (x0 : Int) (x1 : List (List TC)) (x2 : Int) (x3 : Int) (x4 : Int) (y0 : Int) (y1 : List (List TC)) (y2 : Int) (y3 : Int) (y4 : Int) : Bool := is (x0 = y0 ∧ x1 = y1 ∧ x2 = y2 ∧ x3 = y3 ∧ x4 = y4 ∧ Typed tab (.slice 63) (.l x1))
noncomputable def laws_eqCache_v (x0 : Int) (x1 : List (List TC)) (x2 : Int) (x3 : Int) (x4 : Int) (y0 : Int) (y1 : List (List TC)) (y2 : Int) (y3 : Int) (y4 : Int) : Bool := true
theorem laws_eqCache_l (x0 : Int) (x1 : List (List TC)) (x2 : Int) (x3 : Int) (x4 : Int) (y0 : Int) (y1 : List (List TC)) (y2 : Int) (y3 : Int) (y4 : Int) : (laws_eqCache_c x0 x1 x2 x3 x4 y0 y1 y2 y3 y4) = true → (laws_eqCache_t x0 x1 x2 x3 x4 y0 y1 y2 y3 y4).val = some (laws_eqCache_v x0 x1 x2 x3 x4 y0 y1 y2 y3 y4) := by
  intro h
  obtain ⟨rfl, rfl, rfl, rfl, rfl, t0⟩ := is_iff.1 h
  unfold laws_eqCache_t
  refine Tr.n (by simp) ?_
  refine Tr.t (by first | (apply is_true; and_intros <;> (first | rfl | assumption | (first | (apply is_true; and_intros <;> (first | rfl | assumption | (first | (apply is_true; and_intros <;> (first | rfl | assumption | (first | (apply is_true; and_intros <;> (first | rfl | assumption)))))))))))) ?_
  refine Tr.n (by simp [laws_eqSlotS_v]) ?_
  refine Tr.n (by simp) ?_
  refine Tr.n (by simp) ?_
  refine Tr.n (by simp) ?_
  rfl
noncomputable def laws_eqCache_S : List Arg → Option (Bool × Res) := fun xs => match xs with
  | [(true, [(.int .i64, TC.i x0), (.slice 63, TC.l x1), (.int .i64, TC.i x2), (.int .i64, TC.i x3), (.int .i64, TC.i x4)]), (true, [(.int .i64, TC.i y0), (.slice 63, TC.l y1), (.int .i64, TC.i y2), (.int .i64, TC.i y3), (.int .i64, TC.i y4)])] => some ((laws_eqCache_c x0 x1 x2 x3 x4 y0 y1 y2 y3 y4), laws_eqCache_mk (laws_eqCache_v x0 x1 x2 x3 x4 y0 y1 y2 y3 y4))
  | _ => .none
theorem laws_eqCache_e (x0 : Int) (x1 : List (List TC)) (x2 : Int) (x3 : Int) (x4 : Int) (y0 : Int) (y1 : List (List TC)) (y2 : Int) (y3 : Int) (y4 : Int) : runF tab FT D6 live 15 noLoops [(true, [(.int .i64, TC.i x0), (.slice 63, TC.l x1), (.int .i64, TC.i x2), (.int .i64, TC.i x3), (.int .i64, TC.i x4)]), (true, [(.int .i64, TC.i y0), (.slice 63, TC.l y1), (.int .i64, TC.i y2), (.int .i64, TC.i y3), (.int .i64, TC.i y4)])] = (laws_eqCache_t x0 x1 x2 x3 x4 y0 y1 y2 y3 y4).run fun p => some (laws_eqCache_mk p) := by kernel_rfl
theorem laws_eqCache_s : ∀ xs r, laws_eqCache_S xs = some (true, r) → runF tab FT D6 live 15 noLoops xs = some r := by
  intro xs r h
  unfold laws_eqCache_S at h
  split at h
  · simp only [Option.some.injEq, Prod.mk.injEq] at h
    obtain ⟨h1, rfl⟩ := h
    exact fun_told (laws_eqCache_e _ _ _ _ _ _ _ _ _ _) (laws_eqCache_l _ _ _ _ _ _ _ _ _ _) h1
  · cases h
noncomputable def D7 : Dt := also D6 15 laws_eqCache_S
theorem d7 : DOk Go.Proofs.Try.prog tab D7 := d6.also mixed_ok tab_ok names_ok noLoops_ok laws_eqCache_s
/-! laws_markText -/
abbrev laws_markText_4_σ := Int × List UInt8
abbrev laws_markText_4_ω := (List UInt8)
noncomputable def laws_markText_4_step (k : Int) (s : List UInt8) : Tr (laws_markText_4_σ ⊕ laws_markText_4_ω) := (.ite ((decide (k > (0 : Int))) = true) (.ite (((([[TC.i (IntKind.wrap .u8 (IntKind.wrap .i64 ((48 : Int) + (Int.tmod k (10 : Int)))))]].map byteOf).length + s.length : Nat) : Int) ≤ 9223372036854775807) (.ok (.inl ((IntKind.wrap .i64 (Int.tdiv k (10 : Int))), (([[TC.i (IntKind.wrap .u8 (IntKind.wrap .i64 ((48 : Int) + (Int.tmod k (10 : Int)))))]].map byteOf) ++ s))))
   .no)
  (.ok (.inr s)))
noncomputable def laws_markText_4_st : laws_markText_4_σ → Tr (laws_markText_4_σ ⊕ laws_markText_4_ω) := fun x => (laws_markText_4_step (x.1) (x.2))
noncomputable def laws_markText_o4_1 (k : Int) (s : List UInt8) : Bool := is (0 ≤ k ∧ k ≤ 4611686018427387904 ∧ s.length ≤ 16)
noncomputable def laws_markText_u4_1 (k : Int) (s : List UInt8) : List UInt8 := digitsF digT 19 k s
noncomputable def laws_markText_4_fin (k : Int) (s : List UInt8) : Told laws_markText_4_ω := (.leaf (laws_markText_o4_1 k s) (laws_markText_u4_1 k s))
def laws_markText_4_sl (x : laws_markText_4_σ) : List Slot := [⟨.val false [⟨.int .i64, .sh, TC.i (x.1)⟩], ⟨0, 0⟩⟩, ⟨.val false [⟨.str, .sh, TC.s (x.2)⟩], ⟨0, 0⟩⟩]
def laws_markText_4_out : laws_markText_4_ω → Ex × List Slot := (fun x => (.exit 0, [Slot.none, ⟨.val false [⟨.str, .sh, TC.s x⟩], ⟨0, 0⟩⟩]))
noncomputable def laws_markText_lo4 : List Slot → Option (Told (Ex × List Slot)) := fun s => match s with
  | [⟨.val false [⟨.int .i64, .sh, TC.i k⟩], ⟨0, 0⟩⟩, ⟨.val false [⟨.str, .sh, TC.s s⟩], ⟨0, 0⟩⟩] => some (((laws_markText_4_fin k s)).map laws_markText_4_out)
  | _ => .none
noncomputable def laws_markText_lo : LoopTeller := fun r s => bif Nat.beq r 4 then laws_markText_lo4 s else .none
theorem laws_markText_4_r (k : Int) (s : List UInt8) (fuel : Nat) : rounds (rnd tab FT D7 live 46 laws_markText_lo 0 4) leave (fuel + 1) (laws_markText_4_sl (k, s)) = ((laws_markText_4_step k s)).run (goOn (fun s => rounds (rnd tab FT D7 live 46 laws_markText_lo 0 4) leave fuel (laws_markText_4_sl s)) fun w => some (laws_markText_4_out w)) := by kernel_rfl
theorem laws_markText_4_h (k : Int) (s : List UInt8) (ow : laws_markText_4_ω) : ((laws_markText_4_fin k s)).val = some ow → ∃ fuel, loopN laws_markText_4_st fuel (k, s) = some ow := by
  intro h
  refine auto_leaf (R := digitsF digT 19 k s) (fun ho => ?_) h
  obtain ⟨h0, h1, h2⟩ := is_iff.1 ho
  refine ⟨20, loopN_digits (step := laws_markText_4_st) digT digT_len (fun k s => (k, s)) (fun s => s) 4611686018427387904 (fun k s h0 h1 h2 => ?_) (fun k s h0 => ?_) 19 k s (by have : (10 : Int) ^ 19 = 10000000000000000000 := rfl; omega) h1 (by omega)⟩
  · show (laws_markText_4_step k s).val = _
    unfold laws_markText_4_step
    refine Tr.t (by simpa using h0) ?_
    refine Tr.t (by simp only [List.length_map, List.length_singleton]; omega) ?_
    rw [Tr.val_ok, tdiv10 (by omega) (by omega)]
    rfl
  · show (laws_markText_4_step k s).val = _
    unfold laws_markText_4_step
    refine Tr.n (by simpa using h0) ?_
    rfl
theorem laws_markText_is4 : LoopIs tab FT D7 live 46 laws_markText_lo 0 4 := by
  refine loop_told (sl := laws_markText_4_sl) (step := laws_markText_4_st) (out := laws_markText_4_out) (lor := laws_markText_lo4) (fin := fun x => (laws_markText_4_fin (x.1) (x.2))) (fun _ => rfl) ?_ (fun x n => laws_markText_4_r x.1 x.2 n) (fun x ow => laws_markText_4_h x.1 x.2 ow)
  intro s t h
  unfold laws_markText_lo4 at h
  split at h
  · cases h; exact ⟨(_, _), rfl, rfl⟩
  · cases h
noncomputable def laws_markText_t (k : Int) : Tr (List UInt8) := (.ite ((decide (k ≤ (0 : Int))) = true) (.ok ([109, 48]))
  (.ite ((laws_markText_o4_1 k []) = true) (.ite ((([109].length + (laws_markText_u4_1 k []).length : Nat) : Int) ≤ 9223372036854775807) (.ok ([109] ++ (laws_markText_u4_1 k [])))
    .no)
   .no))
def laws_markText_mk (p : List UInt8) : Res := [(false, [⟨.str, .sh, TC.s p⟩])]
noncomputable def laws_markText_c (k : Int) : Bool := (bif (decide (k ≤ (0 : Int))) then true else ((laws_markText_o4_1 k []) && (is ((([109].length + (laws_markText_u4_1 k []).length : Nat) : Int) ≤ 9223372036854775807) && true)))
noncomputable def laws_markText_v (k : Int) : List UInt8 := hid ((bif (decide (k ≤ (0 : Int))) then [109, 48] else ([109] ++ (laws_markText_u4_1 k []))))
theorem laws_markText_l (k : Int) : (laws_markText_c k) = true → (laws_markText_t k).val = some (laws_markText_v k) := by
  unfold laws_markText_t laws_markText_v laws_markText_c
  rw [hid_eq]
  exact fun h => (Tr.ss h (fun h => rfl) (fun h => (Tr.gb h fun h => (Tr.gs h fun h => rfl))))
noncomputable def laws_markText_S : List Arg → Option (Bool × Res) := fun xs => match xs with
  | [(false, [(.int .i64, TC.i k)])] => some ((laws_markText_c k), laws_markText_mk (laws_markText_v k))
  | _ => .none
theorem laws_markText_e (k : Int) : runF tab FT D7 live 46 laws_markText_lo [(false, [(.int .i64, TC.i k)])] = (laws_markText_t k).run fun p => some (laws_markText_mk p) := by kernel_rfl
theorem laws_markText_s : ∀ xs r, laws_markText_S xs = some (true, r) → runF tab FT D7 live 46 laws_markText_lo xs = some r := by
  intro xs r h
  unfold laws_markText_S at h
  split at h
  · simp only [Option.some.injEq, Prod.mk.injEq] at h
    obtain ⟨h1, rfl⟩ := h
    exact fun_told (laws_markText_e _) (laws_markText_l _) h1
  · cases h
noncomputable def D8 : Dt := also D7 46 laws_markText_S
theorem d8 : DOk Go.Proofs.Try.prog tab D8 := d7.also mixed_ok tab_ok names_ok (fnLoops_one (by kernel_rfl) laws_markText_is4) laws_markText_s
theorem laws_markText_cc {k : Int} (h0 : 0 ≤ k) (h1 : k ≤ 4611686018427387904) : (laws_markText_c k) = true := by
  unfold laws_markText_c
  refine bifT (fun b1 => ?_) (fun b1 => ?_)
  · skip
    rfl
  · skip
    refine andT (by exact is_true ⟨h0, h1, by decide⟩) ?_
    refine andT (is_true (by have := digitsF_len digT_len 19 k []; simp only [laws_markText_u4_1, List.length_cons, List.length_nil] at *; omega)) ?_
    rfl
/-! laws_markSlotS -/
noncomputable def mkR_63 (k : Int) : List TC := [TC.i k, TC.i (k + 1), TC.s (laws_markText_v (k + 1 + 1)), TC.b (Int.tmod (k + 1 + 1 + 1) 3 == 0)]
theorem mkR_63_len (k : Int) : (mkR_63 k).length = 4 := rfl
noncomputable def mkL_63 (k : Int) (n : Nat) : List (List TC) := madeL (fun i => mkR_63 (k + 4 * (i : Int))) n
theorem mkL_63_length {k : Int} {n : Nat} : (mkL_63 k n).length = n := madeL_length
abbrev laws_markSlotS_2_σ := Int × Int × List (List TC)
abbrev laws_markSlotS_2_ω := (Int × List (List TC))
noncomputable def laws_markSlotS_2_step (k : Int) (i : Int) (A : List (List TC)) : Tr (laws_markSlotS_2_σ ⊕ laws_markSlotS_2_ω) := (.ite ((decide (i < (A.length : Int))) = true) (.ite ((0 : Int) ≤ i ∧ i < (A.length : Int)) (.ite ((0 : Int) ≤ i ∧ i < ((A.set (i).toNat (splice (row A i) 0 [TC.i k])).length : Int)) (.ite ((laws_markText_c (IntKind.wrap .i64 ((IntKind.wrap .i64 (k + (1 : Int))) + (1 : Int)))) = true) (.ite ((0 : Int) ≤ i ∧ i < (((A.set (i).toNat (splice (row A i) 0 [TC.i k])).set (i).toNat (splice (row (A.set (i).toNat (splice (row A i) 0 [TC.i k])) i) 1 [TC.i (IntKind.wrap .i64 (k + (1 : Int)))])).length : Int)) (.ite ((0 : Int) ≤ i ∧ i < ((((A.set (i).toNat (splice (row A i) 0 [TC.i k])).set (i).toNat (splice (row (A.set (i).toNat (splice (row A i) 0 [TC.i k])) i) 1 [TC.i (IntKind.wrap .i64 (k + (1 : Int)))])).set (i).toNat (splice (row ((A.set (i).toNat (splice (row A i) 0 [TC.i k])).set (i).toNat (splice (row (A.set (i).toNat (splice (row A i) 0 [TC.i k])) i) 1 [TC.i (IntKind.wrap .i64 (k + (1 : Int)))])) i) 2 [TC.s (laws_markText_v (IntKind.wrap .i64 ((IntKind.wrap .i64 (k + (1 : Int))) + (1 : Int))))])).length : Int)) (.ok (.inl ((IntKind.wrap .i64 ((IntKind.wrap .i64 ((IntKind.wrap .i64 ((IntKind.wrap .i64 (k + (1 : Int))) + (1 : Int))) + (1 : Int))) + (1 : Int))), (IntKind.wrap .i64 (i + (1 : Int))), ((((A.set (i).toNat (splice (row A i) 0 [TC.i k])).set (i).toNat (splice (row (A.set (i).toNat (splice (row A i) 0 [TC.i k])) i) 1 [TC.i (IntKind.wrap .i64 (k + (1 : Int)))])).set (i).toNat (splice (row ((A.set (i).toNat (splice (row A i) 0 [TC.i k])).set (i).toNat (splice (row (A.set (i).toNat (splice (row A i) 0 [TC.i k])) i) 1 [TC.i (IntKind.wrap .i64 (k + (1 : Int)))])) i) 2 [TC.s (laws_markText_v (IntKind.wrap .i64 ((IntKind.wrap .i64 (k + (1 : Int))) + (1 : Int))))])).set (i).toNat (splice (row (((A.set (i).toNat (splice (row A i) 0 [TC.i k])).set (i).toNat (splice (row (A.set (i).toNat (splice (row A i) 0 [TC.i k])) i) 1 [TC.i (IntKind.wrap .i64 (k + (1 : Int)))])).set (i).toNat (splice (row ((A.set (i).toNat (splice (row A i) 0 [TC.i k])).set (i).toNat (splice (row (A.set (i).toNat (splice (row A i) 0 [TC.i k])) i) 1 [TC.i (IntKind.wrap .i64 (k + (1 : Int)))])) i) 2 [TC.s (laws_markText_v (IntKind.wrap .i64 ((IntKind.wrap .i64 (k + (1 : Int))) + (1 : Int))))])) i) 3 [TC.b ((Int.tmod (IntKind.wrap .i64 ((IntKind.wrap .i64 ((IntKind.wrap .i64 (k + (1 : Int))) + (1 : Int))) + (1 : Int))) (3 : Int)) == (0 : Int))])))))
       .no)
      .no)
     .no)
    .no)
   .no)
  (.ok (.inr (k, A))))
noncomputable def laws_markSlotS_2_st : laws_markSlotS_2_σ → Tr (laws_markSlotS_2_σ ⊕ laws_markSlotS_2_ω) := fun x => (laws_markSlotS_2_step (x.1) (x.2.1) (x.2.2))
noncomputable def laws_markSlotS_o2_1 (k : Int) (i : Int) (A : List (List TC)) : Bool := is ((∀ x, x ∈ A → x.length = 4) ∧ A.length ≤ 140737488351232 ∧ 0 ≤ k ∧ k ≤ 2305843009213693952 ∧ i = 0)
noncomputable def laws_markSlotS_u2_1_0 (k : Int) (i : Int) (A : List (List TC)) : Int := k + 4 * (A.length : Int)
noncomputable def laws_markSlotS_u2_1_1 (k : Int) (i : Int) (A : List (List TC)) : List (List TC) := mkL_63 k A.length
noncomputable def laws_markSlotS_2_fin (k : Int) (i : Int) (A : List (List TC)) : Told laws_markSlotS_2_ω := (.leaf (laws_markSlotS_o2_1 k i A) ((laws_markSlotS_u2_1_0 k i A), (laws_markSlotS_u2_1_1 k i A)))
def laws_markSlotS_2_sl (x : laws_markSlotS_2_σ) : List Slot := [⟨.gal false 0 1, ⟨0, 0⟩⟩, ⟨.val false [⟨.int .i64, .sh, TC.i (x.1)⟩], ⟨0, 0⟩⟩, ⟨.val false [⟨.int .i64, .sh, TC.i (x.2.1)⟩], ⟨0, 0⟩⟩, ⟨.gv [⟨.slice 63, .own true, TC.l (x.2.2)⟩], ⟨0, 0⟩⟩]
def laws_markSlotS_2_out : laws_markSlotS_2_ω → Ex × List Slot := (fun x => (.exit 0, [⟨.val false [⟨.int .i64, .sh, TC.i (x.1)⟩], ⟨0, 0⟩⟩, Slot.none, ⟨.gv [⟨.slice 63, .own true, TC.l (x.2)⟩], ⟨0, 0⟩⟩]))
noncomputable def laws_markSlotS_lo2 : List Slot → Option (Told (Ex × List Slot)) := fun s => match s with
  | [⟨.gal false 0 1, ⟨0, 0⟩⟩, ⟨.val false [⟨.int .i64, .sh, TC.i k⟩], ⟨0, 0⟩⟩, ⟨.val false [⟨.int .i64, .sh, TC.i i⟩], ⟨0, 0⟩⟩, ⟨.gv [⟨.slice 63, .own true, TC.l A⟩], ⟨0, 0⟩⟩] => some (((laws_markSlotS_2_fin k i A)).map laws_markSlotS_2_out)
  | _ => .none
noncomputable def laws_markSlotS_lo : LoopTeller := fun r s => bif Nat.beq r 2 then laws_markSlotS_lo2 s else .none
theorem laws_markSlotS_2_r (k : Int) (i : Int) (A : List (List TC)) (fuel : Nat) : rounds (rnd tab FT D8 live 31 laws_markSlotS_lo 0 2) leave (fuel + 1) (laws_markSlotS_2_sl (k, i, A)) = ((laws_markSlotS_2_step k i A)).run (goOn (fun s => rounds (rnd tab FT D8 live 31 laws_markSlotS_lo 0 2) leave fuel (laws_markSlotS_2_sl s)) fun w => some (laws_markSlotS_2_out w)) := by kernel_rfl
theorem laws_markSlotS_2_h (k : Int) (i : Int) (A : List (List TC)) (ow : laws_markSlotS_2_ω) : ((laws_markSlotS_2_fin k i A)).val = some ow → ∃ fuel, loopN laws_markSlotS_2_st fuel (k, i, A) = some ow := by
  intro h
  refine auto_leaf (R := (k + 4 * (A.length : Int), mkL_63 k A.length)) (fun ho => ?_) h
  obtain ⟨hr, hl, h0, h1, rfl⟩ := is_iff.1 ho
  have key := loopN_over (step := laws_markSlotS_2_st) A 4 (fun i => mkR_63 (k + 4 * (i : Int))) (fun Y i => (k + 4 * (i : Int), (i : Int), Y)) (k + 4 * (A.length : Int), mkL_63 k A.length) hr (fun _ => rfl) (fun Y i hi hY hy => ?_) ?_ A.length 0 (by omega)
  · exact ⟨A.length + 1, Eq.trans (congrArg (loopN laws_markSlotS_2_st (A.length + 1)) (by simp [madeL])) key⟩
  · obtain ⟨kk, hkk⟩ : ∃ kk : Int, kk = k + 4 * (i : Int) := ⟨_, rfl⟩
    have hk0 : 0 ≤ kk := by omega
    have hk1 : kk + 4 ≤ 4611686018427387904 := by omega
    have hy : ∃ y0 y1 y2 y3, row Y (i : Int) = [y0, y1, y2, y3] := len_4 hy
    obtain ⟨y0, y1, y2, y3, hy⟩ := hy
    have hiY : i < Y.length := by omega
    show (laws_markSlotS_2_step (k + 4 * (i : Int)) (i : Int) Y).val = _
    rw [← hkk]
    unfold laws_markSlotS_2_step
    rw [wrap64 (i := kk + 1) (by omega) (by omega)]
    rw [wrap64 (i := kk + 1 + 1) (by omega) (by omega)]
    rw [wrap64 (i := kk + 1 + 1 + 1) (by omega) (by omega)]
    rw [wrap64 (i := kk + 1 + 1 + 1 + 1) (by omega) (by omega)]
    try rw [wrap64 (i := kk) (by omega) (by omega)]
    refine Tr.t (by simp; omega) ?_
    refine Tr.t (by constructor <;> (try simp only [List.length_set]) <;> omega) ?_
    refine Tr.t (by constructor <;> (try simp only [List.length_set]) <;> omega) ?_
    refine Tr.t (laws_markText_cc (by omega) (by omega)) ?_
    refine Tr.t (by constructor <;> (try simp only [List.length_set]) <;> omega) ?_
    refine Tr.t (by constructor <;> (try simp only [List.length_set]) <;> omega) ?_
    rw [Tr.val_ok, wrap64 (i := (i : Int) + 1) (by omega) (by omega)]
    simp only [Int.toNat_natCast, hy, row_set, List.length_set, hiY, List.set_set]
    show some (Sum.inl (_, _, _)) = some (Sum.inl (_, _, _))
    rw [show k + 4 * ((i + 1 : Nat) : Int) = kk + 1 + 1 + 1 + 1 from by omega]
    rfl
  · show (laws_markSlotS_2_step (k + 4 * (A.length : Int)) (A.length : Int) (mkL_63 k A.length)).val = _
    unfold laws_markSlotS_2_step
    refine Tr.n (by simp [mkL_63_length]) ?_
    rfl
theorem laws_markSlotS_is2 : LoopIs tab FT D8 live 31 laws_markSlotS_lo 0 2 := by
  refine loop_told (sl := laws_markSlotS_2_sl) (step := laws_markSlotS_2_st) (out := laws_markSlotS_2_out) (lor := laws_markSlotS_lo2) (fin := fun x => (laws_markSlotS_2_fin (x.1) (x.2.1) (x.2.2))) (fun _ => rfl) ?_ (fun x n => laws_markSlotS_2_r x.1 x.2.1 x.2.2 n) (fun x ow => laws_markSlotS_2_h x.1 x.2.1 x.2.2 ow)
  intro s t h
  unfold laws_markSlotS_lo2 at h
  split at h
  · cases h; exact ⟨(_, _, _), rfl, rfl⟩
  · cases h
noncomputable def laws_markSlotS_t (A : List (List TC)) (k : Int) : Tr (List (List TC) × Int) := (.ite ((laws_markSlotS_o2_1 k (0 : Int) A) = true) (.ok ((laws_markSlotS_u2_1_1 k (0 : Int) A), (laws_markSlotS_u2_1_0 k (0 : Int) A)))
  .no)
def laws_markSlotS_mk (p : List (List TC) × Int) : Res := [(true, [⟨.slice 63, .own true, TC.l (p.1)⟩]), (false, [⟨.int .i64, .sh, TC.i (p.2)⟩])]
noncomputable def laws_markSlotS_c (A : List (List TC)) (k : Int) : Bool := is ((∀ x, x ∈ A → x.length = 4) ∧ A.length ≤ 140737488351232 ∧ 0 ≤ k ∧ k ≤ 2305843009213693952)
noncomputable def laws_markSlotS_v (A : List (List TC)) (k : Int) : List (List TC) × Int := (mkL_63 k A.length, k + 4 * (A.length : Int))
theorem laws_markSlotS_l (A : List (List TC)) (k : Int) : (laws_markSlotS_c A k) = true → (laws_markSlotS_t A k).val = some (laws_markSlotS_v A k) := by
  intro h
  obtain ⟨hr, hl, h0, h1⟩ := is_iff.1 h
  unfold laws_markSlotS_t
  exact Tr.t (is_true ⟨hr, hl, h0, h1, rfl⟩) rfl
noncomputable def laws_markSlotS_S : List Arg → Option (Bool × Res) := fun xs => match xs with
  | [(false, [(.slice 63, TC.l A)]), (false, [(.int .i64, TC.i k)])] => some ((laws_markSlotS_c A k), laws_markSlotS_mk (laws_markSlotS_v A k))
  | _ => .none
theorem laws_markSlotS_e (A : List (List TC)) (k : Int) : runFW false tab FT D8 live 31 laws_markSlotS_lo (false, [(.slice 63, TC.l A)]) [(false, [(.int .i64, TC.i k)])] = (laws_markSlotS_t A k).run fun p => some (laws_markSlotS_mk p) := by kernel_rfl
theorem laws_markSlotS_s0 : ∀ ys r, laws_markSlotS_S ys = some (true, r) → ∀ a0 xs, ys = a0 :: xs → runFW false tab FT D8 live 31 laws_markSlotS_lo a0 xs = some r := by
  intro ys r h
  unfold laws_markSlotS_S at h
  split at h
  · simp only [Option.some.injEq, Prod.mk.injEq] at h
    obtain ⟨h1, rfl⟩ := h
    intro a0 xs e
    cases e
    exact fun_toldW (laws_markSlotS_e _ _) (laws_markSlotS_l _ _) h1
  · cases h
theorem laws_markSlotS_s : ∀ a0 xs r, laws_markSlotS_S (a0 :: xs) = some (true, r) → runFW false tab FT D8 live 31 laws_markSlotS_lo a0 xs = some r := fun a0 xs r h => laws_markSlotS_s0 _ r h a0 xs rfl
noncomputable def D9 : Dt := alsoW D8 31 laws_markSlotS_S
theorem d9 : DOk Go.Proofs.Try.prog tab D9 := d8.alsoW mixed_ok tab_ok names_ok (fnLoops_one (by kernel_rfl) laws_markSlotS_is2) laws_markSlotS_s
theorem laws_markSlotS_cc {A : List (List TC)} {k : Int} (ht : Typed tab (.slice 63) (.l A)) (hl : A.length ≤ 140737488351232) (h0 : 0 ≤ k) (h1 : k ≤ 2305843009213693952) : laws_markSlotS_c A k = true := is_true ⟨typed_rows ht rfl, hl, h0, h1⟩
theorem laws_markSlotS_v2 {A : List (List TC)} {k : Int} : (laws_markSlotS_v A k).2 = k + 4 * (A.length : Int) := rfl
/-! laws_markCache -/
noncomputable def laws_markCache_t (a0 : Int) (a1 : List (List TC)) (a2 : Int) (a3 : Int) (a4 : Int) (a5 : Int) : Tr (Int × List (List TC) × Int × Int × Int × Int) := (.ite ((laws_markSlotS_c a1 a5) = true) (.ok (a0, (laws_markSlotS_v a1 a5).1, a2, a3, a4, (laws_markSlotS_v a1 a5).2))
  .no)
def laws_markCache_mk (p : Int × List (List TC) × Int × Int × Int × Int) : Res := [(true, [⟨.int .i64, .sh, TC.i (p.1)⟩, ⟨.slice 63, .own true, TC.l (p.2.1)⟩, ⟨.int .i64, .sh, TC.i (p.2.2.1)⟩, ⟨.int .i64, .sh, TC.i (p.2.2.2.1)⟩, ⟨.int .i64, .sh, TC.i (p.2.2.2.2.1)⟩]), (false, [⟨.int .i64, .sh, TC.i (p.2.2.2.2.2)⟩])]
noncomputable def laws_markCache_c (a0 : Int) (a1 : List (List TC)) (a2 : Int) (a3 : Int) (a4 : Int) (a5 : Int) : Bool := (laws_markSlotS_c a1 a5)
noncomputable def laws_markCache_v (a0 : Int) (a1 : List (List TC)) (a2 : Int) (a3 : Int) (a4 : Int) (a5 : Int) : Int × List (List TC) × Int × Int × Int × Int := (a0, (laws_markSlotS_v a1 a5).1, a2, a3, a4, (laws_markSlotS_v a1 a5).2)
theorem laws_markCache_l (a0 : Int) (a1 : List (List TC)) (a2 : Int) (a3 : Int) (a4 : Int) (a5 : Int) : (laws_markCache_c a0 a1 a2 a3 a4 a5) = true → (laws_markCache_t a0 a1 a2 a3 a4 a5).val = some (laws_markCache_v a0 a1 a2 a3 a4 a5) := by
  intro h
  have hc0 : (laws_markSlotS_c a1 a5) = true := h
  unfold laws_markCache_t
  exact (Tr.t hc0 rfl)
noncomputable def laws_markCache_S : List Arg → Option (Bool × Res) := fun xs => match xs with
  | [(true, [(.int .i64, TC.i a0), (.slice 63, TC.l a1), (.int .i64, TC.i a2), (.int .i64, TC.i a3), (.int .i64, TC.i a4)]), (false, [(.int .i64, TC.i a5)])] => some ((laws_markCache_c a0 a1 a2 a3 a4 a5), laws_markCache_mk (laws_markCache_v a0 a1 a2 a3 a4 a5))
  | _ => .none
theorem laws_markCache_e (a0 : Int) (a1 : List (List TC)) (a2 : Int) (a3 : Int) (a4 : Int) (a5 : Int) : runFW false tab FT D9 live 16 noLoops (true, [(.int .i64, TC.i a0), (.slice 63, TC.l a1), (.int .i64, TC.i a2), (.int .i64, TC.i a3), (.int .i64, TC.i a4)]) [(false, [(.int .i64, TC.i a5)])] = (laws_markCache_t a0 a1 a2 a3 a4 a5).run fun p => some (laws_markCache_mk p) := by kernel_rfl
theorem laws_markCache_s0 : ∀ ys r, laws_markCache_S ys = some (true, r) → ∀ a0 xs, ys = a0 :: xs → runFW false tab FT D9 live 16 noLoops a0 xs = some r := by
  intro ys r h
  unfold laws_markCache_S at h
  split at h
  · simp only [Option.some.injEq, Prod.mk.injEq] at h
    obtain ⟨h1, rfl⟩ := h
    intro a0 xs e
    cases e
    exact fun_toldW (laws_markCache_e _ _ _ _ _ _) (laws_markCache_l _ _ _ _ _ _) h1
  · cases h
theorem laws_markCache_s : ∀ a0 xs r, laws_markCache_S (a0 :: xs) = some (true, r) → runFW false tab FT D9 live 16 noLoops a0 xs = some r := fun a0 xs r h => laws_markCache_s0 _ r h a0 xs rfl
noncomputable def D10 : Dt := alsoW D9 16 laws_markCache_S
theorem d10 : DOk Go.Proofs.Try.prog tab D10 := d9.alsoW mixed_ok tab_ok names_ok noLoops_ok laws_markCache_s
/-! laws_heldSlotS -/
abbrev laws_heldSlotS_2_σ := List (List TC) × Int × Int
abbrev laws_heldSlotS_2_ω := (Int) ⊕ (Int)
noncomputable def laws_heldSlotS_2_step (A : List (List TC)) (k : Int) (i : Int) : Tr (laws_heldSlotS_2_σ ⊕ laws_heldSlotS_2_ω) := (.ite ((decide (i < (A.length : Int))) = true) (.ite ((0 : Int) ≤ i ∧ i < (A.length : Int)) (.ite ((!((nth (row A i) 0).int == k)) = true) (.ok (.inr (.inl k)))
    (.ite ((0 : Int) ≤ i ∧ i < (A.length : Int)) (.ite ((!((nth (row A i) 1).int == (IntKind.wrap .i64 (k + (1 : Int))))) = true) (.ok (.inr (.inl (IntKind.wrap .i64 (k + (1 : Int))))))
      (.ite ((0 : Int) ≤ i ∧ i < (A.length : Int)) (.ite ((laws_markText_c (IntKind.wrap .i64 ((IntKind.wrap .i64 (k + (1 : Int))) + (1 : Int)))) = true) (.ite ((!((nth (row A i) 2).str == (laws_markText_v (IntKind.wrap .i64 ((IntKind.wrap .i64 (k + (1 : Int))) + (1 : Int)))))) = true) (.ok (.inr (.inl (IntKind.wrap .i64 ((IntKind.wrap .i64 (k + (1 : Int))) + (1 : Int))))))
         (.ite ((0 : Int) ≤ i ∧ i < (A.length : Int)) (.ite ((!((nth (row A i) 3).bool == ((Int.tmod (IntKind.wrap .i64 ((IntKind.wrap .i64 ((IntKind.wrap .i64 (k + (1 : Int))) + (1 : Int))) + (1 : Int))) (3 : Int)) == (0 : Int)))) = true) (.ok (.inr (.inl (IntKind.wrap .i64 ((IntKind.wrap .i64 ((IntKind.wrap .i64 (k + (1 : Int))) + (1 : Int))) + (1 : Int))))))
           (.ok (.inl (A, (IntKind.wrap .i64 ((IntKind.wrap .i64 ((IntKind.wrap .i64 ((IntKind.wrap .i64 (k + (1 : Int))) + (1 : Int))) + (1 : Int))) + (1 : Int))), (IntKind.wrap .i64 (i + (1 : Int)))))))
          .no))
        .no)
       .no))
     .no))
   .no)
  (.ok (.inr (.inr k))))
noncomputable def laws_heldSlotS_2_st : laws_heldSlotS_2_σ → Tr (laws_heldSlotS_2_σ ⊕ laws_heldSlotS_2_ω) := fun x => (laws_heldSlotS_2_step (x.1) (x.2.1) (x.2.2))
noncomputable def laws_heldSlotS_o2_1 (A : List (List TC)) (k : Int) (i : Int) : Bool := is (A = mkL_63 k A.length ∧ A.length ≤ 140737488351232 ∧ 0 ≤ k ∧ k ≤ 2305843009213693952 ∧ i = 0)
noncomputable def laws_heldSlotS_u2_1 (A : List (List TC)) (k : Int) (i : Int) : Int := k + 4 * (A.length : Int)
noncomputable def laws_heldSlotS_2_fin (A : List (List TC)) (k : Int) (i : Int) : Told laws_heldSlotS_2_ω := (.leaf (laws_heldSlotS_o2_1 A k i) (.inr (laws_heldSlotS_u2_1 A k i)))
def laws_heldSlotS_2_sl (x : laws_heldSlotS_2_σ) : List Slot := [⟨.val false [⟨.slice 63, .sh, TC.l (x.1)⟩], ⟨0, 0⟩⟩, ⟨.val false [⟨.int .i64, .sh, TC.i (x.2.1)⟩], ⟨0, 0⟩⟩, ⟨.val false [⟨.int .i64, .sh, TC.i (x.2.2)⟩], ⟨0, 0⟩⟩]
def laws_heldSlotS_2_out : laws_heldSlotS_2_ω → Ex × List Slot := (Sum.elim (fun x => (.ret, [⟨.val false [⟨.int .i64, .sh, TC.i x⟩], ⟨0, 0⟩⟩, ⟨.val false [⟨.int .i64, .sh, TC.i (-1 : Int)⟩], ⟨0, 0⟩⟩])) (fun x => (.exit 0, [⟨.val false [⟨.int .i64, .sh, TC.i x⟩], ⟨0, 0⟩⟩, Slot.none])))
noncomputable def laws_heldSlotS_lo2 : List Slot → Option (Told (Ex × List Slot)) := fun s => match s with
  | [⟨.val false [⟨.slice 63, .sh, TC.l A⟩], ⟨0, 0⟩⟩, ⟨.val false [⟨.int .i64, .sh, TC.i k⟩], ⟨0, 0⟩⟩, ⟨.val false [⟨.int .i64, .sh, TC.i i⟩], ⟨0, 0⟩⟩] => some (((laws_heldSlotS_2_fin A k i)).map laws_heldSlotS_2_out)
  | _ => .none
noncomputable def laws_heldSlotS_lo : LoopTeller := fun r s => bif Nat.beq r 2 then laws_heldSlotS_lo2 s else .none
theorem laws_heldSlotS_2_r (A : List (List TC)) (k : Int) (i : Int) (fuel : Nat) : rounds (rnd tab FT D10 live 32 laws_heldSlotS_lo 0 2) leave (fuel + 1) (laws_heldSlotS_2_sl (A, k, i)) = ((laws_heldSlotS_2_step A k i)).run (goOn (fun s => rounds (rnd tab FT D10 live 32 laws_heldSlotS_lo 0 2) leave fuel (laws_heldSlotS_2_sl s)) fun w => some (laws_heldSlotS_2_out w)) := by kernel_rfl
theorem laws_heldSlotS_2_h (A : List (List TC)) (k : Int) (i : Int) (ow : laws_heldSlotS_2_ω) : ((laws_heldSlotS_2_fin A k i)).val = some ow → ∃ fuel, loopN laws_heldSlotS_2_st fuel (A, k, i) = some ow := by
  intro h
  refine auto_leaf (R := Sum.inr (k + 4 * (A.length : Int))) (fun ho => ?_) h
  obtain ⟨hA, hl, h0, h1, rfl⟩ := is_iff.1 ho
  have key := loopN_run (step := laws_heldSlotS_2_st) (N := A.length) (w := Sum.inr (k + 4 * (A.length : Int))) (fun i => (A, k + 4 * (i : Int), (i : Int))) (fun i hi => ?_) ?_ A.length 0 (by omega)
  · exact ⟨A.length + 1, Eq.trans (congrArg (loopN laws_heldSlotS_2_st (A.length + 1)) (by simp)) key⟩
  · obtain ⟨kk, hkk⟩ : ∃ kk : Int, kk = k + 4 * (i : Int) := ⟨_, rfl⟩
    have hk0 : 0 ≤ kk := by omega
    have hk1 : kk + 4 ≤ 4611686018427387904 := by omega
    have hrow : row A (i : Int) = mkR_63 kk := by
      rw [hA]
      unfold mkL_63
      rw [row_madeL hi, hkk]
    show (laws_heldSlotS_2_step A (k + 4 * (i : Int)) (i : Int)).val = _
    rw [← hkk]
    unfold laws_heldSlotS_2_step
    rw [hrow]
    rw [wrap64 (i := kk + 1) (by omega) (by omega)]
    rw [wrap64 (i := kk + 1 + 1) (by omega) (by omega)]
    rw [wrap64 (i := kk + 1 + 1 + 1) (by omega) (by omega)]
    rw [wrap64 (i := kk + 1 + 1 + 1 + 1) (by omega) (by omega)]
    try rw [wrap64 (i := kk) (by omega) (by omega)]
    refine Tr.t (by simp; omega) ?_
    refine Tr.t (by constructor <;> omega) ?_
    refine Tr.n (by simp [nth, mkR_63, TC.str, TC.int, TC.bool]) ?_
    refine Tr.t (by constructor <;> omega) ?_
    refine Tr.n (by simp [nth, mkR_63, TC.str, TC.int, TC.bool]) ?_
    refine Tr.t (by constructor <;> omega) ?_
    refine Tr.t (laws_markText_cc (by omega) (by omega)) ?_
    refine Tr.n (by simp [nth, mkR_63, TC.str, TC.int, TC.bool]) ?_
    refine Tr.t (by constructor <;> omega) ?_
    refine Tr.n (by simp [nth, mkR_63, TC.str, TC.int, TC.bool]) ?_
    rw [Tr.val_ok, wrap64 (i := (i : Int) + 1) (by omega) (by omega)]
    show some (Sum.inl (_, _, _)) = some (Sum.inl (_, _, _))
    rw [show k + 4 * ((i + 1 : Nat) : Int) = kk + 1 + 1 + 1 + 1 from by omega]
    rfl
  · show (laws_heldSlotS_2_step A (k + 4 * (A.length : Int)) (A.length : Int)).val = _
    unfold laws_heldSlotS_2_step
    refine Tr.n (by simp) ?_
    rfl
theorem laws_heldSlotS_is2 : LoopIs tab FT D10 live 32 laws_heldSlotS_lo 0 2 := by
  refine loop_told (sl := laws_heldSlotS_2_sl) (step := laws_heldSlotS_2_st) (out := laws_heldSlotS_2_out) (lor := laws_heldSlotS_lo2) (fin := fun x => (laws_heldSlotS_2_fin (x.1) (x.2.1) (x.2.2))) (fun _ => rfl) ?_ (fun x n => laws_heldSlotS_2_r x.1 x.2.1 x.2.2 n) (fun x ow => laws_heldSlotS_2_h x.1 x.2.1 x.2.2 ow)
  intro s t h
  unfold laws_heldSlotS_lo2 at h
  split at h
  · cases h; exact ⟨(_, _, _), rfl, rfl⟩
  · cases h
noncomputable def laws_heldSlotS_t (A : List (List TC)) (k : Int) : Tr (Int) := (.ite ((laws_heldSlotS_o2_1 A k (0 : Int)) = true) (.ok (laws_heldSlotS_u2_1 A k (0 : Int)))
  .no)
def laws_heldSlotS_mk (p : Int) : Res := [(false, [⟨.int .i64, .sh, TC.i p⟩])]
noncomputable def laws_heldSlotS_c (A : List (List TC)) (k : Int) : Bool := is (A = mkL_63 k A.length ∧ A.length ≤ 140737488351232 ∧ 0 ≤ k ∧ k ≤ 2305843009213693952)
noncomputable def laws_heldSlotS_v (A : List (List TC)) (k : Int) : Int := k + 4 * (A.length : Int)
theorem laws_heldSlotS_l (A : List (List TC)) (k : Int) : (laws_heldSlotS_c A k) = true → (laws_heldSlotS_t A k).val = some (laws_heldSlotS_v A k) := by
  intro h
  obtain ⟨hr, hl, h0, h1⟩ := is_iff.1 h
  unfold laws_heldSlotS_t
  exact Tr.t (is_true ⟨hr, hl, h0, h1, rfl⟩) rfl
noncomputable def laws_heldSlotS_S : List Arg → Option (Bool × Res) := fun xs => match xs with
  | [(false, [(.slice 63, TC.l A)]), (false, [(.int .i64, TC.i k)])] => some ((laws_heldSlotS_c A k), laws_heldSlotS_mk (laws_heldSlotS_v A k))
  | _ => .none
theorem laws_heldSlotS_e (A : List (List TC)) (k : Int) : runF tab FT D10 live 32 laws_heldSlotS_lo [(false, [(.slice 63, TC.l A)]), (false, [(.int .i64, TC.i k)])] = (laws_heldSlotS_t A k).run fun p => some (laws_heldSlotS_mk p) := by kernel_rfl
theorem laws_heldSlotS_s : ∀ xs r, laws_heldSlotS_S xs = some (true, r) → runF tab FT D10 live 32 laws_heldSlotS_lo xs = some r := by
  intro xs r h
  unfold laws_heldSlotS_S at h
  split at h
  · simp only [Option.some.injEq, Prod.mk.injEq] at h
    obtain ⟨h1, rfl⟩ := h
    exact fun_told (laws_heldSlotS_e _ _) (laws_heldSlotS_l _ _) h1
  · cases h
noncomputable def D11 : Dt := also D10 32 laws_heldSlotS_S
theorem d11 : DOk Go.Proofs.Try.prog tab D11 := d10.also mixed_ok tab_ok names_ok (fnLoops_one (by kernel_rfl) laws_heldSlotS_is2) laws_heldSlotS_s
theorem laws_heldSlotS_cc {A : List (List TC)} {k : Int} (hl : A.length ≤ 140737488351232) (h0 : 0 ≤ k) (h1 : k ≤ 2305843009213693952) : laws_heldSlotS_c (laws_markSlotS_v A k).1 k = true := is_true ⟨by show mkL_63 k A.length = mkL_63 k (mkL_63 k A.length).length; rw [mkL_63_length], by show (mkL_63 k A.length).length ≤ _; rw [mkL_63_length]; exact hl, h0, h1⟩
theorem laws_heldSlotS_vm {A : List (List TC)} {k : Int} : laws_heldSlotS_v (laws_markSlotS_v A k).1 k = (laws_markSlotS_v A k).2 := by
  show k + 4 * ((mkL_63 k A.length).length : Int) = k + 4 * (A.length : Int)
  rw [mkL_63_length]
/-! laws_heldCache -/
noncomputable def laws_heldCache_t (a0 : Int) (a1 : List (List TC)) (a2 : Int) (a3 : Int) (a4 : Int) (a5 : Int) : Tr (Int) := (.ite ((laws_heldSlotS_c a1 a5) = true) (.ite ((decide ((laws_heldSlotS_v a1 a5) < (0 : Int))) = true) (.ok (-1 : Int))
   (.ok (laws_heldSlotS_v a1 a5)))
  .no)
def laws_heldCache_mk (p : Int) : Res := [(false, [⟨.int .i64, .sh, TC.i p⟩])]
noncomputable def laws_heldCache_c (a0 : Int) (a1 : List (List TC)) (a2 : Int) (a3 : Int) (a4 : Int) (a5 : Int) : Bool := (laws_heldSlotS_c a1 a5)
noncomputable def laws_heldCache_v (a0 : Int) (a1 : List (List TC)) (a2 : Int) (a3 : Int) (a4 : Int) (a5 : Int) : Int := (bif (decide ((laws_heldSlotS_v a1 a5) < (0 : Int))) then (-1 : Int) else (laws_heldSlotS_v a1 a5))
theorem laws_heldCache_l (a0 : Int) (a1 : List (List TC)) (a2 : Int) (a3 : Int) (a4 : Int) (a5 : Int) : (laws_heldCache_c a0 a1 a2 a3 a4 a5) = true → (laws_heldCache_t a0 a1 a2 a3 a4 a5).val = some (laws_heldCache_v a0 a1 a2 a3 a4 a5) := by
  intro h
  have g0 : (laws_heldSlotS_c a1 a5) = true := h
  unfold laws_heldCache_t laws_heldCache_v
  exact (Tr.t g0 (Tr.s rfl rfl))
noncomputable def laws_heldCache_S : List Arg → Option (Bool × Res) := fun xs => match xs with
  | [(true, [(.int .i64, TC.i a0), (.slice 63, TC.l a1), (.int .i64, TC.i a2), (.int .i64, TC.i a3), (.int .i64, TC.i a4)]), (false, [(.int .i64, TC.i a5)])] => some ((laws_heldCache_c a0 a1 a2 a3 a4 a5), laws_heldCache_mk (laws_heldCache_v a0 a1 a2 a3 a4 a5))
  | _ => .none
theorem laws_heldCache_e (a0 : Int) (a1 : List (List TC)) (a2 : Int) (a3 : Int) (a4 : Int) (a5 : Int) : runF tab FT D11 live 17 noLoops [(true, [(.int .i64, TC.i a0), (.slice 63, TC.l a1), (.int .i64, TC.i a2), (.int .i64, TC.i a3), (.int .i64, TC.i a4)]), (false, [(.int .i64, TC.i a5)])] = (laws_heldCache_t a0 a1 a2 a3 a4 a5).run fun p => some (laws_heldCache_mk p) := by kernel_rfl
theorem laws_heldCache_s : ∀ xs r, laws_heldCache_S xs = some (true, r) → runF tab FT D11 live 17 noLoops xs = some r := by
  intro xs r h
  unfold laws_heldCache_S at h
  split at h
  · simp only [Option.some.injEq, Prod.mk.injEq] at h
    obtain ⟨h1, rfl⟩ := h
    exact fun_told (laws_heldCache_e _ _ _ _ _ _) (laws_heldCache_l _ _ _ _ _ _) h1
  · cases h
noncomputable def D12 : Dt := also D11 17 laws_heldCache_S
theorem d12 : DOk Go.Proofs.Try.prog tab D12 := d11.also mixed_ok tab_ok names_ok noLoops_ok laws_heldCache_s
/-! the law -/
noncomputable def laws_FnExactNewCache_t (x0 : Int) : Tr Bool := (.ite ((laws_eqCache_c ((impl_NewCache_v x0).1) ((impl_NewCache_v x0).2.1) (0 : Int) (0 : Int) (0 : Int) ((spec_NewCache_v x0).1) ((spec_NewCache_v x0).2.1) (0 : Int) (0 : Int) (0 : Int)) = true) (.ite ((!(laws_eqCache_v ((impl_NewCache_v x0).1) ((impl_NewCache_v x0).2.1) (0 : Int) (0 : Int) (0 : Int) ((spec_NewCache_v x0).1) ((spec_NewCache_v x0).2.1) (0 : Int) (0 : Int) (0 : Int))) = true) (.ok false)
   (.ite ((!((impl_NewCache_v x0).2.2 == (spec_NewCache_v x0).2.2)) = true) (.ok false)
    (.ite ((laws_markCache_c ((impl_NewCache_v x0).1) ((impl_NewCache_v x0).2.1) (0 : Int) (0 : Int) (0 : Int) (1 : Int)) = true) (.ite ((laws_heldCache_c ((laws_markCache_v ((impl_NewCache_v x0).1) ((impl_NewCache_v x0).2.1) (0 : Int) (0 : Int) (0 : Int) (1 : Int)).1) ((laws_markCache_v ((impl_NewCache_v x0).1) ((impl_NewCache_v x0).2.1) (0 : Int) (0 : Int) (0 : Int) (1 : Int)).2.1) ((laws_markCache_v ((impl_NewCache_v x0).1) ((impl_NewCache_v x0).2.1) (0 : Int) (0 : Int) (0 : Int) (1 : Int)).2.2.1) ((laws_markCache_v ((impl_NewCache_v x0).1) ((impl_NewCache_v x0).2.1) (0 : Int) (0 : Int) (0 : Int) (1 : Int)).2.2.2.1) ((laws_markCache_v ((impl_NewCache_v x0).1) ((impl_NewCache_v x0).2.1) (0 : Int) (0 : Int) (0 : Int) (1 : Int)).2.2.2.2.1) (1 : Int)) = true) (.ite ((decide ((laws_heldCache_v ((laws_markCache_v ((impl_NewCache_v x0).1) ((impl_NewCache_v x0).2.1) (0 : Int) (0 : Int) (0 : Int) (1 : Int)).1) ((laws_markCache_v ((impl_NewCache_v x0).1) ((impl_NewCache_v x0).2.1) (0 : Int) (0 : Int) (0 : Int) (1 : Int)).2.1) ((laws_markCache_v ((impl_NewCache_v x0).1) ((impl_NewCache_v x0).2.1) (0 : Int) (0 : Int) (0 : Int) (1 : Int)).2.2.1) ((laws_markCache_v ((impl_NewCache_v x0).1) ((impl_NewCache_v x0).2.1) (0 : Int) (0 : Int) (0 : Int) (1 : Int)).2.2.2.1) ((laws_markCache_v ((impl_NewCache_v x0).1) ((impl_NewCache_v x0).2.1) (0 : Int) (0 : Int) (0 : Int) (1 : Int)).2.2.2.2.1) (1 : Int)) < (0 : Int))) = true) (.ok false)
       (.ite ((!((laws_heldCache_v ((laws_markCache_v ((impl_NewCache_v x0).1) ((impl_NewCache_v x0).2.1) (0 : Int) (0 : Int) (0 : Int) (1 : Int)).1) ((laws_markCache_v ((impl_NewCache_v x0).1) ((impl_NewCache_v x0).2.1) (0 : Int) (0 : Int) (0 : Int) (1 : Int)).2.1) ((laws_markCache_v ((impl_NewCache_v x0).1) ((impl_NewCache_v x0).2.1) (0 : Int) (0 : Int) (0 : Int) (1 : Int)).2.2.1) ((laws_markCache_v ((impl_NewCache_v x0).1) ((impl_NewCache_v x0).2.1) (0 : Int) (0 : Int) (0 : Int) (1 : Int)).2.2.2.1) ((laws_markCache_v ((impl_NewCache_v x0).1) ((impl_NewCache_v x0).2.1) (0 : Int) (0 : Int) (0 : Int) (1 : Int)).2.2.2.2.1) (1 : Int)) == (laws_markCache_v ((impl_NewCache_v x0).1) ((impl_NewCache_v x0).2.1) (0 : Int) (0 : Int) (0 : Int) (1 : Int)).2.2.2.2.2)) = true) (.ok false)
        (.ite ((laws_eqCache_c ((impl_NewCache_v x0).1) ((impl_NewCache_v x0).2.1) (0 : Int) (0 : Int) (0 : Int) ((spec_NewCache_v x0).1) ((spec_NewCache_v x0).2.1) (0 : Int) (0 : Int) (0 : Int)) = true) (.ite ((!(laws_eqCache_v ((impl_NewCache_v x0).1) ((impl_NewCache_v x0).2.1) (0 : Int) (0 : Int) (0 : Int) ((spec_NewCache_v x0).1) ((spec_NewCache_v x0).2.1) (0 : Int) (0 : Int) (0 : Int))) = true) (.ok false)
          (.ite ((!((impl_NewCache_v x0).2.2 == (spec_NewCache_v x0).2.2)) = true) (.ok false)
           (.ite ((laws_heldCache_c ((laws_markCache_v ((impl_NewCache_v x0).1) ((impl_NewCache_v x0).2.1) (0 : Int) (0 : Int) (0 : Int) (1 : Int)).1) ((laws_markCache_v ((impl_NewCache_v x0).1) ((impl_NewCache_v x0).2.1) (0 : Int) (0 : Int) (0 : Int) (1 : Int)).2.1) ((laws_markCache_v ((impl_NewCache_v x0).1) ((impl_NewCache_v x0).2.1) (0 : Int) (0 : Int) (0 : Int) (1 : Int)).2.2.1) ((laws_markCache_v ((impl_NewCache_v x0).1) ((impl_NewCache_v x0).2.1) (0 : Int) (0 : Int) (0 : Int) (1 : Int)).2.2.2.1) ((laws_markCache_v ((impl_NewCache_v x0).1) ((impl_NewCache_v x0).2.1) (0 : Int) (0 : Int) (0 : Int) (1 : Int)).2.2.2.2.1) (1 : Int)) = true) (.ite ((decide ((laws_heldCache_v ((laws_markCache_v ((impl_NewCache_v x0).1) ((impl_NewCache_v x0).2.1) (0 : Int) (0 : Int) (0 : Int) (1 : Int)).1) ((laws_markCache_v ((impl_NewCache_v x0).1) ((impl_NewCache_v x0).2.1) (0 : Int) (0 : Int) (0 : Int) (1 : Int)).2.1) ((laws_markCache_v ((impl_NewCache_v x0).1) ((impl_NewCache_v x0).2.1) (0 : Int) (0 : Int) (0 : Int) (1 : Int)).2.2.1) ((laws_markCache_v ((impl_NewCache_v x0).1) ((impl_NewCache_v x0).2.1) (0 : Int) (0 : Int) (0 : Int) (1 : Int)).2.2.2.1) ((laws_markCache_v ((impl_NewCache_v x0).1) ((impl_NewCache_v x0).2.1) (0 : Int) (0 : Int) (0 : Int) (1 : Int)).2.2.2.2.1) (1 : Int)) < (0 : Int))) = true) (.ok false)
             (.ite ((!((laws_heldCache_v ((laws_markCache_v ((impl_NewCache_v x0).1) ((impl_NewCache_v x0).2.1) (0 : Int) (0 : Int) (0 : Int) (1 : Int)).1) ((laws_markCache_v ((impl_NewCache_v x0).1) ((impl_NewCache_v x0).2.1) (0 : Int) (0 : Int) (0 : Int) (1 : Int)).2.1) ((laws_markCache_v ((impl_NewCache_v x0).1) ((impl_NewCache_v x0).2.1) (0 : Int) (0 : Int) (0 : Int) (1 : Int)).2.2.1) ((laws_markCache_v ((impl_NewCache_v x0).1) ((impl_NewCache_v x0).2.1) (0 : Int) (0 : Int) (0 : Int) (1 : Int)).2.2.2.1) ((laws_markCache_v ((impl_NewCache_v x0).1) ((impl_NewCache_v x0).2.1) (0 : Int) (0 : Int) (0 : Int) (1 : Int)).2.2.2.2.1) (1 : Int)) == (laws_markCache_v ((impl_NewCache_v x0).1) ((impl_NewCache_v x0).2.1) (0 : Int) (0 : Int) (0 : Int) (1 : Int)).2.2.2.2.2)) = true) (.ok false)
              (.ok true)))
            .no)))
         .no)))
      .no)
     .no)))
  .no)
theorem laws_FnExactNewCache_e (x0 : Int) : runF tab FT D12 live 5 noLoops [(false, [(.int .i64, TC.i x0)])] = (laws_FnExactNewCache_t x0).run fun p => some [(false, [⟨.bool, .sh, .b p⟩])] := by kernel_rfl
theorem laws_FnExactNewCache_p (x0 : Int) (h0 : Typed tab (.int .i64) (.i x0)) : (laws_FnExactNewCache_t x0).val = some true := by
  have eq0 : spec_NewCache_v x0 = impl_NewCache_v x0 := rfl
  have en : (impl_NewCache_v x0).2.1 = [] := by
    unfold impl_NewCache_v
    cases (!(impl_within_v x0 (1 : Int) (16 : Int))) <;> rfl
  have ty : Typed tab (.slice 63) (.l []) := .slice _ _ (by simp) (by simp) (fun _ h => by cases h) (fun _ h => by cases h)
  have ee : ∀ a, laws_eqCache_c a [] 0 0 0 a [] 0 0 0 = true := fun a => is_true ⟨rfl, rfl, rfl, rfl, rfl, ty⟩
  have mc : ∀ a, laws_markCache_c a [] 0 0 0 1 = true := fun a => is_true ⟨(fun _ h => by cases h), by simp, by decide, by decide⟩
  have mv : ∀ a, laws_markCache_v a [] 0 0 0 1 = (a, [], 0, 0, 0, 1) := fun a => rfl
  have hc : ∀ a, laws_heldCache_c a [] 0 0 0 1 = true := fun a => is_true ⟨rfl, by simp, by decide, by decide⟩
  have hv : ∀ a, laws_heldCache_v a [] 0 0 0 1 = 1 := fun a => rfl
  unfold laws_FnExactNewCache_t
  rw [eq0, en, mv]
  dsimp only
  rw [hv]
  refine Tr.t (ee _) ?_
  refine Tr.n (by simp [laws_eqCache_v]) ?_
  refine Tr.n (by simp) ?_
  refine Tr.t (mc _) ?_
  refine Tr.t (hc _) ?_
  refine Tr.n (by simp) ?_
  refine Tr.n (by simp) ?_
  refine Tr.t (ee _) ?_
  refine Tr.n (by simp [laws_eqCache_v]) ?_
  refine Tr.n (by simp) ?_
  refine Tr.t (hc _) ?_
  refine Tr.n (by simp) ?_
  refine Tr.n (by simp) ?_
  rfl
theorem laws_FnExactNewCache_pure : ∀ xs, ArgsTyped tab [2] xs → runF tab FT D12 live 5 noLoops xs = yes := by
  intro xs h
  cases h with | cons l0 g0 h =>
  obtain ⟨z0_0, rfl⟩ := len_1 l0
  have q0 := g0 0 (by decide)
  have q0 : Typed tab (.int .i64) z0_0 := q0
  obtain ⟨y0, rfl⟩ := typed_int q0
  cases h
  refine (laws_FnExactNewCache_e y0).trans ?_
  rw [Tr.run_eq, laws_FnExactNewCache_p y0 q0]
  rfl
end Go.Proofs.Ytmaaolemlobjeaa.V
