/- What the functions of FnExactValidCache answer. No condition. -/
import Derived.Test.YtdifjmbflnkojaaVFacts
namespace Go.Proofs.Ytdifjmbflnkojaa.V
open Go
set_option maxRecDepth 100000
set_option linter.unusedVariables false
set_option linter.unusedSimpArgs false
/-! laws_szSlot -/
noncomputable def laws_szSlot_t (a0 : Int) (a1 : Int) (a2 : List UInt8) (a3 : Bool) (a4 : Int) : Tr (Int) := (.ite ((decide ((IntKind.wrap .i64 (a4 - (a2.length : Int))) < (0 : Int))) = true) (.ok (-1 : Int))
  (.ok (IntKind.wrap .i64 (a4 - (a2.length : Int)))))
def laws_szSlot_mk (p : Int) : Res := [(false, [⟨.int .i64, .sh, TC.i p⟩])]
noncomputable def laws_szSlot_c (a0 : Int) (a1 : Int) (a2 : List UInt8) (a3 : Bool) (a4 : Int) : Bool := true
noncomputable def laws_szSlot_v (a0 : Int) (a1 : Int) (a2 : List UInt8) (a3 : Bool) (a4 : Int) : Int := (bif (decide ((IntKind.wrap .i64 (a4 - (a2.length : Int))) < (0 : Int))) then (-1 : Int) else (IntKind.wrap .i64 (a4 - (a2.length : Int))))
theorem laws_szSlot_l (a0 : Int) (a1 : Int) (a2 : List UInt8) (a3 : Bool) (a4 : Int) : (laws_szSlot_c a0 a1 a2 a3 a4) = true → (laws_szSlot_t a0 a1 a2 a3 a4).val = some (laws_szSlot_v a0 a1 a2 a3 a4) := by
  intro h
  skip
  unfold laws_szSlot_t laws_szSlot_v
  exact (Tr.s rfl rfl)
noncomputable def laws_szSlot_S : List Arg → Option (Bool × Res) := fun xs => match xs with
  | [(true, [(.int .i64, TC.i a0), (.int .i64, TC.i a1), (.str, TC.s a2), (.bool, TC.b a3)]), (false, [(.int .i64, TC.i a4)])] => some (true, laws_szSlot_mk (laws_szSlot_v a0 a1 a2 a3 a4))
  | _ => .none
theorem laws_szSlot_e (a0 : Int) (a1 : Int) (a2 : List UInt8) (a3 : Bool) (a4 : Int) : runF tab FT D0 live 106 noLoops [(true, [(.int .i64, TC.i a0), (.int .i64, TC.i a1), (.str, TC.s a2), (.bool, TC.b a3)]), (false, [(.int .i64, TC.i a4)])] = (laws_szSlot_t a0 a1 a2 a3 a4).run fun p => some (laws_szSlot_mk p) := by kernel_rfl
theorem laws_szSlot_s : ∀ xs r, laws_szSlot_S xs = some (true, r) → runF tab FT D0 live 106 noLoops xs = some r := by
  intro xs r h
  unfold laws_szSlot_S at h
  split at h
  · simp only [Option.some.injEq, Prod.mk.injEq] at h
    obtain ⟨h1, rfl⟩ := h
    exact fun_told (laws_szSlot_e _ _ _ _ _) (laws_szSlot_l _ _ _ _ _) rfl
  · cases h
noncomputable def D1 : Dt := also D0 106 laws_szSlot_S
theorem d1 : DOk Go.Proofs.Try.prog tab D1 := d0.also mixed_ok tab_ok names_ok noLoops_ok laws_szSlot_s
/-! laws_szSlotS -/
abbrev laws_szSlotS_5_σ := List (List TC) × Int × Int
abbrev laws_szSlotS_5_ω := (Int) ⊕ (Int)
noncomputable def laws_szSlotS_5_step (A : List (List TC)) (left : Int) (i : Int) : Tr (laws_szSlotS_5_σ ⊕ laws_szSlotS_5_ω) := (.ite ((decide (i < (A.length : Int))) = true) (.ite ((0 : Int) ≤ i ∧ i < (A.length : Int)) (.ite ((decide ((laws_szSlot_v ((nth (row A i) 0).int) ((nth (row A i) 1).int) ((nth (row A i) 2).str) ((nth (row A i) 3).bool) left) < (0 : Int))) = true) (.ok (.inr (.inl (laws_szSlot_v ((nth (row A i) 0).int) ((nth (row A i) 1).int) ((nth (row A i) 2).str) ((nth (row A i) 3).bool) left))))
    (.ok (.inl (A, (laws_szSlot_v ((nth (row A i) 0).int) ((nth (row A i) 1).int) ((nth (row A i) 2).str) ((nth (row A i) 3).bool) left), (IntKind.wrap .i64 (i + (1 : Int)))))))
   .no)
  (.ok (.inr (.inr left))))
noncomputable def laws_szSlotS_5_st : laws_szSlotS_5_σ → Tr (laws_szSlotS_5_σ ⊕ laws_szSlotS_5_ω) := fun x => (laws_szSlotS_5_step (x.1) (x.2.1) (x.2.2))
noncomputable def laws_szSlotS_k5_1 (A : List (List TC)) (left : Int) (i : Int) : Bool := isL (loopN laws_szSlotS_5_st (A.length + 1) (A, left, i))
noncomputable def laws_szSlotS_o5_2 (A : List (List TC)) (left : Int) (i : Int) : Bool := is (i = 0 ∧ Typed tab (.slice 125) (.l A))
noncomputable def laws_szSlotS_u5_2 (A : List (List TC)) (left : Int) (i : Int) : Int := getL (loopN laws_szSlotS_5_st (A.length + 1) (A, left, i))
noncomputable def laws_szSlotS_o5_3 (A : List (List TC)) (left : Int) (i : Int) : Bool := is (i = 0 ∧ Typed tab (.slice 125) (.l A))
noncomputable def laws_szSlotS_u5_3 (A : List (List TC)) (left : Int) (i : Int) : Int := getR (loopN laws_szSlotS_5_st (A.length + 1) (A, left, i))
noncomputable def laws_szSlotS_5_fin (A : List (List TC)) (left : Int) (i : Int) : Told laws_szSlotS_5_ω := (.br (laws_szSlotS_k5_1 A left i) (.leaf (laws_szSlotS_o5_2 A left i) (.inl (laws_szSlotS_u5_2 A left i))) (.leaf (laws_szSlotS_o5_3 A left i) (.inr (laws_szSlotS_u5_3 A left i))))
def laws_szSlotS_5_sl (x : laws_szSlotS_5_σ) : List Slot := [⟨.val false [⟨.slice 125, .sh, TC.l (x.1)⟩], ⟨0, 0⟩⟩, ⟨.val false [⟨.int .i64, .sh, TC.i (x.2.1)⟩], ⟨0, 0⟩⟩, ⟨.val false [⟨.int .i64, .sh, TC.i (x.2.2)⟩], ⟨0, 0⟩⟩]
def laws_szSlotS_5_out : laws_szSlotS_5_ω → Ex × List Slot := (Sum.elim (fun x => (.ret, [⟨.val false [⟨.int .i64, .sh, TC.i x⟩], ⟨0, 0⟩⟩, ⟨.val false [⟨.int .i64, .sh, TC.i (-1 : Int)⟩], ⟨0, 0⟩⟩])) (fun x => (.exit 0, [⟨.val false [⟨.int .i64, .sh, TC.i x⟩], ⟨0, 0⟩⟩, Slot.none])))
noncomputable def laws_szSlotS_lo5 : List Slot → Option (Told (Ex × List Slot)) := fun s => match s with
  | [⟨.val false [⟨.slice 125, .sh, TC.l A⟩], ⟨0, 0⟩⟩, ⟨.val false [⟨.int .i64, .sh, TC.i left⟩], ⟨0, 0⟩⟩, ⟨.val false [⟨.int .i64, .sh, TC.i i⟩], ⟨0, 0⟩⟩] => some (((laws_szSlotS_5_fin A left i)).map laws_szSlotS_5_out)
  | _ => .none
noncomputable def laws_szSlotS_lo : LoopTeller := fun r s => bif Nat.beq r 5 then laws_szSlotS_lo5 s else .none
theorem laws_szSlotS_5_r (A : List (List TC)) (left : Int) (i : Int) (fuel : Nat) : rounds (rnd tab FT D1 live 63 laws_szSlotS_lo 0 5) leave (fuel + 1) (laws_szSlotS_5_sl (A, left, i)) = ((laws_szSlotS_5_step A left i)).run (goOn (fun s => rounds (rnd tab FT D1 live 63 laws_szSlotS_lo 0 5) leave fuel (laws_szSlotS_5_sl s)) fun w => some (laws_szSlotS_5_out w)) := by kernel_rfl
theorem laws_szSlotS_5_h (A : List (List TC)) (left : Int) (i : Int) (ow : laws_szSlotS_5_ω) : ((laws_szSlotS_5_fin A left i)).val = some ow → ∃ fuel, loopN laws_szSlotS_5_st fuel (A, left, i) = some ow := by
  refine auto_two (N := A.length + 1) rfl rfl rfl ?_
  intro ho
  have ho : is (i = 0 ∧ Typed tab (.slice 125) (.l A)) = true := ho.elim id id
  obtain ⟨rfl, ht⟩ := is_iff.1 ho
  have hlen : A.length ≤ 140737488351232 := by have := typed_room ht; simp only [show (tab 125).bytes = 40 from rfl] at this; omega
  refine loopN_ends (step := laws_szSlotS_5_st) (N := A.length) (fun i a => (A, a, (i : Int))) (fun i a hi => ?_) (fun a => ?_) A.length 0 left (by omega)
  · show (∃ a', (laws_szSlotS_5_step A a (i : Int)).val = _) ∨ ∃ w, (laws_szSlotS_5_step A a (i : Int)).val = _
    have c2 : Typed tab (.str) (.s (nth (A.getD i []) 2).str) := typed_s (typed_cell ht (A.getD i []) (mem_getD hi) 2 (by decide))
    cases hneg : ((decide ((laws_szSlot_v ((nth (row A i) 0).int) ((nth (row A i) 1).int) ((nth (row A i) 2).str) ((nth (row A i) 3).bool) a) < (0 : Int))))
    · apply Or.inl
      apply Exists.intro
      · unfold laws_szSlotS_5_step
        refine Tr.t (by simp; omega) ?_
        refine Tr.t (by first | omega | (constructor <;> omega)) ?_
        refine Tr.n (by rw [hneg]; simp) ?_
        rw [Tr.val_ok, wrap64 (i := (i : Int) + 1) (by omega) (by omega)]; rfl
    · apply Or.inr
      apply Exists.intro
      · unfold laws_szSlotS_5_step
        refine Tr.t (by simp; omega) ?_
        refine Tr.t (by first | omega | (constructor <;> omega)) ?_
        refine Tr.t hneg ?_
        rfl
  · apply Exists.intro
    · show (laws_szSlotS_5_step A a (A.length : Int)).val = _
      refine Tr.n (by simp) ?_
      rfl
theorem laws_szSlotS_is5 : LoopIs tab FT D1 live 63 laws_szSlotS_lo 0 5 := by
  refine loop_told (sl := laws_szSlotS_5_sl) (step := laws_szSlotS_5_st) (out := laws_szSlotS_5_out) (lor := laws_szSlotS_lo5) (fin := fun x => (laws_szSlotS_5_fin (x.1) (x.2.1) (x.2.2))) (fun _ => rfl) ?_ (fun x n => laws_szSlotS_5_r x.1 x.2.1 x.2.2 n) (fun x ow => laws_szSlotS_5_h x.1 x.2.1 x.2.2 ow)
  intro s t h
  unfold laws_szSlotS_lo5 at h
  split at h
  · cases h; exact ⟨(_, _, _), rfl, rfl⟩
  · cases h
noncomputable def laws_szSlotS_t (A : List (List TC)) (left : Int) : Tr (Int) := (.ite ((decide ((IntKind.wrap .i64 (left - (A.length : Int))) < (0 : Int))) = true) (.ok (-1 : Int))
  (.ite ((laws_szSlotS_k5_1 A (IntKind.wrap .i64 (left - (A.length : Int))) (0 : Int)) = true) (.ite ((laws_szSlotS_o5_2 A (IntKind.wrap .i64 (left - (A.length : Int))) (0 : Int)) = true) (.ok (-1 : Int))
    .no)
   (.ite ((laws_szSlotS_o5_3 A (IntKind.wrap .i64 (left - (A.length : Int))) (0 : Int)) = true) (.ok (laws_szSlotS_u5_3 A (IntKind.wrap .i64 (left - (A.length : Int))) (0 : Int)))
    .no)))
def laws_szSlotS_mk (p : Int) : Res := [(false, [⟨.int .i64, .sh, TC.i p⟩])]
noncomputable def laws_szSlotS_c (A : List (List TC)) (left : Int) : Bool := is (((laws_szSlotS_o5_2 A (IntKind.wrap .i64 (left - (A.length : Int))) (0 : Int)) = true) ∧ ((laws_szSlotS_o5_3 A (IntKind.wrap .i64 (left - (A.length : Int))) (0 : Int)) = true))
noncomputable def laws_szSlotS_v (A : List (List TC)) (left : Int) : Int := (bif (decide ((IntKind.wrap .i64 (left - (A.length : Int))) < (0 : Int))) then (-1 : Int) else (bif (laws_szSlotS_k5_1 A (IntKind.wrap .i64 (left - (A.length : Int))) (0 : Int)) then (-1 : Int) else (laws_szSlotS_u5_3 A (IntKind.wrap .i64 (left - (A.length : Int))) (0 : Int))))
theorem laws_szSlotS_l (A : List (List TC)) (left : Int) : (laws_szSlotS_c A left) = true → (laws_szSlotS_t A left).val = some (laws_szSlotS_v A left) := by
  intro h
  obtain ⟨g0, g1⟩ := is_iff.1 h
  unfold laws_szSlotS_t laws_szSlotS_v
  exact (Tr.s rfl (Tr.s (Tr.t g0 rfl) (Tr.t g1 rfl)))
noncomputable def laws_szSlotS_S : List Arg → Option (Bool × Res) := fun xs => match xs with
  | [(false, [(.slice 125, TC.l A)]), (false, [(.int .i64, TC.i left)])] => some ((laws_szSlotS_c A left), laws_szSlotS_mk (laws_szSlotS_v A left))
  | _ => .none
theorem laws_szSlotS_e (A : List (List TC)) (left : Int) : runF tab FT D1 live 63 laws_szSlotS_lo [(false, [(.slice 125, TC.l A)]), (false, [(.int .i64, TC.i left)])] = (laws_szSlotS_t A left).run fun p => some (laws_szSlotS_mk p) := by kernel_rfl
theorem laws_szSlotS_s : ∀ xs r, laws_szSlotS_S xs = some (true, r) → runF tab FT D1 live 63 laws_szSlotS_lo xs = some r := by
  intro xs r h
  unfold laws_szSlotS_S at h
  split at h
  · simp only [Option.some.injEq, Prod.mk.injEq] at h
    obtain ⟨h1, rfl⟩ := h
    exact fun_told (laws_szSlotS_e _ _) (laws_szSlotS_l _ _) h1
  · cases h
noncomputable def D2 : Dt := also D1 63 laws_szSlotS_S
theorem d2 : DOk Go.Proofs.Try.prog tab D2 := d1.also mixed_ok tab_ok names_ok (fnLoops_one (by kernel_rfl) laws_szSlotS_is5) laws_szSlotS_s
/-! laws_szCache -/
noncomputable def laws_szCache_t (a0 : Int) (a1 : List (List TC)) (a2 : Int) (a3 : Int) (a4 : Int) (a5 : Int) : Tr (Int) := (.ite ((laws_szSlotS_c a1 a5) = true) (.ite ((decide ((laws_szSlotS_v a1 a5) < (0 : Int))) = true) (.ok (-1 : Int))
   (.ok (laws_szSlotS_v a1 a5)))
  .no)
def laws_szCache_mk (p : Int) : Res := [(false, [⟨.int .i64, .sh, TC.i p⟩])]
noncomputable def laws_szCache_c (a0 : Int) (a1 : List (List TC)) (a2 : Int) (a3 : Int) (a4 : Int) (a5 : Int) : Bool := (laws_szSlotS_c a1 a5)
noncomputable def laws_szCache_v (a0 : Int) (a1 : List (List TC)) (a2 : Int) (a3 : Int) (a4 : Int) (a5 : Int) : Int := (bif (decide ((laws_szSlotS_v a1 a5) < (0 : Int))) then (-1 : Int) else (laws_szSlotS_v a1 a5))
theorem laws_szCache_l (a0 : Int) (a1 : List (List TC)) (a2 : Int) (a3 : Int) (a4 : Int) (a5 : Int) : (laws_szCache_c a0 a1 a2 a3 a4 a5) = true → (laws_szCache_t a0 a1 a2 a3 a4 a5).val = some (laws_szCache_v a0 a1 a2 a3 a4 a5) := by
  intro h
  have g0 : (laws_szSlotS_c a1 a5) = true := h
  unfold laws_szCache_t laws_szCache_v
  exact (Tr.t g0 (Tr.s rfl rfl))
noncomputable def laws_szCache_S : List Arg → Option (Bool × Res) := fun xs => match xs with
  | [(true, [(.int .i64, TC.i a0), (.slice 125, TC.l a1), (.int .i64, TC.i a2), (.int .i64, TC.i a3), (.int .i64, TC.i a4)]), (false, [(.int .i64, TC.i a5)])] => some ((laws_szCache_c a0 a1 a2 a3 a4 a5), laws_szCache_mk (laws_szCache_v a0 a1 a2 a3 a4 a5))
  | _ => .none
theorem laws_szCache_e (a0 : Int) (a1 : List (List TC)) (a2 : Int) (a3 : Int) (a4 : Int) (a5 : Int) : runF tab FT D2 live 25 noLoops [(true, [(.int .i64, TC.i a0), (.slice 125, TC.l a1), (.int .i64, TC.i a2), (.int .i64, TC.i a3), (.int .i64, TC.i a4)]), (false, [(.int .i64, TC.i a5)])] = (laws_szCache_t a0 a1 a2 a3 a4 a5).run fun p => some (laws_szCache_mk p) := by kernel_rfl
theorem laws_szCache_s : ∀ xs r, laws_szCache_S xs = some (true, r) → runF tab FT D2 live 25 noLoops xs = some r := by
  intro xs r h
  unfold laws_szCache_S at h
  split at h
  · simp only [Option.some.injEq, Prod.mk.injEq] at h
    obtain ⟨h1, rfl⟩ := h
    exact fun_told (laws_szCache_e _ _ _ _ _ _) (laws_szCache_l _ _ _ _ _ _) h1
  · cases h
noncomputable def D3 : Dt := also D2 25 laws_szCache_S
theorem d3 : DOk Go.Proofs.Try.prog tab D3 := d2.also mixed_ok tab_ok names_ok noLoops_ok laws_szCache_s
/-! laws_toSlot -/
noncomputable def laws_toSlot_t (a0 : Int) (a1 : Int) (a2 : List UInt8) (a3 : Bool) : Tr (Int × Int × List UInt8 × Bool) := .ok (a0, a1, a2, a3)
def laws_toSlot_mk (p : Int × Int × List UInt8 × Bool) : Res := [(true, [⟨.int .i64, .sh, TC.i (p.1)⟩, ⟨.int .i64, .sh, TC.i (p.2.1)⟩, ⟨.str, .sh, TC.s (p.2.2.1)⟩, ⟨.bool, .sh, TC.b (p.2.2.2)⟩])]
noncomputable def laws_toSlot_c (a0 : Int) (a1 : Int) (a2 : List UInt8) (a3 : Bool) : Bool := true
noncomputable def laws_toSlot_v (a0 : Int) (a1 : Int) (a2 : List UInt8) (a3 : Bool) : Int × Int × List UInt8 × Bool := (a0, a1, a2, a3)
theorem laws_toSlot_l (a0 : Int) (a1 : Int) (a2 : List UInt8) (a3 : Bool) : (laws_toSlot_c a0 a1 a2 a3) = true → (laws_toSlot_t a0 a1 a2 a3).val = some (laws_toSlot_v a0 a1 a2 a3) := by
  intro h
  skip
  unfold laws_toSlot_t laws_toSlot_v
  exact rfl
noncomputable def laws_toSlot_S : List Arg → Option (Bool × Res) := fun xs => match xs with
  | [(true, [(.int .i64, TC.i a0), (.int .i64, TC.i a1), (.str, TC.s a2), (.bool, TC.b a3)])] => some (true, laws_toSlot_mk (laws_toSlot_v a0 a1 a2 a3))
  | _ => .none
theorem laws_toSlot_e (a0 : Int) (a1 : Int) (a2 : List UInt8) (a3 : Bool) : runF tab FT D3 live 107 noLoops [(true, [(.int .i64, TC.i a0), (.int .i64, TC.i a1), (.str, TC.s a2), (.bool, TC.b a3)])] = (laws_toSlot_t a0 a1 a2 a3).run fun p => some (laws_toSlot_mk p) := by kernel_rfl
theorem laws_toSlot_s : ∀ xs r, laws_toSlot_S xs = some (true, r) → runF tab FT D3 live 107 noLoops xs = some r := by
  intro xs r h
  unfold laws_toSlot_S at h
  split at h
  · simp only [Option.some.injEq, Prod.mk.injEq] at h
    obtain ⟨h1, rfl⟩ := h
    exact fun_told (laws_toSlot_e _ _ _ _) (laws_toSlot_l _ _ _ _) rfl
  · cases h
noncomputable def D4 : Dt := also D3 107 laws_toSlot_S
theorem d4 : DOk Go.Proofs.Try.prog tab D4 := d3.also mixed_ok tab_ok names_ok noLoops_ok laws_toSlot_s
/-! laws_toSlotS -/
def laws_toSlotS_g (x : List TC) : List TC := [TC.i ((nth x 0).int), TC.i ((nth x 1).int), TC.s ((nth x 2).str), TC.b ((nth x 3).bool)]
def laws_toSlotS_z : List TC := [TC.i (0 : Int), TC.i (0 : Int), TC.s [], TC.b false]
abbrev laws_toSlotS_3_σ := List (List TC) × List (List TC) × Int
abbrev laws_toSlotS_3_ω := (List (List TC))
noncomputable def laws_toSlotS_3_step (A : List (List TC)) (X : List (List TC)) (i : Int) : Tr (laws_toSlotS_3_σ ⊕ laws_toSlotS_3_ω) := (.ite ((decide (i < (A.length : Int))) = true) (.ite ((0 : Int) ≤ i ∧ i < (A.length : Int)) (.ite ((0 : Int) ≤ i ∧ i < (X.length : Int)) (.ok (.inl (A, (X.set (i).toNat (splice (row X i) 0 [TC.i ((nth (row A i) 0).int), TC.i ((nth (row A i) 1).int), TC.s ((nth (row A i) 2).str), TC.b ((nth (row A i) 3).bool)])), (IntKind.wrap .i64 (i + (1 : Int))))))
    .no)
   .no)
  (.ok (.inr X)))
noncomputable def laws_toSlotS_3_st : laws_toSlotS_3_σ → Tr (laws_toSlotS_3_σ ⊕ laws_toSlotS_3_ω) := fun x => (laws_toSlotS_3_step (x.1) (x.2.1) (x.2.2))
noncomputable def laws_toSlotS_o3_1 (A : List (List TC)) (X : List (List TC)) (i : Int) : Bool := is (Typed tab (.slice 125) (.l A) ∧ X = List.replicate A.length laws_toSlotS_z ∧ i = 0)
noncomputable def laws_toSlotS_u3_1 (A : List (List TC)) (X : List (List TC)) (i : Int) : List (List TC) := A.map laws_toSlotS_g
noncomputable def laws_toSlotS_3_fin (A : List (List TC)) (X : List (List TC)) (i : Int) : Told laws_toSlotS_3_ω := (.leaf (laws_toSlotS_o3_1 A X i) (laws_toSlotS_u3_1 A X i))
def laws_toSlotS_3_sl (x : laws_toSlotS_3_σ) : List Slot := [⟨.val false [⟨.slice 125, .sh, TC.l (x.1)⟩], ⟨0, 0⟩⟩, ⟨.val false [⟨.slice 87, .own true, TC.l (x.2.1)⟩], ⟨0, 0⟩⟩, ⟨.val false [⟨.int .i64, .sh, TC.i (x.2.2)⟩], ⟨0, 0⟩⟩]
def laws_toSlotS_3_out : laws_toSlotS_3_ω → Ex × List Slot := (fun x => (.exit 0, [Slot.none, ⟨.val false [⟨.slice 87, .own true, TC.l x⟩], ⟨0, 0⟩⟩]))
noncomputable def laws_toSlotS_lo3 : List Slot → Option (Told (Ex × List Slot)) := fun s => match s with
  | [⟨.val false [⟨.slice 125, .sh, TC.l A⟩], ⟨0, 0⟩⟩, ⟨.val false [⟨.slice 87, .own true, TC.l X⟩], ⟨0, 0⟩⟩, ⟨.val false [⟨.int .i64, .sh, TC.i i⟩], ⟨0, 0⟩⟩] => some (((laws_toSlotS_3_fin A X i)).map laws_toSlotS_3_out)
  | _ => .none
noncomputable def laws_toSlotS_lo : LoopTeller := fun r s => bif Nat.beq r 3 then laws_toSlotS_lo3 s else .none
theorem laws_toSlotS_3_r (A : List (List TC)) (X : List (List TC)) (i : Int) (fuel : Nat) : rounds (rnd tab FT D4 live 64 laws_toSlotS_lo 0 3) leave (fuel + 1) (laws_toSlotS_3_sl (A, X, i)) = ((laws_toSlotS_3_step A X i)).run (goOn (fun s => rounds (rnd tab FT D4 live 64 laws_toSlotS_lo 0 3) leave fuel (laws_toSlotS_3_sl s)) fun w => some (laws_toSlotS_3_out w)) := by kernel_rfl
theorem laws_toSlotS_3_h (A : List (List TC)) (X : List (List TC)) (i : Int) (ow : laws_toSlotS_3_ω) : ((laws_toSlotS_3_fin A X i)).val = some ow → ∃ fuel, loopN laws_toSlotS_3_st fuel (A, X, i) = some ow := by
  intro h
  simp only [laws_toSlotS_3_fin, Told.val] at h
  split at h
  · rename_i ho
    obtain ⟨ht, rfl, rfl⟩ := is_iff.1 ho
    cases h
    have hlen : A.length ≤ 140737488351232 := by have := typed_room ht; simp only [show (tab 125).bytes = 40 from rfl] at this; omega
    have key := loopN_copy (step := laws_toSlotS_3_st) A (List.replicate A.length laws_toSlotS_z) laws_toSlotS_g (fun Y i => (A, Y, (i : Int))) (A.map laws_toSlotS_g) (by simp) (fun x hx i _ => by rw [(List.mem_replicate.1 hx).2]; exact Nat.le_refl 4) (fun Y i hi hl => ?_) ?_ A.length 0 (by omega)
    · rw [copied_zero] at key
      exact ⟨_, key⟩
    · have c2 : Typed tab (.str) (.s (nth (A.getD i []) 2).str) := typed_s (typed_cell ht (A.getD i []) (mem_getD hi) 2 (by decide))
      show (laws_toSlotS_3_step A Y (i : Int)).val = _
      unfold laws_toSlotS_3_step
      refine Tr.t (by simp; omega) ?_
      refine Tr.t (by constructor <;> omega) ?_
      refine Tr.t (by constructor <;> omega) ?_
      repeat (refine Tr.t (by first | (apply is_true; and_intros <;> (first | rfl | assumption | (first | (apply is_true; and_intros <;> (first | rfl | assumption | (first | (apply is_true; and_intros <;> (first | rfl | assumption | (first | (apply is_true; and_intros <;> (first | rfl | assumption)))))))))))) ?_)
      rw [Tr.val_ok, wrap64 (i := (i : Int) + 1) (by omega) (by omega)]; rfl
    · show (laws_toSlotS_3_step A (A.map laws_toSlotS_g) (A.length : Int)).val = _
      refine Tr.n (by simp) ?_
      rfl
  · cases h
theorem laws_toSlotS_is3 : LoopIs tab FT D4 live 64 laws_toSlotS_lo 0 3 := by
  refine loop_told (sl := laws_toSlotS_3_sl) (step := laws_toSlotS_3_st) (out := laws_toSlotS_3_out) (lor := laws_toSlotS_lo3) (fin := fun x => (laws_toSlotS_3_fin (x.1) (x.2.1) (x.2.2))) (fun _ => rfl) ?_ (fun x n => laws_toSlotS_3_r x.1 x.2.1 x.2.2 n) (fun x ow => laws_toSlotS_3_h x.1 x.2.1 x.2.2 ow)
  intro s t h
  unfold laws_toSlotS_lo3 at h
  split at h
  · cases h; exact ⟨(_, _, _), rfl, rfl⟩
  · cases h
noncomputable def laws_toSlotS_t (A : List (List TC)) : Tr (List (List TC)) := (.ite (0 ≤ (A.length : Int) ∧ (A.length : Int) ≤ (A.length : Int) ∧ (A.length : Int) * 40 ≤ 140737488355328 ∧ (A.length : Int) ≤ 140737488355328) (.ite ((laws_toSlotS_o3_1 A (List.replicate ((A.length : Int)).toNat [TC.i (0 : Int), TC.i (0 : Int), TC.s [], TC.b false]) (0 : Int)) = true) (.ok (laws_toSlotS_u3_1 A (List.replicate ((A.length : Int)).toNat [TC.i (0 : Int), TC.i (0 : Int), TC.s [], TC.b false]) (0 : Int)))
   .no)
  .no)
def laws_toSlotS_mk (p : List (List TC)) : Res := [(false, [⟨.slice 87, .own true, TC.l p⟩])]
noncomputable def laws_toSlotS_c (A : List (List TC)) : Bool := is (Typed tab (.slice 125) (.l A))
noncomputable def laws_toSlotS_v (A : List (List TC)) : List (List TC) := A.map laws_toSlotS_g
theorem laws_toSlotS_l (A : List (List TC)) : (laws_toSlotS_c A) = true → (laws_toSlotS_t A).val = some (laws_toSlotS_v A) := by
  intro h
  have ht := is_iff.1 h
  have hb := typed_room ht
  simp only [show (tab 125).bytes = 40 from rfl] at hb
  unfold laws_toSlotS_t
  refine Tr.t (by omega) ?_
  refine Tr.t (is_true ⟨ht, by rfl, rfl⟩) ?_
  rfl
noncomputable def laws_toSlotS_S : List Arg → Option (Bool × Res) := fun xs => match xs with
  | [(false, [(.slice 125, TC.l A)])] => some ((laws_toSlotS_c A), laws_toSlotS_mk (laws_toSlotS_v A))
  | _ => .none
theorem laws_toSlotS_e (A : List (List TC)) : runF tab FT D4 live 64 laws_toSlotS_lo [(false, [(.slice 125, TC.l A)])] = (laws_toSlotS_t A).run fun p => some (laws_toSlotS_mk p) := by kernel_rfl
theorem laws_toSlotS_s : ∀ xs r, laws_toSlotS_S xs = some (true, r) → runF tab FT D4 live 64 laws_toSlotS_lo xs = some r := by
  intro xs r h
  unfold laws_toSlotS_S at h
  split at h
  · simp only [Option.some.injEq, Prod.mk.injEq] at h
    obtain ⟨h1, rfl⟩ := h
    exact fun_told (laws_toSlotS_e _) (laws_toSlotS_l _) h1
  · cases h
noncomputable def D5 : Dt := also D4 64 laws_toSlotS_S
theorem d5 : DOk Go.Proofs.Try.prog tab D5 := d4.also mixed_ok tab_ok names_ok (fnLoops_one (by kernel_rfl) laws_toSlotS_is3) laws_toSlotS_s
theorem laws_toSlotS_ty {A : List (List TC)} (h : Typed tab (.slice 125) (.l A)) : Typed tab (.slice 87) (.l (A.map laws_toSlotS_g)) := by
  refine typed_map h (by decide) fun x _ _ hx => ⟨rfl, fun k hk => ?_⟩
  match k, hk with
    | 0, _ => exact typed_i (hx 0 (by decide))
    | 1, _ => exact typed_i (hx 1 (by decide))
    | 2, _ => exact typed_s (hx 2 (by decide))
    | 3, _ => exact typed_b (hx 3 (by decide))
/-! laws_toCache -/
noncomputable def laws_toCache_t (x0 : Int) (x1 : List (List TC)) (x2 : Int) (x3 : Int) (x4 : Int) : Tr (Int × List (List TC) × Int × Int × Int) := (.ite ((laws_toSlotS_c x1) = true) (.ok (x0, (laws_toSlotS_v x1), x2, x3, x4))
  .no)
def laws_toCache_mk (p : Int × List (List TC) × Int × Int × Int) : Res := [(true, [⟨.int .i64, .sh, TC.i (p.1)⟩, ⟨.slice 87, .own true, TC.l (p.2.1)⟩, ⟨.int .i64, .sh, TC.i (p.2.2.1)⟩, ⟨.int .i64, .sh, TC.i (p.2.2.2.1)⟩, ⟨.int .i64, .sh, TC.i (p.2.2.2.2)⟩])]
noncomputable def laws_toCache_c (x0 : Int) (x1 : List (List TC)) (x2 : Int) (x3 : Int) (x4 : Int) : Bool := is (Typed tab (.slice 125) (.l x1))
noncomputable def laws_toCache_v (x0 : Int) (x1 : List (List TC)) (x2 : Int) (x3 : Int) (x4 : Int) : Int × List (List TC) × Int × Int × Int := (x0, (laws_toSlotS_v x1), x2, x3, x4)
theorem laws_toCache_l (x0 : Int) (x1 : List (List TC)) (x2 : Int) (x3 : Int) (x4 : Int) : (laws_toCache_c x0 x1 x2 x3 x4) = true → (laws_toCache_t x0 x1 x2 x3 x4).val = some (laws_toCache_v x0 x1 x2 x3 x4) := by
  intro h
  have t0 := is_iff.1 h
  unfold laws_toCache_t
  repeat (refine Tr.t (by first | (apply is_true; and_intros <;> (first | rfl | assumption | (first | (apply is_true; and_intros <;> (first | rfl | assumption | (first | (apply is_true; and_intros <;> (first | rfl | assumption | (first | (apply is_true; and_intros <;> (first | rfl | assumption)))))))))))) ?_)
  rfl
noncomputable def laws_toCache_S : List Arg → Option (Bool × Res) := fun xs => match xs with
  | [(true, [(.int .i64, TC.i x0), (.slice 125, TC.l x1), (.int .i64, TC.i x2), (.int .i64, TC.i x3), (.int .i64, TC.i x4)])] => some ((laws_toCache_c x0 x1 x2 x3 x4), laws_toCache_mk (laws_toCache_v x0 x1 x2 x3 x4))
  | _ => .none
theorem laws_toCache_e (x0 : Int) (x1 : List (List TC)) (x2 : Int) (x3 : Int) (x4 : Int) : runF tab FT D5 live 27 noLoops [(true, [(.int .i64, TC.i x0), (.slice 125, TC.l x1), (.int .i64, TC.i x2), (.int .i64, TC.i x3), (.int .i64, TC.i x4)])] = (laws_toCache_t x0 x1 x2 x3 x4).run fun p => some (laws_toCache_mk p) := by kernel_rfl
theorem laws_toCache_s : ∀ xs r, laws_toCache_S xs = some (true, r) → runF tab FT D5 live 27 noLoops xs = some r := by
  intro xs r h
  unfold laws_toCache_S at h
  split at h
  · simp only [Option.some.injEq, Prod.mk.injEq] at h
    obtain ⟨h1, rfl⟩ := h
    exact fun_told (laws_toCache_e _ _ _ _ _) (laws_toCache_l _ _ _ _ _) h1
  · cases h
noncomputable def D6 : Dt := also D5 27 laws_toCache_S
theorem d6 : DOk Go.Proofs.Try.prog tab D6 := d5.also mixed_ok tab_ok names_ok noLoops_ok laws_toCache_s
/-! spec_l00In -/
noncomputable def spec_l00In_t (a0 : Int) (a1 : Int) (a2 : Int) : Tr (Bool) := (.ite ((decide (a0 ≥ a1)) = true) (.ok (decide (a0 ≤ a2)))
  (.ok false))
def spec_l00In_mk (p : Bool) : Res := [(false, [⟨.bool, .sh, TC.b p⟩])]
noncomputable def spec_l00In_c (a0 : Int) (a1 : Int) (a2 : Int) : Bool := true
noncomputable def spec_l00In_v (a0 : Int) (a1 : Int) (a2 : Int) : Bool := (bif (decide (a0 ≥ a1)) then (decide (a0 ≤ a2)) else false)
theorem spec_l00In_l (a0 : Int) (a1 : Int) (a2 : Int) : (spec_l00In_c a0 a1 a2) = true → (spec_l00In_t a0 a1 a2).val = some (spec_l00In_v a0 a1 a2) := by
  intro h
  skip
  unfold spec_l00In_t spec_l00In_v
  exact (Tr.s rfl rfl)
noncomputable def spec_l00In_S : List Arg → Option (Bool × Res) := fun xs => match xs with
  | [(false, [(.int .i64, TC.i a0)]), (false, [(.int .i64, TC.i a1)]), (false, [(.int .i64, TC.i a2)])] => some (true, spec_l00In_mk (spec_l00In_v a0 a1 a2))
  | _ => .none
theorem spec_l00In_e (a0 : Int) (a1 : Int) (a2 : Int) : runF tab FT D6 live 53 noLoops [(false, [(.int .i64, TC.i a0)]), (false, [(.int .i64, TC.i a1)]), (false, [(.int .i64, TC.i a2)])] = (spec_l00In_t a0 a1 a2).run fun p => some (spec_l00In_mk p) := by kernel_rfl
theorem spec_l00In_s : ∀ xs r, spec_l00In_S xs = some (true, r) → runF tab FT D6 live 53 noLoops xs = some r := by
  intro xs r h
  unfold spec_l00In_S at h
  split at h
  · simp only [Option.some.injEq, Prod.mk.injEq] at h
    obtain ⟨h1, rfl⟩ := h
    exact fun_told (spec_l00In_e _ _ _) (spec_l00In_l _ _ _) rfl
  · cases h
noncomputable def D7 : Dt := also D6 53 spec_l00In_S
theorem d7 : DOk Go.Proofs.Try.prog tab D7 := d6.also mixed_ok tab_ok names_ok noLoops_ok spec_l00In_s
def letterB (c : Int) : Bool := (decide (c ≥ 65) && decide (c ≤ 90)) || (decide (c ≥ 97) && decide (c ≤ 122))
def nameB (i : Int) (c : Int) : Bool := letterB c || (!(i == 0) && ((decide (c ≥ 48) && decide (c ≤ 57)) || c == 95))
def nameOk (s : List UInt8) : Bool := decide ((s.length : Int) ≥ 1) && decide ((s.length : Int) ≤ 12) && allI (fun i : Nat => nameB (i : Int) ((s.getD ((i : Int)).toNat 0).toNat : Int)) s.length
theorem dlt {a b : Int} : decide (a < b) = !decide (a ≥ b) := by rw [← decide_not]; simp
theorem dgt {a b : Int} : decide (a > b) = !decide (a ≤ b) := by rw [← decide_not]; simp
def inB (n lo hi : Int) : Bool := bif decide (n ≥ lo) then decide (n ≤ hi) else false
def dupB (A : List (List TC)) (ka kk : Int) (k : Int) : Bool := !(((nth (row A k) 0).int == ka) && ((nth (row A k) 1).int == kk))
def noDup (A : List (List TC)) (i : Int) : Bool := allI (fun k : Nat => dupB A (nth (row A i) 0).int (nth (row A i) 1).int (k : Int)) i.toNat
def slotOkR (x : List TC) : Bool := inB (nth x 0).int 1 255 && inB (nth x 1).int 0 4095 && inB ((nth x 2).str.length : Int) 1 512
def vslot (A : List (List TC)) (i : Int) : Bool := slotOkR (row A i) && noDup A i
def cacheOk (s : Int) (A : List (List TC)) (h m w : Int) : Bool := inB s 1 16 && decide ((A.length : Int) ≤ s) && (inB h 0 1000000 && inB m 0 1000000 && inB w 0 1000000) && allI (fun i : Nat => vslot A (i : Int)) A.length
/-! spec_l22Ok -/
noncomputable def spec_l22Ok_f10 (p : List TC) (ix : Int) (ka : Int) (kk : Int) (data : List UInt8) (dirty : Bool) (k : Int) : (Unit) ⊕ ((List TC × Int) ⊕ (List TC × Int)) := (bif ((nth (row ((nth p 1).list) k) 0).int == ka) then (bif ((nth (row ((nth p 1).list) k) 1).int == kk) then (.inr (.inl (p, ix))) else (.inl ())) else (.inl ()))
noncomputable def spec_l22Ok_e10 (p : List TC) (ix : Int) (ka : Int) (kk : Int) (data : List UInt8) (dirty : Bool) : (List TC × Int) ⊕ (List TC × Int) := .inr (p, ix)
noncomputable def spec_l22Ok_R10 (p : List TC) (ix : Int) (ka : Int) (kk : Int) (data : List UInt8) (dirty : Bool) (k : Int) : (List TC × Int) ⊕ (List TC × Int) := iter (fun i a => (spec_l22Ok_f10 p ix ka kk data dirty (i : Int))) (fun a => (spec_l22Ok_e10 p ix ka kk data dirty)) (ix.toNat) 0 ()
abbrev spec_l22Ok_10_σ := List TC × Int × Int × Int × List UInt8 × Bool × Int
abbrev spec_l22Ok_10_ω := (List TC × Int) ⊕ (List TC × Int)
noncomputable def spec_l22Ok_10_step (p : List TC) (ix : Int) (ka : Int) (kk : Int) (data : List UInt8) (dirty : Bool) (k : Int) : Tr (spec_l22Ok_10_σ ⊕ spec_l22Ok_10_ω) := (.ite ((decide (k < ix)) = true) (.ite ((0 : Int) ≤ k ∧ k < (((nth p 1).list).length : Int)) (.ite (((nth (row ((nth p 1).list) k) 0).int == ka) = true) (.ite ((0 : Int) ≤ k ∧ k < (((nth p 1).list).length : Int)) (.ite (((nth (row ((nth p 1).list) k) 1).int == kk) = true) (.ok (.inr (.inl (p, ix))))
      (.ok (.inl (p, ix, ka, kk, data, dirty, (IntKind.wrap .i64 (k + (1 : Int)))))))
     .no)
    (.ok (.inl (p, ix, ka, kk, data, dirty, (IntKind.wrap .i64 (k + (1 : Int)))))))
   .no)
  (.ok (.inr (.inr (p, ix)))))
noncomputable def spec_l22Ok_10_st : spec_l22Ok_10_σ → Tr (spec_l22Ok_10_σ ⊕ spec_l22Ok_10_ω) := fun x => (spec_l22Ok_10_step (x.1) (x.2.1) (x.2.2.1) (x.2.2.2.1) (x.2.2.2.2.1) (x.2.2.2.2.2.1) (x.2.2.2.2.2.2))
noncomputable def spec_l22Ok_k10_1 (p : List TC) (ix : Int) (ka : Int) (kk : Int) (data : List UInt8) (dirty : Bool) (k : Int) : Bool := sumIs (spec_l22Ok_R10 p ix ka kk data dirty k)
noncomputable def spec_l22Ok_o10_2 (p : List TC) (ix : Int) (ka : Int) (kk : Int) (data : List UInt8) (dirty : Bool) (k : Int) : Bool := is (k = 0 ∧ 0 ≤ ix ∧ ix ≤ ((nth p 1).list.length : Int) ∧ (nth p 1).list.length ≤ 140737488355328)
noncomputable def spec_l22Ok_o10_3 (p : List TC) (ix : Int) (ka : Int) (kk : Int) (data : List UInt8) (dirty : Bool) (k : Int) : Bool := is (k = 0 ∧ 0 ≤ ix ∧ ix ≤ ((nth p 1).list.length : Int) ∧ (nth p 1).list.length ≤ 140737488355328)
noncomputable def spec_l22Ok_10_fin (p : List TC) (ix : Int) (ka : Int) (kk : Int) (data : List UInt8) (dirty : Bool) (k : Int) : Told spec_l22Ok_10_ω := (.br (spec_l22Ok_k10_1 p ix ka kk data dirty k) (.leaf (spec_l22Ok_o10_2 p ix ka kk data dirty k) (.inl (p, ix))) (.leaf (spec_l22Ok_o10_3 p ix ka kk data dirty k) (.inr (p, ix))))
def spec_l22Ok_10_sl (x : spec_l22Ok_10_σ) : List Slot := [⟨.val false [⟨.ptr 24, .sh, TC.p (x.1)⟩], ⟨0, 0⟩⟩, ⟨.val false [⟨.int .i64, .sh, TC.i (x.2.1)⟩], ⟨0, 0⟩⟩, ⟨.bx 87 [⟨.int .i64, .sh, TC.i (x.2.2.1)⟩, ⟨.int .i64, .sh, TC.i (x.2.2.2.1)⟩, ⟨.str, .sh, TC.s (x.2.2.2.2.1)⟩, ⟨.bool, .sh, TC.b (x.2.2.2.2.2.1)⟩], ⟨0, 0⟩⟩, ⟨.val false [⟨.int .i64, .sh, TC.i (x.2.2.2.2.2.2)⟩], ⟨0, 0⟩⟩]
def spec_l22Ok_10_out : spec_l22Ok_10_ω → Ex × List Slot := (Sum.elim (fun x => (.ret, [⟨.val false [⟨.ptr 24, .sh, TC.p (x.1)⟩], ⟨0, 0⟩⟩, ⟨.val false [⟨.bool, .sh, TC.b false⟩], ⟨0, 0⟩⟩, ⟨.val false [⟨.int .i64, .sh, TC.i (x.2)⟩], ⟨0, 0⟩⟩])) (fun x => (.exit 2, [⟨.val false [⟨.ptr 24, .sh, TC.p (x.1)⟩], ⟨0, 0⟩⟩, Slot.none, ⟨.val false [⟨.int .i64, .sh, TC.i (x.2)⟩], ⟨0, 0⟩⟩])))
noncomputable def spec_l22Ok_lo10 : List Slot → Option (Told (Ex × List Slot)) := fun s => match s with
  | [⟨.val false [⟨.ptr 24, .sh, TC.p p⟩], ⟨0, 0⟩⟩, ⟨.val false [⟨.int .i64, .sh, TC.i ix⟩], ⟨0, 0⟩⟩, ⟨.bx 87 [⟨.int .i64, .sh, TC.i ka⟩, ⟨.int .i64, .sh, TC.i kk⟩, ⟨.str, .sh, TC.s data⟩, ⟨.bool, .sh, TC.b dirty⟩], ⟨0, 0⟩⟩, ⟨.val false [⟨.int .i64, .sh, TC.i k⟩], ⟨0, 0⟩⟩] => some (((spec_l22Ok_10_fin p ix ka kk data dirty k)).map spec_l22Ok_10_out)
  | _ => .none
noncomputable def spec_l22Ok_f4 (p : List TC) (i : Int) : (Unit) ⊕ ((Unit) ⊕ (Unit)) := (bif (!(spec_l00In_v ((nth (row ((nth p 1).list) i) 0).int) (1 : Int) (255 : Int))) then (.inr (.inl ())) else (bif (!(spec_l00In_v ((nth (row ((nth p 1).list) i) 1).int) (0 : Int) (4095 : Int))) then (.inr (.inl ())) else (bif (!(spec_l00In_v (((nth (row ((nth p 1).list) i) 2).str).length : Int) (1 : Int) (512 : Int))) then (.inr (.inl ())) else (bif (spec_l22Ok_k10_1 p i ((nth (row ((nth p 1).list) i) 0).int) ((nth (row ((nth p 1).list) i) 1).int) ((nth (row ((nth p 1).list) i) 2).str) ((nth (row ((nth p 1).list) i) 3).bool) (0 : Int)) then (.inr (.inl ())) else (.inl ())))))
noncomputable def spec_l22Ok_e4 (p : List TC) : (Unit) ⊕ (Unit) := .inr ()
noncomputable def spec_l22Ok_R4 (p : List TC) (i : Int) : (Unit) ⊕ (Unit) := iter (fun i a => (spec_l22Ok_f4 p (i : Int))) (fun a => (spec_l22Ok_e4 p)) ((nth p 1).list.length) 0 ()
abbrev spec_l22Ok_4_σ := List TC × Int
abbrev spec_l22Ok_4_ω := (Unit) ⊕ (Unit)
noncomputable def spec_l22Ok_4_step (p : List TC) (i : Int) : Tr (spec_l22Ok_4_σ ⊕ spec_l22Ok_4_ω) := (.ite ((decide (i < (((nth p 1).list).length : Int))) = true) (.ite ((0 : Int) ≤ i ∧ i < (((nth p 1).list).length : Int)) (.ite ((!(spec_l00In_v ((nth (row ((nth p 1).list) i) 0).int) (1 : Int) (255 : Int))) = true) (.ok (.inr (.inl ())))
    (.ite ((!(spec_l00In_v ((nth (row ((nth p 1).list) i) 1).int) (0 : Int) (4095 : Int))) = true) (.ok (.inr (.inl ())))
     (.ite ((!(spec_l00In_v (((nth (row ((nth p 1).list) i) 2).str).length : Int) (1 : Int) (512 : Int))) = true) (.ok (.inr (.inl ())))
      (.ite ((spec_l22Ok_k10_1 p i ((nth (row ((nth p 1).list) i) 0).int) ((nth (row ((nth p 1).list) i) 1).int) ((nth (row ((nth p 1).list) i) 2).str) ((nth (row ((nth p 1).list) i) 3).bool) (0 : Int)) = true) (.ite ((spec_l22Ok_o10_2 p i ((nth (row ((nth p 1).list) i) 0).int) ((nth (row ((nth p 1).list) i) 1).int) ((nth (row ((nth p 1).list) i) 2).str) ((nth (row ((nth p 1).list) i) 3).bool) (0 : Int)) = true) (.ok (.inr (.inl ())))
        .no)
       (.ite ((spec_l22Ok_o10_3 p i ((nth (row ((nth p 1).list) i) 0).int) ((nth (row ((nth p 1).list) i) 1).int) ((nth (row ((nth p 1).list) i) 2).str) ((nth (row ((nth p 1).list) i) 3).bool) (0 : Int)) = true) (.ok (.inl (p, (IntKind.wrap .i64 (i + (1 : Int))))))
        .no)))))
   .no)
  (.ok (.inr (.inr ()))))
noncomputable def spec_l22Ok_4_st : spec_l22Ok_4_σ → Tr (spec_l22Ok_4_σ ⊕ spec_l22Ok_4_ω) := fun x => (spec_l22Ok_4_step (x.1) (x.2))
noncomputable def spec_l22Ok_k4_1 (p : List TC) (i : Int) : Bool := sumIs (spec_l22Ok_R4 p i)
noncomputable def spec_l22Ok_o4_2 (p : List TC) (i : Int) : Bool := is (i = 0 ∧ Typed tab (.slice 87) (.l (nth p 1).list))
noncomputable def spec_l22Ok_o4_3 (p : List TC) (i : Int) : Bool := is (i = 0 ∧ Typed tab (.slice 87) (.l (nth p 1).list))
noncomputable def spec_l22Ok_4_fin (p : List TC) (i : Int) : Told spec_l22Ok_4_ω := (.br (spec_l22Ok_k4_1 p i) (.leaf (spec_l22Ok_o4_2 p i) (.inl ())) (.leaf (spec_l22Ok_o4_3 p i) (.inr ())))
def spec_l22Ok_4_sl (x : spec_l22Ok_4_σ) : List Slot := [⟨.val false [⟨.ptr 24, .sh, TC.p (x.1)⟩], ⟨0, 0⟩⟩, ⟨.val false [⟨.int .i64, .sh, TC.i (x.2)⟩], ⟨0, 0⟩⟩]
def spec_l22Ok_4_out : spec_l22Ok_4_ω → Ex × List Slot := (Sum.elim (fun x => (.ret, [⟨.val false [⟨.bool, .sh, TC.b false⟩], ⟨0, 0⟩⟩])) (fun x => (.exit 0, [Slot.none])))
noncomputable def spec_l22Ok_lo4 : List Slot → Option (Told (Ex × List Slot)) := fun s => match s with
  | [⟨.val false [⟨.ptr 24, .sh, TC.p p⟩], ⟨0, 0⟩⟩, ⟨.val false [⟨.int .i64, .sh, TC.i i⟩], ⟨0, 0⟩⟩] => some (((spec_l22Ok_4_fin p i)).map spec_l22Ok_4_out)
  | _ => .none
noncomputable def spec_l22Ok_lo : LoopTeller := fun r s => bif Nat.beq r 4 then spec_l22Ok_lo4 s else bif Nat.beq r 10 then spec_l22Ok_lo10 s else .none
theorem spec_l22Ok_10_r (p : List TC) (ix : Int) (ka : Int) (kk : Int) (data : List UInt8) (dirty : Bool) (k : Int) (fuel : Nat) : rounds (rnd tab FT D7 live 78 spec_l22Ok_lo 1 10) leave (fuel + 1) (spec_l22Ok_10_sl (p, ix, ka, kk, data, dirty, k)) = ((spec_l22Ok_10_step p ix ka kk data dirty k)).run (goOn (fun s => rounds (rnd tab FT D7 live 78 spec_l22Ok_lo 1 10) leave fuel (spec_l22Ok_10_sl s)) fun w => some (spec_l22Ok_10_out w)) := by kernel_rfl
theorem spec_l22Ok_f10_eq (p : List TC) (ix ka kk : Int) (data : List UInt8) (dirty : Bool) (i : Int) : spec_l22Ok_f10 p ix ka kk data dirty i = bif dupB (nth p 1).list ka kk i then Sum.inl () else Sum.inr (Sum.inl (p, ix)) := by
  unfold spec_l22Ok_f10 dupB
  skip
  generalize ((nth (row (nth p 1).list i) 0).int == ka) = p0, ((nth (row (nth p 1).list i) 1).int == kk) = p1
  cases p0 <;> cases p1 <;> rfl
theorem spec_l22Ok_R10_eq (p : List TC) (ix ka kk : Int) (data : List UInt8) (dirty : Bool)  : spec_l22Ok_R10 p ix ka kk data dirty 0 = bif allI (fun i : Nat => dupB (nth p 1).list ka kk (i : Int)) (ix.toNat) then Sum.inr (p, ix) else (Sum.inl (p, ix)) := by
  unfold spec_l22Ok_R10
  exact (iter_all (P := (fun i : Nat => dupB (nth p 1).list ka kk (i : Int))) (g := fun _ a => a) (w := Sum.inl (p, ix)) fun j a _ => spec_l22Ok_f10_eq p ix ka kk data dirty _)
theorem spec_l22Ok_10_h (p : List TC) (ix : Int) (ka : Int) (kk : Int) (data : List UInt8) (dirty : Bool) (k : Int) (ow : spec_l22Ok_10_ω) : ((spec_l22Ok_10_fin p ix ka kk data dirty k)).val = some ow → ∃ fuel, loopN spec_l22Ok_10_st fuel (p, ix, ka, kk, data, dirty, k) = some ow := by
  refine auto_const (R := (spec_l22Ok_R10 p ix ka kk data dirty k)) rfl (iter_onR (f := (fun i a => (spec_l22Ok_f10 p ix ka kk data dirty (i : Int)))) (fin := (fun a => (spec_l22Ok_e10 p ix ka kk data dirty))) (Q := endsAs (p, ix) (p, ix)) (fun i a => by unfold spec_l22Ok_f10; exact (onR_bif (onR_bif rfl trivial) trivial)) (fun _ => rfl) _ _ _) ?_
  intro ho
  have ho : is (k = 0 ∧ 0 ≤ ix ∧ ix ≤ ((nth p 1).list.length : Int) ∧ (nth p 1).list.length ≤ 140737488355328) = true := ho.elim id id
  obtain ⟨rfl, h0, h1, h2⟩ := is_iff.1 ho
  skip
  refine ⟨(ix.toNat) + 1, ?_⟩
  refine iter_loop (step := spec_l22Ok_10_st) (ix.toNat) (fun i a => (spec_l22Ok_f10 p ix ka kk data dirty (i : Int))) (fun a => (spec_l22Ok_e10 p ix ka kk data dirty)) (fun i a => (p, ix, ka, kk, data, dirty, (i : Int))) (fun _ _ => True) trivial (fun i a hi hI => ⟨?_, fun _ _ => trivial⟩) (fun a hI => ?_)
  · show (spec_l22Ok_10_step p ix ka kk data dirty (i : Int)).val = _
    unfold spec_l22Ok_10_step spec_l22Ok_f10
    skip
    refine Tr.t (by simp; omega) ?_
    exact (Tr.t (by first | omega | (constructor <;> omega)) (Tr.bf (Tr.t (by first | omega | (constructor <;> omega)) (Tr.bf rfl (by rw [Tr.val_ok, wrap64 (i := (i : Int) + 1) (by omega) (by omega)]; rfl))) (by rw [Tr.val_ok, wrap64 (i := (i : Int) + 1) (by omega) (by omega)]; rfl)))
  · show (spec_l22Ok_10_step p ix ka kk data dirty (ix.toNat : Int)).val = _
    refine Tr.n (by first | (simp; done) | (simp; omega) | omega) ?_
    rfl
theorem spec_l22Ok_is10 : LoopIs tab FT D7 live 78 spec_l22Ok_lo 1 10 := by
  refine loop_told (sl := spec_l22Ok_10_sl) (step := spec_l22Ok_10_st) (out := spec_l22Ok_10_out) (lor := spec_l22Ok_lo10) (fin := fun x => (spec_l22Ok_10_fin (x.1) (x.2.1) (x.2.2.1) (x.2.2.2.1) (x.2.2.2.2.1) (x.2.2.2.2.2.1) (x.2.2.2.2.2.2))) (fun _ => rfl) ?_ (fun x n => spec_l22Ok_10_r x.1 x.2.1 x.2.2.1 x.2.2.2.1 x.2.2.2.2.1 x.2.2.2.2.2.1 x.2.2.2.2.2.2 n) (fun x ow => spec_l22Ok_10_h x.1 x.2.1 x.2.2.1 x.2.2.2.1 x.2.2.2.2.1 x.2.2.2.2.2.1 x.2.2.2.2.2.2 ow)
  intro s t h
  unfold spec_l22Ok_lo10 at h
  split at h
  · cases h; exact ⟨(_, _, _, _, _, _, _), rfl, rfl⟩
  · cases h
theorem spec_l22Ok_4_r (p : List TC) (i : Int) (fuel : Nat) : rounds (rnd tab FT D7 live 78 spec_l22Ok_lo 0 4) leave (fuel + 1) (spec_l22Ok_4_sl (p, i)) = ((spec_l22Ok_4_step p i)).run (goOn (fun s => rounds (rnd tab FT D7 live 78 spec_l22Ok_lo 0 4) leave fuel (spec_l22Ok_4_sl s)) fun w => some (spec_l22Ok_4_out w)) := by kernel_rfl
theorem spec_l22Ok_f4_eq (p : List TC) (i : Int) : spec_l22Ok_f4 p i = bif vslot (nth p 1).list i then Sum.inl () else Sum.inr (Sum.inl ()) := by
  unfold spec_l22Ok_f4 vslot slotOkR
  rw [show spec_l22Ok_k10_1 p i ((nth (row (nth p 1).list i) 0).int) ((nth (row (nth p 1).list i) 1).int) ((nth (row (nth p 1).list i) 2).str) ((nth (row (nth p 1).list i) 3).bool) 0 = !(noDup (nth p 1).list i) from by unfold spec_l22Ok_k10_1 noDup; rw [spec_l22Ok_R10_eq]; generalize allI _ _ = q; cases q <;> rfl]
  rw [show spec_l00In_v (nth (row (nth p 1).list i) 0).int 1 255 = inB (nth (row (nth p 1).list i) 0).int 1 255 from rfl, show spec_l00In_v (nth (row (nth p 1).list i) 1).int 0 4095 = inB (nth (row (nth p 1).list i) 1).int 0 4095 from rfl, show spec_l00In_v ((nth (row (nth p 1).list i) 2).str.length : Int) 1 512 = inB ((nth (row (nth p 1).list i) 2).str.length : Int) 1 512 from rfl]
  generalize inB (nth (row (nth p 1).list i) 0).int 1 255 = p0, inB (nth (row (nth p 1).list i) 1).int 0 4095 = p1, inB ((nth (row (nth p 1).list i) 2).str.length : Int) 1 512 = p2, noDup (nth p 1).list i = p3
  cases p0 <;> cases p1 <;> cases p2 <;> cases p3 <;> rfl
theorem spec_l22Ok_R4_eq (p : List TC)  : spec_l22Ok_R4 p 0 = bif allI (fun i : Nat => vslot (nth p 1).list (i : Int)) ((nth p 1).list.length) then .inr () else (Sum.inl ()) := by
  unfold spec_l22Ok_R4
  exact (iter_all (P := (fun i : Nat => vslot (nth p 1).list (i : Int))) (g := fun _ a => a) (w := Sum.inl ()) fun j a _ => spec_l22Ok_f4_eq p _)
theorem spec_l22Ok_4_h (p : List TC) (i : Int) (ow : spec_l22Ok_4_ω) : ((spec_l22Ok_4_fin p i)).val = some ow → ∃ fuel, loopN spec_l22Ok_4_st fuel (p, i) = some ow := by
  refine auto_const (R := (spec_l22Ok_R4 p i)) rfl (iter_onR (f := (fun i a => (spec_l22Ok_f4 p (i : Int)))) (fin := (fun a => (spec_l22Ok_e4 p))) (Q := endsAs () ()) (fun i a => by unfold spec_l22Ok_f4; exact (onR_bif rfl (onR_bif rfl (onR_bif rfl (onR_bif rfl trivial))))) (fun _ => rfl) _ _ _) ?_
  intro ho
  have ho : is (i = 0 ∧ Typed tab (.slice 87) (.l (nth p 1).list)) = true := ho.elim id id
  obtain ⟨rfl, ht⟩ := is_iff.1 ho
  have hlen : (nth p 1).list.length ≤ 140737488351232 := by have := typed_room ht; simp only [show (tab 87).bytes = 40 from rfl] at this; omega
  refine ⟨((nth p 1).list.length) + 1, ?_⟩
  refine iter_loop (step := spec_l22Ok_4_st) ((nth p 1).list.length) (fun i a => (spec_l22Ok_f4 p (i : Int))) (fun a => (spec_l22Ok_e4 p)) (fun i a => (p, (i : Int))) (fun _ _ => True) trivial (fun i a hi hI => ⟨?_, fun _ _ => trivial⟩) (fun a hI => ?_)
  · show (spec_l22Ok_4_step p (i : Int)).val = _
    unfold spec_l22Ok_4_step spec_l22Ok_f4
    skip
    refine Tr.t (by simp; omega) ?_
    exact (Tr.t (by first | omega | (constructor <;> omega) | (exact is_true ⟨rfl, by omega, by omega, by omega⟩)) (Tr.bf rfl (Tr.bf rfl (Tr.bf rfl (Tr.bf (Tr.t (by first | (exact is_true ⟨rfl, by omega, by omega, by omega⟩) | (first | (apply is_true; and_intros <;> (first | rfl | assumption | (first | (apply is_true; and_intros <;> (first | rfl | assumption | (first | (apply is_true; and_intros <;> (first | rfl | assumption)))))))))) rfl) (Tr.t (by first | (exact is_true ⟨rfl, by omega, by omega, by omega⟩) | (first | (apply is_true; and_intros <;> (first | rfl | assumption | (first | (apply is_true; and_intros <;> (first | rfl | assumption | (first | (apply is_true; and_intros <;> (first | rfl | assumption)))))))))) (by rw [Tr.val_ok, wrap64 (i := (i : Int) + 1) (by omega) (by omega)]; rfl)))))))
  · show (spec_l22Ok_4_step p ((nth p 1).list.length : Int)).val = _
    refine Tr.n (by first | (simp; done) | (simp; omega) | omega) ?_
    rfl
theorem spec_l22Ok_is4 : LoopIs tab FT D7 live 78 spec_l22Ok_lo 0 4 := by
  refine loop_told (sl := spec_l22Ok_4_sl) (step := spec_l22Ok_4_st) (out := spec_l22Ok_4_out) (lor := spec_l22Ok_lo4) (fin := fun x => (spec_l22Ok_4_fin (x.1) (x.2))) (fun _ => rfl) ?_ (fun x n => spec_l22Ok_4_r x.1 x.2 n) (fun x ow => spec_l22Ok_4_h x.1 x.2 ow)
  intro s t h
  unfold spec_l22Ok_lo4 at h
  split at h
  · cases h; exact ⟨(_, _), rfl, rfl⟩
  · cases h
noncomputable def spec_l22Ok_t (p : List TC) : Tr (Bool) := (.ite ((!(spec_l00In_v ((nth p 0).int) (1 : Int) (16 : Int))) = true) (.ok false)
  (.ite ((decide ((((nth p 1).list).length : Int) > (nth p 0).int)) = true) (.ok false)
   (.ite ((!(spec_l00In_v ((nth p 2).int) (0 : Int) (1000000 : Int))) = true) (.ok false)
    (.ite ((!(spec_l00In_v ((nth p 3).int) (0 : Int) (1000000 : Int))) = true) (.ok false)
     (.ite ((!(spec_l00In_v ((nth p 4).int) (0 : Int) (1000000 : Int))) = true) (.ok false)
      (.ite ((spec_l22Ok_k4_1 p (0 : Int)) = true) (.ite ((spec_l22Ok_o4_2 p (0 : Int)) = true) (.ok false)
        .no)
       (.ite ((spec_l22Ok_o4_3 p (0 : Int)) = true) (.ok true)
        .no)))))))
def spec_l22Ok_mk (p : Bool) : Res := [(false, [⟨.bool, .sh, TC.b p⟩])]
noncomputable def spec_l22Ok_c (p : List TC) : Bool := (bif (!(spec_l00In_v ((nth p 0).int) (1 : Int) (16 : Int))) then true else (bif (decide ((((nth p 1).list).length : Int) > (nth p 0).int)) then true else (bif (!(spec_l00In_v ((nth p 2).int) (0 : Int) (1000000 : Int))) then true else (bif (!(spec_l00In_v ((nth p 3).int) (0 : Int) (1000000 : Int))) then true else (bif (!(spec_l00In_v ((nth p 4).int) (0 : Int) (1000000 : Int))) then true else (bif (spec_l22Ok_k4_1 p (0 : Int)) then ((spec_l22Ok_o4_2 p (0 : Int)) && true) else ((spec_l22Ok_o4_3 p (0 : Int)) && true)))))))
noncomputable def spec_l22Ok_v (p : List TC) : Bool := (bif (!(spec_l00In_v ((nth p 0).int) (1 : Int) (16 : Int))) then false else (bif (decide ((((nth p 1).list).length : Int) > (nth p 0).int)) then false else (bif (!(spec_l00In_v ((nth p 2).int) (0 : Int) (1000000 : Int))) then false else (bif (!(spec_l00In_v ((nth p 3).int) (0 : Int) (1000000 : Int))) then false else (bif (!(spec_l00In_v ((nth p 4).int) (0 : Int) (1000000 : Int))) then false else (bif (spec_l22Ok_k4_1 p (0 : Int)) then false else true))))))
theorem spec_l22Ok_l (p : List TC) : (spec_l22Ok_c p) = true → (spec_l22Ok_t p).val = some (spec_l22Ok_v p) := by
  unfold spec_l22Ok_t spec_l22Ok_v spec_l22Ok_c
  exact fun h => (Tr.ss h (fun h => rfl) (fun h => (Tr.ss h (fun h => rfl) (fun h => (Tr.ss h (fun h => rfl) (fun h => (Tr.ss h (fun h => rfl) (fun h => (Tr.ss h (fun h => rfl) (fun h => (Tr.ss h (fun h => (Tr.gb h fun h => rfl)) (fun h => (Tr.gb h fun h => rfl)))))))))))))
noncomputable def spec_l22Ok_S : List Arg → Option (Bool × Res) := fun xs => match xs with
  | [(false, [(.ptr 24, TC.p p)])] => some ((spec_l22Ok_c p), spec_l22Ok_mk (spec_l22Ok_v p))
  | _ => .none
theorem spec_l22Ok_e (p : List TC) : runF tab FT D7 live 78 spec_l22Ok_lo [(false, [(.ptr 24, TC.p p)])] = (spec_l22Ok_t p).run fun p => some (spec_l22Ok_mk p) := by kernel_rfl
theorem spec_l22Ok_s : ∀ xs r, spec_l22Ok_S xs = some (true, r) → runF tab FT D7 live 78 spec_l22Ok_lo xs = some r := by
  intro xs r h
  unfold spec_l22Ok_S at h
  split at h
  · simp only [Option.some.injEq, Prod.mk.injEq] at h
    obtain ⟨h1, rfl⟩ := h
    exact fun_told (spec_l22Ok_e _) (spec_l22Ok_l _) h1
  · cases h
noncomputable def D8 : Dt := also D7 78 spec_l22Ok_S
theorem d8 : DOk Go.Proofs.Try.prog tab D8 := d7.also mixed_ok tab_ok names_ok (fnLoops_two (by kernel_rfl) spec_l22Ok_is4 spec_l22Ok_is10) spec_l22Ok_s
theorem spec_l22Ok_cc {p : List TC} (hA : Typed tab (.slice 87) (.l (nth p 1).list)) : (spec_l22Ok_c p) = true := by
  unfold spec_l22Ok_c
  refine bifT (fun b1 => ?_) (fun b1 => ?_)
  · skip
    rfl
  · skip
    refine bifT (fun b2 => ?_) (fun b2 => ?_)
    · skip
      rfl
    · skip
      refine bifT (fun b3 => ?_) (fun b3 => ?_)
      · skip
        rfl
      · skip
        refine bifT (fun b4 => ?_) (fun b4 => ?_)
        · skip
          rfl
        · skip
          refine bifT (fun b5 => ?_) (fun b5 => ?_)
          · skip
            rfl
          · skip
            refine bifT (fun b6 => ?_) (fun b6 => ?_)
            · skip
              refine andT (by exact is_true ⟨rfl, hA⟩) ?_
              rfl
            · skip
              refine andT (by exact is_true ⟨rfl, hA⟩) ?_
              rfl
theorem spec_l22Ok_vv (p : List TC) : spec_l22Ok_v p = cacheOk (nth p 0).int (nth p 1).list (nth p 2).int (nth p 3).int (nth p 4).int := by
  unfold spec_l22Ok_v spec_l22Ok_k4_1 cacheOk
  rw [spec_l22Ok_R4_eq, dgt]
  rw [show spec_l00In_v (nth p 0).int 1 16 = inB (nth p 0).int 1 16 from rfl, show spec_l00In_v (nth p 2).int 0 1000000 = inB (nth p 2).int 0 1000000 from rfl, show spec_l00In_v (nth p 3).int 0 1000000 = inB (nth p 3).int 0 1000000 from rfl, show spec_l00In_v (nth p 4).int 0 1000000 = inB (nth p 4).int 0 1000000 from rfl]
  generalize inB (nth p 0).int 1 16 = q0, inB (nth p 2).int 0 1000000 = q1, inB (nth p 3).int 0 1000000 = q2, inB (nth p 4).int 0 1000000 = q3, decide (((nth p 1).list.length : Int) ≤ (nth p 0).int) = q4, allI (fun i : Nat => vslot (nth p 1).list (i : Int)) (nth p 1).list.length = q5
  cases q0 <;> cases q1 <;> cases q2 <;> cases q3 <;> cases q4 <;> cases q5 <;> rfl
/-! spec_ValidCache -/
noncomputable def spec_ValidCache_t (a0 : Int) (a1 : List (List TC)) (a2 : Int) (a3 : Int) (a4 : Int) : Tr (Bool) := (.ite ((spec_l22Ok_c [TC.i a0, TC.l a1, TC.i a2, TC.i a3, TC.i a4]) = true) (.ok (spec_l22Ok_v [TC.i a0, TC.l a1, TC.i a2, TC.i a3, TC.i a4]))
  .no)
def spec_ValidCache_mk (p : Bool) : Res := [(false, [⟨.bool, .sh, TC.b p⟩])]
noncomputable def spec_ValidCache_c (a0 : Int) (a1 : List (List TC)) (a2 : Int) (a3 : Int) (a4 : Int) : Bool := (spec_l22Ok_c [TC.i a0, TC.l a1, TC.i a2, TC.i a3, TC.i a4])
noncomputable def spec_ValidCache_v (a0 : Int) (a1 : List (List TC)) (a2 : Int) (a3 : Int) (a4 : Int) : Bool := (spec_l22Ok_v [TC.i a0, TC.l a1, TC.i a2, TC.i a3, TC.i a4])
theorem spec_ValidCache_l (a0 : Int) (a1 : List (List TC)) (a2 : Int) (a3 : Int) (a4 : Int) : (spec_ValidCache_c a0 a1 a2 a3 a4) = true → (spec_ValidCache_t a0 a1 a2 a3 a4).val = some (spec_ValidCache_v a0 a1 a2 a3 a4) := by
  intro h
  have hc0 : (spec_l22Ok_c [TC.i a0, TC.l a1, TC.i a2, TC.i a3, TC.i a4]) = true := h
  unfold spec_ValidCache_t
  exact (Tr.t hc0 rfl)
noncomputable def spec_ValidCache_S : List Arg → Option (Bool × Res) := fun xs => match xs with
  | [(true, [(.int .i64, TC.i a0), (.slice 87, TC.l a1), (.int .i64, TC.i a2), (.int .i64, TC.i a3), (.int .i64, TC.i a4)])] => some ((spec_ValidCache_c a0 a1 a2 a3 a4), spec_ValidCache_mk (spec_ValidCache_v a0 a1 a2 a3 a4))
  | _ => .none
theorem spec_ValidCache_e (a0 : Int) (a1 : List (List TC)) (a2 : Int) (a3 : Int) (a4 : Int) : runF tab FT D8 live 40 noLoops [(true, [(.int .i64, TC.i a0), (.slice 87, TC.l a1), (.int .i64, TC.i a2), (.int .i64, TC.i a3), (.int .i64, TC.i a4)])] = (spec_ValidCache_t a0 a1 a2 a3 a4).run fun p => some (spec_ValidCache_mk p) := by kernel_rfl
theorem spec_ValidCache_s : ∀ xs r, spec_ValidCache_S xs = some (true, r) → runF tab FT D8 live 40 noLoops xs = some r := by
  intro xs r h
  unfold spec_ValidCache_S at h
  split at h
  · simp only [Option.some.injEq, Prod.mk.injEq] at h
    obtain ⟨h1, rfl⟩ := h
    exact fun_told (spec_ValidCache_e _ _ _ _ _) (spec_ValidCache_l _ _ _ _ _) h1
  · cases h
noncomputable def D9 : Dt := also D8 40 spec_ValidCache_S
theorem d9 : DOk Go.Proofs.Try.prog tab D9 := d8.also mixed_ok tab_ok names_ok noLoops_ok spec_ValidCache_s
/-! impl_within -/
noncomputable def impl_within_t (a0 : Int) (a1 : Int) (a2 : Int) : Tr (Bool) := (.ite ((decide (a0 ≥ a1)) = true) (.ok (decide (a0 ≤ a2)))
  (.ok false))
def impl_within_mk (p : Bool) : Res := [(false, [⟨.bool, .sh, TC.b p⟩])]
noncomputable def impl_within_c (a0 : Int) (a1 : Int) (a2 : Int) : Bool := true
noncomputable def impl_within_v (a0 : Int) (a1 : Int) (a2 : Int) : Bool := (bif (decide (a0 ≥ a1)) then (decide (a0 ≤ a2)) else false)
theorem impl_within_l (a0 : Int) (a1 : Int) (a2 : Int) : (impl_within_c a0 a1 a2) = true → (impl_within_t a0 a1 a2).val = some (impl_within_v a0 a1 a2) := by
  intro h
  skip
  unfold impl_within_t impl_within_v
  exact (Tr.s rfl rfl)
noncomputable def impl_within_S : List Arg → Option (Bool × Res) := fun xs => match xs with
  | [(false, [(.int .i64, TC.i a0)]), (false, [(.int .i64, TC.i a1)]), (false, [(.int .i64, TC.i a2)])] => some (true, impl_within_mk (impl_within_v a0 a1 a2))
  | _ => .none
theorem impl_within_e (a0 : Int) (a1 : Int) (a2 : Int) : runF tab FT D9 live 54 noLoops [(false, [(.int .i64, TC.i a0)]), (false, [(.int .i64, TC.i a1)]), (false, [(.int .i64, TC.i a2)])] = (impl_within_t a0 a1 a2).run fun p => some (impl_within_mk p) := by kernel_rfl
theorem impl_within_s : ∀ xs r, impl_within_S xs = some (true, r) → runF tab FT D9 live 54 noLoops xs = some r := by
  intro xs r h
  unfold impl_within_S at h
  split at h
  · simp only [Option.some.injEq, Prod.mk.injEq] at h
    obtain ⟨h1, rfl⟩ := h
    exact fun_told (impl_within_e _ _ _) (impl_within_l _ _ _) rfl
  · cases h
noncomputable def D10 : Dt := also D9 54 impl_within_S
theorem d10 : DOk Go.Proofs.Try.prog tab D10 := d9.also mixed_ok tab_ok names_ok noLoops_ok impl_within_s
/-! impl_allWithin_1 -/
noncomputable def impl_allWithin_1_t (a0 : Int) (a1 : List TC) (a2 : List TC) : Tr (Bool) := .ok (!(impl_within_v a0 ((nth a1 0).int) ((nth a2 0).int)))
def impl_allWithin_1_mk (p : Bool) : Res := [(false, [⟨.bool, .sh, TC.b p⟩])]
noncomputable def impl_allWithin_1_c (a0 : Int) (a1 : List TC) (a2 : List TC) : Bool := true
noncomputable def impl_allWithin_1_v (a0 : Int) (a1 : List TC) (a2 : List TC) : Bool := (!(impl_within_v a0 ((nth a1 0).int) ((nth a2 0).int)))
theorem impl_allWithin_1_l (a0 : Int) (a1 : List TC) (a2 : List TC) : (impl_allWithin_1_c a0 a1 a2) = true → (impl_allWithin_1_t a0 a1 a2).val = some (impl_allWithin_1_v a0 a1 a2) := by
  intro h
  skip
  unfold impl_allWithin_1_t impl_allWithin_1_v
  exact rfl
noncomputable def impl_allWithin_1_S : List Arg → Option (Bool × Res) := fun xs => match xs with
  | [(false, [(.int .i64, TC.i a0)]), (false, [(.ptr 2, TC.p a1)]), (false, [(.ptr 2, TC.p a2)])] => some (true, impl_allWithin_1_mk (impl_allWithin_1_v a0 a1 a2))
  | _ => .none
theorem impl_allWithin_1_e (a0 : Int) (a1 : List TC) (a2 : List TC) : runF tab FT D10 live 121 noLoops [(false, [(.int .i64, TC.i a0)]), (false, [(.ptr 2, TC.p a1)]), (false, [(.ptr 2, TC.p a2)])] = (impl_allWithin_1_t a0 a1 a2).run fun p => some (impl_allWithin_1_mk p) := by kernel_rfl
theorem impl_allWithin_1_s : ∀ xs r, impl_allWithin_1_S xs = some (true, r) → runF tab FT D10 live 121 noLoops xs = some r := by
  intro xs r h
  unfold impl_allWithin_1_S at h
  split at h
  · simp only [Option.some.injEq, Prod.mk.injEq] at h
    obtain ⟨h1, rfl⟩ := h
    exact fun_told (impl_allWithin_1_e _ _ _) (impl_allWithin_1_l _ _ _) rfl
  · cases h
noncomputable def D11 : Dt := also D10 121 impl_allWithin_1_S
theorem d11 : DOk Go.Proofs.Try.prog tab D11 := d10.also mixed_ok tab_ok names_ok noLoops_ok impl_allWithin_1_s
def inR (lo hi : Int) (x : List TC) : Bool := bif decide ((nth x 0).int ≥ lo) then decide ((nth x 0).int ≤ hi) else false
def mulR (n : Int) (x : List TC) : Int := IntKind.wrap .i64 (n * (nth x 0).int)
def prodL (A : List (List TC)) : Int := A.foldl mulR 1
/-! slices_IndexFunc_int64_int64 -/
abbrev slices_IndexFunc_int64_int64_2_σ := List (List TC) × List TC × List TC × Int × Int
abbrev slices_IndexFunc_int64_int64_2_ω := (Int) ⊕ (Unit)
noncomputable def slices_IndexFunc_int64_int64_2_step (A : List (List TC)) (lw : List TC) (hg : List TC) (m : Int) (i : Int) : Tr (slices_IndexFunc_int64_int64_2_σ ⊕ slices_IndexFunc_int64_int64_2_ω) := (.ite ((decide (i < m)) = true) (.ite ((0 : Int) ≤ i ∧ i < (A.length : Int)) (.ite ((!(impl_within_v ((nth (row A i) 0).int) ((nth lw 0).int) ((nth hg 0).int))) = true) (.ok (.inr (.inl i)))
    (.ok (.inl (A, lw, hg, m, (IntKind.wrap .i64 (i + (1 : Int)))))))
   .no)
  (.ok (.inr (.inr ()))))
noncomputable def slices_IndexFunc_int64_int64_2_st : slices_IndexFunc_int64_int64_2_σ → Tr (slices_IndexFunc_int64_int64_2_σ ⊕ slices_IndexFunc_int64_int64_2_ω) := fun x => (slices_IndexFunc_int64_int64_2_step (x.1) (x.2.1) (x.2.2.1) (x.2.2.2.1) (x.2.2.2.2))
noncomputable def slices_IndexFunc_int64_int64_k2_1 (A : List (List TC)) (lw : List TC) (hg : List TC) (m : Int) (i : Int) : Bool := A.all (inR (nth lw 0).int (nth hg 0).int)
noncomputable def slices_IndexFunc_int64_int64_o2_2 (A : List (List TC)) (lw : List TC) (hg : List TC) (m : Int) (i : Int) : Bool := is (i = 0 ∧ Typed tab (.slice 2) (.l A) ∧ m = (A.length : Int))
noncomputable def slices_IndexFunc_int64_int64_o2_3 (A : List (List TC)) (lw : List TC) (hg : List TC) (m : Int) (i : Int) : Bool := is (i = 0 ∧ Typed tab (.slice 2) (.l A) ∧ m = (A.length : Int))
noncomputable def slices_IndexFunc_int64_int64_u2_3 (A : List (List TC)) (lw : List TC) (hg : List TC) (m : Int) (i : Int) : Int := (Int.ofNat (A.findIdx fun x => !(inR (nth lw 0).int (nth hg 0).int) x))
noncomputable def slices_IndexFunc_int64_int64_2_fin (A : List (List TC)) (lw : List TC) (hg : List TC) (m : Int) (i : Int) : Told slices_IndexFunc_int64_int64_2_ω := (.br (slices_IndexFunc_int64_int64_k2_1 A lw hg m i) (.leaf (slices_IndexFunc_int64_int64_o2_2 A lw hg m i) (.inr ())) (.leaf (slices_IndexFunc_int64_int64_o2_3 A lw hg m i) (.inl (slices_IndexFunc_int64_int64_u2_3 A lw hg m i))))
def slices_IndexFunc_int64_int64_2_sl (x : slices_IndexFunc_int64_int64_2_σ) : List Slot := [⟨.val false [⟨.slice 2, .sh, TC.l (x.1)⟩], ⟨0, 0⟩⟩, ⟨.val false [⟨.func, .sh, TC.f 121 [(2, x.2.1), (2, x.2.2.1)]⟩], ⟨0, 0⟩⟩, ⟨.val false [⟨.int .i64, .sh, TC.i (x.2.2.2.1)⟩], ⟨0, 0⟩⟩, ⟨.val false [⟨.int .i64, .sh, TC.i (x.2.2.2.2)⟩], ⟨0, 0⟩⟩]
def slices_IndexFunc_int64_int64_2_out : slices_IndexFunc_int64_int64_2_ω → Ex × List Slot := (Sum.elim (fun x => (.ret, [⟨.val false [⟨.int .i64, .sh, TC.i x⟩], ⟨0, 0⟩⟩])) (fun x => (.exit 0, [Slot.none])))
noncomputable def slices_IndexFunc_int64_int64_lo2 : List Slot → Option (Told (Ex × List Slot)) := fun s => match s with
  | [⟨.val false [⟨.slice 2, .sh, TC.l A⟩], ⟨0, 0⟩⟩, ⟨.val false [⟨.func, .sh, TC.f 121 [(2, lw), (2, hg)]⟩], ⟨0, 0⟩⟩, ⟨.val false [⟨.int .i64, .sh, TC.i m⟩], ⟨0, 0⟩⟩, ⟨.val false [⟨.int .i64, .sh, TC.i i⟩], ⟨0, 0⟩⟩] => some (((slices_IndexFunc_int64_int64_2_fin A lw hg m i)).map slices_IndexFunc_int64_int64_2_out)
  | _ => .none
noncomputable def slices_IndexFunc_int64_int64_lo : LoopTeller := fun r s => bif Nat.beq r 2 then slices_IndexFunc_int64_int64_lo2 s else .none
theorem slices_IndexFunc_int64_int64_2_r (A : List (List TC)) (lw : List TC) (hg : List TC) (m : Int) (i : Int) (fuel : Nat) : rounds (rnd tab FT D11 live 140 slices_IndexFunc_int64_int64_lo 0 2) leave (fuel + 1) (slices_IndexFunc_int64_int64_2_sl (A, lw, hg, m, i)) = ((slices_IndexFunc_int64_int64_2_step A lw hg m i)).run (goOn (fun s => rounds (rnd tab FT D11 live 140 slices_IndexFunc_int64_int64_lo 0 2) leave fuel (slices_IndexFunc_int64_int64_2_sl s)) fun w => some (slices_IndexFunc_int64_int64_2_out w)) := by kernel_rfl
theorem slices_IndexFunc_int64_int64_2_h (A : List (List TC)) (lw : List TC) (hg : List TC) (m : Int) (i : Int) (ow : slices_IndexFunc_int64_int64_2_ω) : ((slices_IndexFunc_int64_int64_2_fin A lw hg m i)).val = some ow → ∃ fuel, loopN slices_IndexFunc_int64_int64_2_st fuel (A, lw, hg, m, i) = some ow := by
  intro h
  have key : Typed tab (.slice 2) (.l A) → loopN slices_IndexFunc_int64_int64_2_st (A.length + 1) (A, lw, hg, (A.length : Int), (0 : Int)) = some (if A.all (inR (nth lw 0).int (nth hg 0).int) = true then (.inr ()) else (.inl (Int.ofNat (A.findIdx fun x => !(inR (nth lw 0).int (nth hg 0).int) x)))) := by
    intro ht
    have hlen : A.length ≤ 140737488351232 := by have := typed_room ht; simp only [show (tab 2).bytes = 8 from rfl] at this; omega
    have key := loopN_scan (step := slices_IndexFunc_int64_int64_2_st) A [] (inR (nth lw 0).int (nth hg 0).int) (fun a _ => a) (fun i a => (A, lw, hg, (A.length : Int), (i : Int))) (fun a => (.inr ())) (fun i a => (.inl (i : Int))) (fun i a hi => ?_) (fun a => ?_) A.length 0 () (by omega)
    · first | (rw [Nat.zero_add] at key; exact key) | exact key
    · skip
      show (slices_IndexFunc_int64_int64_2_step A lw hg (A.length : Int) (i : Int)).val = _
      unfold slices_IndexFunc_int64_int64_2_step
      refine Tr.t (by simp; omega) ?_
      skip
      refine Tr.t (by first | omega | (constructor <;> omega)) ?_
      refine Tr.b (P := (inR (nth lw 0).int (nth hg 0).int) (A.getD i [])) (fun hP => ?_) (fun _ => rfl)
      rw [Tr.val_ok, wrap64 (i := (i : Int) + 1) (by omega) (by omega)]; rfl
    · show (slices_IndexFunc_int64_int64_2_step A lw hg (A.length : Int) (A.length : Int)).val = _
      refine Tr.n (by simp) ?_
      rfl
  simp only [slices_IndexFunc_int64_int64_2_fin, Told.val] at h
  cases hk : A.all (inR (nth lw 0).int (nth hg 0).int) with
  | true =>
    rw [if_pos (show slices_IndexFunc_int64_int64_k2_1 A lw hg m i = true from hk)] at h
    split at h
    · rename_i ho
      obtain ⟨rfl, ht, rfl⟩ := is_iff.1 ho
      cases h
      refine ⟨_, (key ht).trans ?_⟩
      rw [hk]; rfl
    · cases h
  | false =>
    rw [if_neg (show ¬slices_IndexFunc_int64_int64_k2_1 A lw hg m i = true from by rw [show slices_IndexFunc_int64_int64_k2_1 A lw hg m i = (A.all (inR (nth lw 0).int (nth hg 0).int)) from rfl, hk]; simp)] at h
    split at h
    · rename_i ho
      obtain ⟨rfl, ht, rfl⟩ := is_iff.1 ho
      cases h
      refine ⟨_, (key ht).trans ?_⟩
      rw [hk]; rfl
    · cases h
theorem slices_IndexFunc_int64_int64_is2 : LoopIs tab FT D11 live 140 slices_IndexFunc_int64_int64_lo 0 2 := by
  refine loop_told (sl := slices_IndexFunc_int64_int64_2_sl) (step := slices_IndexFunc_int64_int64_2_st) (out := slices_IndexFunc_int64_int64_2_out) (lor := slices_IndexFunc_int64_int64_lo2) (fin := fun x => (slices_IndexFunc_int64_int64_2_fin (x.1) (x.2.1) (x.2.2.1) (x.2.2.2.1) (x.2.2.2.2))) (fun _ => rfl) ?_ (fun x n => slices_IndexFunc_int64_int64_2_r x.1 x.2.1 x.2.2.1 x.2.2.2.1 x.2.2.2.2 n) (fun x ow => slices_IndexFunc_int64_int64_2_h x.1 x.2.1 x.2.2.1 x.2.2.2.1 x.2.2.2.2 ow)
  intro s t h
  unfold slices_IndexFunc_int64_int64_lo2 at h
  split at h
  · cases h; exact ⟨(_, _, _, _, _), rfl, rfl⟩
  · cases h
noncomputable def slices_IndexFunc_int64_int64_t (A : List (List TC)) (lw : List TC) (hg : List TC) : Tr (Int) := (.ite ((slices_IndexFunc_int64_int64_k2_1 A lw hg (A.length : Int) (0 : Int)) = true) (.ite ((slices_IndexFunc_int64_int64_o2_2 A lw hg (A.length : Int) (0 : Int)) = true) (.ok (-1 : Int))
   .no)
  (.ite ((slices_IndexFunc_int64_int64_o2_3 A lw hg (A.length : Int) (0 : Int)) = true) (.ok (slices_IndexFunc_int64_int64_u2_3 A lw hg (A.length : Int) (0 : Int)))
   .no))
def slices_IndexFunc_int64_int64_mk (p : Int) : Res := [(false, [⟨.int .i64, .sh, TC.i p⟩])]
noncomputable def slices_IndexFunc_int64_int64_c (A : List (List TC)) (lw : List TC) (hg : List TC) : Bool := is (Typed tab (.slice 2) (.l A))
noncomputable def slices_IndexFunc_int64_int64_v (A : List (List TC)) (lw : List TC) (hg : List TC) : Int := if (A.all (inR (nth lw 0).int (nth hg 0).int)) = true then -1 else (Int.ofNat (A.findIdx fun x => !(inR (nth lw 0).int (nth hg 0).int) x))
theorem slices_IndexFunc_int64_int64_l (A : List (List TC)) (lw : List TC) (hg : List TC) : (slices_IndexFunc_int64_int64_c A lw hg) = true → (slices_IndexFunc_int64_int64_t A lw hg).val = some (slices_IndexFunc_int64_int64_v A lw hg) := by
  intro h
  have ht := is_iff.1 h
  unfold slices_IndexFunc_int64_int64_t
  cases hk : A.all (inR (nth lw 0).int (nth hg 0).int) with
  | true =>
    refine Tr.t (show A.all (inR (nth lw 0).int (nth hg 0).int) = true from hk) ?_
    refine Tr.t (by first | (apply is_true; and_intros <;> (first | rfl | assumption | (apply spec_l22Ok_cc <;> assumption) | (first | (apply is_true; and_intros <;> (first | rfl | assumption | (apply spec_l22Ok_cc <;> assumption) | (first | (apply is_true; and_intros <;> (first | rfl | assumption | (apply spec_l22Ok_cc <;> assumption) | (first | (apply is_true; and_intros <;> (first | rfl | assumption | (apply spec_l22Ok_cc <;> assumption))) | (apply spec_l22Ok_cc <;> assumption)))) | (apply spec_l22Ok_cc <;> assumption)))) | (apply spec_l22Ok_cc <;> assumption)))) | (apply spec_l22Ok_cc <;> assumption)) ?_
    show _ = some (slices_IndexFunc_int64_int64_v A lw hg); unfold slices_IndexFunc_int64_int64_v; rw [if_pos hk]; rfl
  | false =>
    refine Tr.n (show ¬A.all (inR (nth lw 0).int (nth hg 0).int) = true from by rw [hk]; simp) ?_
    refine Tr.t (by first | (apply is_true; and_intros <;> (first | rfl | assumption | (apply spec_l22Ok_cc <;> assumption) | (first | (apply is_true; and_intros <;> (first | rfl | assumption | (apply spec_l22Ok_cc <;> assumption) | (first | (apply is_true; and_intros <;> (first | rfl | assumption | (apply spec_l22Ok_cc <;> assumption) | (first | (apply is_true; and_intros <;> (first | rfl | assumption | (apply spec_l22Ok_cc <;> assumption))) | (apply spec_l22Ok_cc <;> assumption)))) | (apply spec_l22Ok_cc <;> assumption)))) | (apply spec_l22Ok_cc <;> assumption)))) | (apply spec_l22Ok_cc <;> assumption)) ?_
    show _ = some (slices_IndexFunc_int64_int64_v A lw hg); unfold slices_IndexFunc_int64_int64_v; rw [if_neg (by rw [hk]; simp)]; rfl
noncomputable def slices_IndexFunc_int64_int64_S : List Arg → Option (Bool × Res) := fun xs => match xs with
  | [(false, [(.slice 2, TC.l A)]), (false, [(.func, TC.f 121 [(2, lw), (2, hg)])])] => some ((slices_IndexFunc_int64_int64_c A lw hg), slices_IndexFunc_int64_int64_mk (slices_IndexFunc_int64_int64_v A lw hg))
  | _ => .none
theorem slices_IndexFunc_int64_int64_e (A : List (List TC)) (lw : List TC) (hg : List TC) : runF tab FT D11 live 140 slices_IndexFunc_int64_int64_lo [(false, [(.slice 2, TC.l A)]), (false, [(.func, TC.f 121 [(2, lw), (2, hg)])])] = (slices_IndexFunc_int64_int64_t A lw hg).run fun p => some (slices_IndexFunc_int64_int64_mk p) := by kernel_rfl
theorem slices_IndexFunc_int64_int64_s : ∀ xs r, slices_IndexFunc_int64_int64_S xs = some (true, r) → runF tab FT D11 live 140 slices_IndexFunc_int64_int64_lo xs = some r := by
  intro xs r h
  unfold slices_IndexFunc_int64_int64_S at h
  split at h
  · simp only [Option.some.injEq, Prod.mk.injEq] at h
    obtain ⟨h1, rfl⟩ := h
    exact fun_told (slices_IndexFunc_int64_int64_e _ _ _) (slices_IndexFunc_int64_int64_l _ _ _) h1
  · cases h
noncomputable def D12 : Dt := also D11 140 slices_IndexFunc_int64_int64_S
theorem d12 : DOk Go.Proofs.Try.prog tab D12 := d11.also mixed_ok tab_ok names_ok (fnLoops_one (by kernel_rfl) slices_IndexFunc_int64_int64_is2) slices_IndexFunc_int64_int64_s
/-! slices_ContainsFunc_int64_int64 -/
noncomputable def slices_ContainsFunc_int64_int64_t (A : List (List TC)) (lw : List TC) (hg : List TC) : Tr (Bool) := (.ite ((slices_IndexFunc_int64_int64_c A lw hg) = true) (.ok (decide ((slices_IndexFunc_int64_int64_v A lw hg) ≥ (0 : Int))))
  .no)
def slices_ContainsFunc_int64_int64_mk (p : Bool) : Res := [(false, [⟨.bool, .sh, TC.b p⟩])]
noncomputable def slices_ContainsFunc_int64_int64_c (A : List (List TC)) (lw : List TC) (hg : List TC) : Bool := is (Typed tab (.slice 2) (.l A))
noncomputable def slices_ContainsFunc_int64_int64_v (A : List (List TC)) (lw : List TC) (hg : List TC) : Bool := !(A.all (inR (nth lw 0).int (nth hg 0).int))
theorem slices_ContainsFunc_int64_int64_l (A : List (List TC)) (lw : List TC) (hg : List TC) : (slices_ContainsFunc_int64_int64_c A lw hg) = true → (slices_ContainsFunc_int64_int64_t A lw hg).val = some (slices_ContainsFunc_int64_int64_v A lw hg) := by
  intro h
  have ht := is_iff.1 h
  unfold slices_ContainsFunc_int64_int64_t
  refine Tr.t (by first | (apply is_true; and_intros <;> (first | rfl | assumption | (apply spec_l22Ok_cc <;> assumption) | (first | (apply is_true; and_intros <;> (first | rfl | assumption | (apply spec_l22Ok_cc <;> assumption) | (first | (apply is_true; and_intros <;> (first | rfl | assumption | (apply spec_l22Ok_cc <;> assumption) | (first | (apply is_true; and_intros <;> (first | rfl | assumption | (apply spec_l22Ok_cc <;> assumption))) | (apply spec_l22Ok_cc <;> assumption)))) | (apply spec_l22Ok_cc <;> assumption)))) | (apply spec_l22Ok_cc <;> assumption)))) | (apply spec_l22Ok_cc <;> assumption)) ?_
  show some (decide (slices_IndexFunc_int64_int64_v A lw hg ≥ 0)) = some (!(A.all (inR (nth lw 0).int (nth hg 0).int)))
  unfold slices_IndexFunc_int64_int64_v
  cases hk : A.all (inR (nth lw 0).int (nth hg 0).int) <;> simp
noncomputable def slices_ContainsFunc_int64_int64_S : List Arg → Option (Bool × Res) := fun xs => match xs with
  | [(false, [(.slice 2, TC.l A)]), (false, [(.func, TC.f 121 [(2, lw), (2, hg)])])] => some ((slices_ContainsFunc_int64_int64_c A lw hg), slices_ContainsFunc_int64_int64_mk (slices_ContainsFunc_int64_int64_v A lw hg))
  | _ => .none
theorem slices_ContainsFunc_int64_int64_e (A : List (List TC)) (lw : List TC) (hg : List TC) : runF tab FT D12 live 120 noLoops [(false, [(.slice 2, TC.l A)]), (false, [(.func, TC.f 121 [(2, lw), (2, hg)])])] = (slices_ContainsFunc_int64_int64_t A lw hg).run fun p => some (slices_ContainsFunc_int64_int64_mk p) := by kernel_rfl
theorem slices_ContainsFunc_int64_int64_s : ∀ xs r, slices_ContainsFunc_int64_int64_S xs = some (true, r) → runF tab FT D12 live 120 noLoops xs = some r := by
  intro xs r h
  unfold slices_ContainsFunc_int64_int64_S at h
  split at h
  · simp only [Option.some.injEq, Prod.mk.injEq] at h
    obtain ⟨h1, rfl⟩ := h
    exact fun_told (slices_ContainsFunc_int64_int64_e _ _ _) (slices_ContainsFunc_int64_int64_l _ _ _) h1
  · cases h
noncomputable def D13 : Dt := also D12 120 slices_ContainsFunc_int64_int64_S
theorem d13 : DOk Go.Proofs.Try.prog tab D13 := d12.also mixed_ok tab_ok names_ok noLoops_ok slices_ContainsFunc_int64_int64_s
/-! impl_allWithin -/
noncomputable def impl_allWithin_t (a0 : List (List TC)) (a1 : Int) (a2 : Int) : Tr (Bool) := (.ite ((slices_ContainsFunc_int64_int64_c a0 [TC.i a1] [TC.i a2]) = true) (.ok (!(slices_ContainsFunc_int64_int64_v a0 [TC.i a1] [TC.i a2])))
  .no)
def impl_allWithin_mk (p : Bool) : Res := [(false, [⟨.bool, .sh, TC.b p⟩])]
noncomputable def impl_allWithin_c (a0 : List (List TC)) (a1 : Int) (a2 : Int) : Bool := (slices_ContainsFunc_int64_int64_c a0 [TC.i a1] [TC.i a2])
noncomputable def impl_allWithin_v (a0 : List (List TC)) (a1 : Int) (a2 : Int) : Bool := (!(slices_ContainsFunc_int64_int64_v a0 [TC.i a1] [TC.i a2]))
theorem impl_allWithin_l (a0 : List (List TC)) (a1 : Int) (a2 : Int) : (impl_allWithin_c a0 a1 a2) = true → (impl_allWithin_t a0 a1 a2).val = some (impl_allWithin_v a0 a1 a2) := by
  intro h
  have hc0 : (slices_ContainsFunc_int64_int64_c a0 [TC.i a1] [TC.i a2]) = true := h
  unfold impl_allWithin_t
  exact (Tr.t hc0 rfl)
noncomputable def impl_allWithin_S : List Arg → Option (Bool × Res) := fun xs => match xs with
  | [(false, [(.slice 2, TC.l a0)]), (false, [(.int .i64, TC.i a1)]), (false, [(.int .i64, TC.i a2)])] => some ((impl_allWithin_c a0 a1 a2), impl_allWithin_mk (impl_allWithin_v a0 a1 a2))
  | _ => .none
theorem impl_allWithin_e (a0 : List (List TC)) (a1 : Int) (a2 : Int) : runF tab FT D13 live 79 noLoops [(false, [(.slice 2, TC.l a0)]), (false, [(.int .i64, TC.i a1)]), (false, [(.int .i64, TC.i a2)])] = (impl_allWithin_t a0 a1 a2).run fun p => some (impl_allWithin_mk p) := by kernel_rfl
theorem impl_allWithin_s : ∀ xs r, impl_allWithin_S xs = some (true, r) → runF tab FT D13 live 79 noLoops xs = some r := by
  intro xs r h
  unfold impl_allWithin_S at h
  split at h
  · simp only [Option.some.injEq, Prod.mk.injEq] at h
    obtain ⟨h1, rfl⟩ := h
    exact fun_told (impl_allWithin_e _ _ _) (impl_allWithin_l _ _ _) h1
  · cases h
noncomputable def D14 : Dt := also D13 79 impl_allWithin_S
theorem d14 : DOk Go.Proofs.Try.prog tab D14 := d13.also mixed_ok tab_ok names_ok noLoops_ok impl_allWithin_s
/-! impl_slotOk -/
noncomputable def impl_slotOk_t (a0 : Int) (a1 : Int) (a2 : List UInt8) (a3 : Bool) : Tr (Bool) := (.ite ((impl_within_v a0 (1 : Int) (255 : Int)) = true) (.ite ((impl_within_v a1 (0 : Int) (4095 : Int)) = true) (.ok (impl_within_v (a2.length : Int) (1 : Int) (512 : Int)))
   (.ok false))
  (.ok false))
def impl_slotOk_mk (p : Bool) : Res := [(false, [⟨.bool, .sh, TC.b p⟩])]
noncomputable def impl_slotOk_c (a0 : Int) (a1 : Int) (a2 : List UInt8) (a3 : Bool) : Bool := true
noncomputable def impl_slotOk_v (a0 : Int) (a1 : Int) (a2 : List UInt8) (a3 : Bool) : Bool := (bif (impl_within_v a0 (1 : Int) (255 : Int)) then (bif (impl_within_v a1 (0 : Int) (4095 : Int)) then (impl_within_v (a2.length : Int) (1 : Int) (512 : Int)) else false) else false)
theorem impl_slotOk_l (a0 : Int) (a1 : Int) (a2 : List UInt8) (a3 : Bool) : (impl_slotOk_c a0 a1 a2 a3) = true → (impl_slotOk_t a0 a1 a2 a3).val = some (impl_slotOk_v a0 a1 a2 a3) := by
  intro h
  skip
  unfold impl_slotOk_t impl_slotOk_v
  exact (Tr.s (Tr.s rfl rfl) rfl)
noncomputable def impl_slotOk_S : List Arg → Option (Bool × Res) := fun xs => match xs with
  | [(true, [(.int .i64, TC.i a0), (.int .i64, TC.i a1), (.str, TC.s a2), (.bool, TC.b a3)])] => some (true, impl_slotOk_mk (impl_slotOk_v a0 a1 a2 a3))
  | _ => .none
theorem impl_slotOk_e (a0 : Int) (a1 : Int) (a2 : List UInt8) (a3 : Bool) : runF tab FT D14 live 80 noLoops [(true, [(.int .i64, TC.i a0), (.int .i64, TC.i a1), (.str, TC.s a2), (.bool, TC.b a3)])] = (impl_slotOk_t a0 a1 a2 a3).run fun p => some (impl_slotOk_mk p) := by kernel_rfl
theorem impl_slotOk_s : ∀ xs r, impl_slotOk_S xs = some (true, r) → runF tab FT D14 live 80 noLoops xs = some r := by
  intro xs r h
  unfold impl_slotOk_S at h
  split at h
  · simp only [Option.some.injEq, Prod.mk.injEq] at h
    obtain ⟨h1, rfl⟩ := h
    exact fun_told (impl_slotOk_e _ _ _ _) (impl_slotOk_l _ _ _ _) rfl
  · cases h
noncomputable def D15 : Dt := also D14 80 impl_slotOk_S
theorem d15 : DOk Go.Proofs.Try.prog tab D15 := d14.also mixed_ok tab_ok names_ok noLoops_ok impl_slotOk_s
/-! impl_Slot_isFor -/
noncomputable def impl_Slot_isFor_t (a0 : Int) (a1 : Int) (a2 : List UInt8) (a3 : Bool) (a4 : Int) (a5 : Int) : Tr (Bool) := (.ite ((a0 == a4) = true) (.ok (a1 == a5))
  (.ok false))
def impl_Slot_isFor_mk (p : Bool) : Res := [(false, [⟨.bool, .sh, TC.b p⟩])]
noncomputable def impl_Slot_isFor_c (a0 : Int) (a1 : Int) (a2 : List UInt8) (a3 : Bool) (a4 : Int) (a5 : Int) : Bool := true
noncomputable def impl_Slot_isFor_v (a0 : Int) (a1 : Int) (a2 : List UInt8) (a3 : Bool) (a4 : Int) (a5 : Int) : Bool := (bif (a0 == a4) then (a1 == a5) else false)
theorem impl_Slot_isFor_l (a0 : Int) (a1 : Int) (a2 : List UInt8) (a3 : Bool) (a4 : Int) (a5 : Int) : (impl_Slot_isFor_c a0 a1 a2 a3 a4 a5) = true → (impl_Slot_isFor_t a0 a1 a2 a3 a4 a5).val = some (impl_Slot_isFor_v a0 a1 a2 a3 a4 a5) := by
  intro h
  skip
  unfold impl_Slot_isFor_t impl_Slot_isFor_v
  exact (Tr.s rfl rfl)
noncomputable def impl_Slot_isFor_S : List Arg → Option (Bool × Res) := fun xs => match xs with
  | [(true, [(.int .i64, TC.i a0), (.int .i64, TC.i a1), (.str, TC.s a2), (.bool, TC.b a3)]), (false, [(.int .i64, TC.i a4)]), (false, [(.int .i64, TC.i a5)])] => some (true, impl_Slot_isFor_mk (impl_Slot_isFor_v a0 a1 a2 a3 a4 a5))
  | _ => .none
theorem impl_Slot_isFor_e (a0 : Int) (a1 : Int) (a2 : List UInt8) (a3 : Bool) (a4 : Int) (a5 : Int) : runF tab FT D15 live 83 noLoops [(true, [(.int .i64, TC.i a0), (.int .i64, TC.i a1), (.str, TC.s a2), (.bool, TC.b a3)]), (false, [(.int .i64, TC.i a4)]), (false, [(.int .i64, TC.i a5)])] = (impl_Slot_isFor_t a0 a1 a2 a3 a4 a5).run fun p => some (impl_Slot_isFor_mk p) := by kernel_rfl
theorem impl_Slot_isFor_s : ∀ xs r, impl_Slot_isFor_S xs = some (true, r) → runF tab FT D15 live 83 noLoops xs = some r := by
  intro xs r h
  unfold impl_Slot_isFor_S at h
  split at h
  · simp only [Option.some.injEq, Prod.mk.injEq] at h
    obtain ⟨h1, rfl⟩ := h
    exact fun_told (impl_Slot_isFor_e _ _ _ _ _ _) (impl_Slot_isFor_l _ _ _ _ _ _) rfl
  · cases h
noncomputable def D16 : Dt := also D15 83 impl_Slot_isFor_S
theorem d16 : DOk Go.Proofs.Try.prog tab D16 := d15.also mixed_ok tab_ok names_ok noLoops_ok impl_Slot_isFor_s
/-! impl_ValidCache_1 -/
noncomputable def impl_ValidCache_1_t (a0 : Int) (a1 : Int) (a2 : List UInt8) (a3 : Bool) (a4 : List TC) : Tr (Bool) := .ok (impl_Slot_isFor_v a0 a1 a2 a3 ((nth a4 0).int) ((nth a4 1).int))
def impl_ValidCache_1_mk (p : Bool) : Res := [(false, [⟨.bool, .sh, TC.b p⟩])]
noncomputable def impl_ValidCache_1_c (a0 : Int) (a1 : Int) (a2 : List UInt8) (a3 : Bool) (a4 : List TC) : Bool := true
noncomputable def impl_ValidCache_1_v (a0 : Int) (a1 : Int) (a2 : List UInt8) (a3 : Bool) (a4 : List TC) : Bool := (impl_Slot_isFor_v a0 a1 a2 a3 ((nth a4 0).int) ((nth a4 1).int))
theorem impl_ValidCache_1_l (a0 : Int) (a1 : Int) (a2 : List UInt8) (a3 : Bool) (a4 : List TC) : (impl_ValidCache_1_c a0 a1 a2 a3 a4) = true → (impl_ValidCache_1_t a0 a1 a2 a3 a4).val = some (impl_ValidCache_1_v a0 a1 a2 a3 a4) := by
  intro h
  skip
  unfold impl_ValidCache_1_t impl_ValidCache_1_v
  exact rfl
noncomputable def impl_ValidCache_1_S : List Arg → Option (Bool × Res) := fun xs => match xs with
  | [(true, [(.int .i64, TC.i a0), (.int .i64, TC.i a1), (.str, TC.s a2), (.bool, TC.b a3)]), (false, [(.ptr 87, TC.p a4)])] => some (true, impl_ValidCache_1_mk (impl_ValidCache_1_v a0 a1 a2 a3 a4))
  | _ => .none
theorem impl_ValidCache_1_e (a0 : Int) (a1 : Int) (a2 : List UInt8) (a3 : Bool) (a4 : List TC) : runF tab FT D16 live 82 noLoops [(true, [(.int .i64, TC.i a0), (.int .i64, TC.i a1), (.str, TC.s a2), (.bool, TC.b a3)]), (false, [(.ptr 87, TC.p a4)])] = (impl_ValidCache_1_t a0 a1 a2 a3 a4).run fun p => some (impl_ValidCache_1_mk p) := by kernel_rfl
theorem impl_ValidCache_1_s : ∀ xs r, impl_ValidCache_1_S xs = some (true, r) → runF tab FT D16 live 82 noLoops xs = some r := by
  intro xs r h
  unfold impl_ValidCache_1_S at h
  split at h
  · simp only [Option.some.injEq, Prod.mk.injEq] at h
    obtain ⟨h1, rfl⟩ := h
    exact fun_told (impl_ValidCache_1_e _ _ _ _ _) (impl_ValidCache_1_l _ _ _ _ _) rfl
  · cases h
noncomputable def D17 : Dt := also D16 82 impl_ValidCache_1_S
theorem d17 : DOk Go.Proofs.Try.prog tab D17 := d16.also mixed_ok tab_ok names_ok noLoops_ok impl_ValidCache_1_s
/-! slices_IndexFunc_impl_Slot_impl_Slot -/
abbrev slices_IndexFunc_impl_Slot_impl_Slot_2_σ := List (List TC) × List TC × Int × Int
abbrev slices_IndexFunc_impl_Slot_impl_Slot_2_ω := (Int) ⊕ (Unit)
noncomputable def slices_IndexFunc_impl_Slot_impl_Slot_2_step (A : List (List TC)) (cap0 : List TC) (m : Int) (i : Int) : Tr (slices_IndexFunc_impl_Slot_impl_Slot_2_σ ⊕ slices_IndexFunc_impl_Slot_impl_Slot_2_ω) := (.ite ((decide (i < m)) = true) (.ite ((0 : Int) ≤ i ∧ i < (A.length : Int)) (.ite ((impl_ValidCache_1_v ((nth (row A i) 0).int) ((nth (row A i) 1).int) ((nth (row A i) 2).str) ((nth (row A i) 3).bool) cap0) = true) (.ok (.inr (.inl i)))
    (.ok (.inl (A, cap0, m, (IntKind.wrap .i64 (i + (1 : Int)))))))
   .no)
  (.ok (.inr (.inr ()))))
noncomputable def slices_IndexFunc_impl_Slot_impl_Slot_2_st : slices_IndexFunc_impl_Slot_impl_Slot_2_σ → Tr (slices_IndexFunc_impl_Slot_impl_Slot_2_σ ⊕ slices_IndexFunc_impl_Slot_impl_Slot_2_ω) := fun x => (slices_IndexFunc_impl_Slot_impl_Slot_2_step (x.1) (x.2.1) (x.2.2.1) (x.2.2.2))
noncomputable def slices_IndexFunc_impl_Slot_impl_Slot_k2_1 (A : List (List TC)) (cap0 : List TC) (m : Int) (i : Int) : Bool := A.all (fun x => !(impl_ValidCache_1_v ((nth x 0).int) ((nth x 1).int) ((nth x 2).str) ((nth x 3).bool) cap0))
noncomputable def slices_IndexFunc_impl_Slot_impl_Slot_o2_2 (A : List (List TC)) (cap0 : List TC) (m : Int) (i : Int) : Bool := is (i = 0 ∧ Typed tab (.slice 87) (.l A) ∧ m = (A.length : Int))
noncomputable def slices_IndexFunc_impl_Slot_impl_Slot_o2_3 (A : List (List TC)) (cap0 : List TC) (m : Int) (i : Int) : Bool := is (i = 0 ∧ Typed tab (.slice 87) (.l A) ∧ m = (A.length : Int))
noncomputable def slices_IndexFunc_impl_Slot_impl_Slot_u2_3 (A : List (List TC)) (cap0 : List TC) (m : Int) (i : Int) : Int := (Int.ofNat (A.findIdx fun x => !(fun x => !(impl_ValidCache_1_v ((nth x 0).int) ((nth x 1).int) ((nth x 2).str) ((nth x 3).bool) cap0)) x))
noncomputable def slices_IndexFunc_impl_Slot_impl_Slot_2_fin (A : List (List TC)) (cap0 : List TC) (m : Int) (i : Int) : Told slices_IndexFunc_impl_Slot_impl_Slot_2_ω := (.br (slices_IndexFunc_impl_Slot_impl_Slot_k2_1 A cap0 m i) (.leaf (slices_IndexFunc_impl_Slot_impl_Slot_o2_2 A cap0 m i) (.inr ())) (.leaf (slices_IndexFunc_impl_Slot_impl_Slot_o2_3 A cap0 m i) (.inl (slices_IndexFunc_impl_Slot_impl_Slot_u2_3 A cap0 m i))))
def slices_IndexFunc_impl_Slot_impl_Slot_2_sl (x : slices_IndexFunc_impl_Slot_impl_Slot_2_σ) : List Slot := [⟨.val false [⟨.slice 87, .sh, TC.l (x.1)⟩], ⟨0, 0⟩⟩, ⟨.val false [⟨.func, .sh, TC.f 82 [(87, x.2.1)]⟩], ⟨0, 0⟩⟩, ⟨.val false [⟨.int .i64, .sh, TC.i (x.2.2.1)⟩], ⟨0, 0⟩⟩, ⟨.val false [⟨.int .i64, .sh, TC.i (x.2.2.2)⟩], ⟨0, 0⟩⟩]
def slices_IndexFunc_impl_Slot_impl_Slot_2_out : slices_IndexFunc_impl_Slot_impl_Slot_2_ω → Ex × List Slot := (Sum.elim (fun x => (.ret, [⟨.val false [⟨.int .i64, .sh, TC.i x⟩], ⟨0, 0⟩⟩])) (fun x => (.exit 0, [Slot.none])))
noncomputable def slices_IndexFunc_impl_Slot_impl_Slot_lo2 : List Slot → Option (Told (Ex × List Slot)) := fun s => match s with
  | [⟨.val false [⟨.slice 87, .sh, TC.l A⟩], ⟨0, 0⟩⟩, ⟨.val false [⟨.func, .sh, TC.f 82 [(87, cap0)]⟩], ⟨0, 0⟩⟩, ⟨.val false [⟨.int .i64, .sh, TC.i m⟩], ⟨0, 0⟩⟩, ⟨.val false [⟨.int .i64, .sh, TC.i i⟩], ⟨0, 0⟩⟩] => some (((slices_IndexFunc_impl_Slot_impl_Slot_2_fin A cap0 m i)).map slices_IndexFunc_impl_Slot_impl_Slot_2_out)
  | _ => .none
noncomputable def slices_IndexFunc_impl_Slot_impl_Slot_lo : LoopTeller := fun r s => bif Nat.beq r 2 then slices_IndexFunc_impl_Slot_impl_Slot_lo2 s else .none
theorem slices_IndexFunc_impl_Slot_impl_Slot_2_r (A : List (List TC)) (cap0 : List TC) (m : Int) (i : Int) (fuel : Nat) : rounds (rnd tab FT D17 live 122 slices_IndexFunc_impl_Slot_impl_Slot_lo 0 2) leave (fuel + 1) (slices_IndexFunc_impl_Slot_impl_Slot_2_sl (A, cap0, m, i)) = ((slices_IndexFunc_impl_Slot_impl_Slot_2_step A cap0 m i)).run (goOn (fun s => rounds (rnd tab FT D17 live 122 slices_IndexFunc_impl_Slot_impl_Slot_lo 0 2) leave fuel (slices_IndexFunc_impl_Slot_impl_Slot_2_sl s)) fun w => some (slices_IndexFunc_impl_Slot_impl_Slot_2_out w)) := by kernel_rfl
theorem slices_IndexFunc_impl_Slot_impl_Slot_2_h (A : List (List TC)) (cap0 : List TC) (m : Int) (i : Int) (ow : slices_IndexFunc_impl_Slot_impl_Slot_2_ω) : ((slices_IndexFunc_impl_Slot_impl_Slot_2_fin A cap0 m i)).val = some ow → ∃ fuel, loopN slices_IndexFunc_impl_Slot_impl_Slot_2_st fuel (A, cap0, m, i) = some ow := by
  intro h
  have key : Typed tab (.slice 87) (.l A) → loopN slices_IndexFunc_impl_Slot_impl_Slot_2_st (A.length + 1) (A, cap0, (A.length : Int), (0 : Int)) = some (if A.all (fun x => !(impl_ValidCache_1_v ((nth x 0).int) ((nth x 1).int) ((nth x 2).str) ((nth x 3).bool) cap0)) = true then (.inr ()) else (.inl (Int.ofNat (A.findIdx fun x => !(fun x => !(impl_ValidCache_1_v ((nth x 0).int) ((nth x 1).int) ((nth x 2).str) ((nth x 3).bool) cap0)) x)))) := by
    intro ht
    have hlen : A.length ≤ 140737488351232 := by have := typed_room ht; simp only [show (tab 87).bytes = 40 from rfl] at this; omega
    have key := loopN_scan (step := slices_IndexFunc_impl_Slot_impl_Slot_2_st) A [] (fun x => !(impl_ValidCache_1_v ((nth x 0).int) ((nth x 1).int) ((nth x 2).str) ((nth x 3).bool) cap0)) (fun a _ => a) (fun i a => (A, cap0, (A.length : Int), (i : Int))) (fun a => (.inr ())) (fun i a => (.inl (i : Int))) (fun i a hi => ?_) (fun a => ?_) A.length 0 () (by omega)
    · first | (rw [Nat.zero_add] at key; exact key) | exact key
    · have c2 : Typed tab (.str) (.s (nth (A.getD i []) 2).str) := typed_s (typed_cell ht (A.getD i []) (mem_getD hi) 2 (by decide))
      show (slices_IndexFunc_impl_Slot_impl_Slot_2_step A cap0 (A.length : Int) (i : Int)).val = _
      unfold slices_IndexFunc_impl_Slot_impl_Slot_2_step
      refine Tr.t (by simp; omega) ?_
      skip
      refine Tr.t (by first | omega | (constructor <;> omega)) ?_
      refine Tr.b2 (fun hP => ?_) (fun _ => rfl)
      rw [Tr.val_ok, wrap64 (i := (i : Int) + 1) (by omega) (by omega)]; rfl
    · show (slices_IndexFunc_impl_Slot_impl_Slot_2_step A cap0 (A.length : Int) (A.length : Int)).val = _
      refine Tr.n (by simp) ?_
      rfl
  simp only [slices_IndexFunc_impl_Slot_impl_Slot_2_fin, Told.val] at h
  cases hk : A.all (fun x => !(impl_ValidCache_1_v ((nth x 0).int) ((nth x 1).int) ((nth x 2).str) ((nth x 3).bool) cap0)) with
  | true =>
    rw [if_pos (show slices_IndexFunc_impl_Slot_impl_Slot_k2_1 A cap0 m i = true from hk)] at h
    split at h
    · rename_i ho
      obtain ⟨rfl, ht, rfl⟩ := is_iff.1 ho
      cases h
      refine ⟨_, (key ht).trans ?_⟩
      rw [hk]; rfl
    · cases h
  | false =>
    rw [if_neg (show ¬slices_IndexFunc_impl_Slot_impl_Slot_k2_1 A cap0 m i = true from by rw [show slices_IndexFunc_impl_Slot_impl_Slot_k2_1 A cap0 m i = (A.all (fun x => !(impl_ValidCache_1_v ((nth x 0).int) ((nth x 1).int) ((nth x 2).str) ((nth x 3).bool) cap0))) from rfl, hk]; simp)] at h
    split at h
    · rename_i ho
      obtain ⟨rfl, ht, rfl⟩ := is_iff.1 ho
      cases h
      refine ⟨_, (key ht).trans ?_⟩
      rw [hk]; rfl
    · cases h
theorem slices_IndexFunc_impl_Slot_impl_Slot_is2 : LoopIs tab FT D17 live 122 slices_IndexFunc_impl_Slot_impl_Slot_lo 0 2 := by
  refine loop_told (sl := slices_IndexFunc_impl_Slot_impl_Slot_2_sl) (step := slices_IndexFunc_impl_Slot_impl_Slot_2_st) (out := slices_IndexFunc_impl_Slot_impl_Slot_2_out) (lor := slices_IndexFunc_impl_Slot_impl_Slot_lo2) (fin := fun x => (slices_IndexFunc_impl_Slot_impl_Slot_2_fin (x.1) (x.2.1) (x.2.2.1) (x.2.2.2))) (fun _ => rfl) ?_ (fun x n => slices_IndexFunc_impl_Slot_impl_Slot_2_r x.1 x.2.1 x.2.2.1 x.2.2.2 n) (fun x ow => slices_IndexFunc_impl_Slot_impl_Slot_2_h x.1 x.2.1 x.2.2.1 x.2.2.2 ow)
  intro s t h
  unfold slices_IndexFunc_impl_Slot_impl_Slot_lo2 at h
  split at h
  · cases h; exact ⟨(_, _, _, _), rfl, rfl⟩
  · cases h
noncomputable def slices_IndexFunc_impl_Slot_impl_Slot_t (A : List (List TC)) (cap0 : List TC) : Tr (Int) := (.ite ((slices_IndexFunc_impl_Slot_impl_Slot_k2_1 A cap0 (A.length : Int) (0 : Int)) = true) (.ite ((slices_IndexFunc_impl_Slot_impl_Slot_o2_2 A cap0 (A.length : Int) (0 : Int)) = true) (.ok (-1 : Int))
   .no)
  (.ite ((slices_IndexFunc_impl_Slot_impl_Slot_o2_3 A cap0 (A.length : Int) (0 : Int)) = true) (.ok (slices_IndexFunc_impl_Slot_impl_Slot_u2_3 A cap0 (A.length : Int) (0 : Int)))
   .no))
def slices_IndexFunc_impl_Slot_impl_Slot_mk (p : Int) : Res := [(false, [⟨.int .i64, .sh, TC.i p⟩])]
noncomputable def slices_IndexFunc_impl_Slot_impl_Slot_c (A : List (List TC)) (cap0 : List TC) : Bool := is (Typed tab (.slice 87) (.l A))
noncomputable def slices_IndexFunc_impl_Slot_impl_Slot_v (A : List (List TC)) (cap0 : List TC) : Int := if (A.all (fun x => !(impl_ValidCache_1_v ((nth x 0).int) ((nth x 1).int) ((nth x 2).str) ((nth x 3).bool) cap0))) = true then -1 else (Int.ofNat (A.findIdx fun x => !(fun x => !(impl_ValidCache_1_v ((nth x 0).int) ((nth x 1).int) ((nth x 2).str) ((nth x 3).bool) cap0)) x))
theorem slices_IndexFunc_impl_Slot_impl_Slot_l (A : List (List TC)) (cap0 : List TC) : (slices_IndexFunc_impl_Slot_impl_Slot_c A cap0) = true → (slices_IndexFunc_impl_Slot_impl_Slot_t A cap0).val = some (slices_IndexFunc_impl_Slot_impl_Slot_v A cap0) := by
  intro h
  have ht := is_iff.1 h
  unfold slices_IndexFunc_impl_Slot_impl_Slot_t
  cases hk : A.all (fun x => !(impl_ValidCache_1_v ((nth x 0).int) ((nth x 1).int) ((nth x 2).str) ((nth x 3).bool) cap0)) with
  | true =>
    refine Tr.t (show A.all (fun x => !(impl_ValidCache_1_v ((nth x 0).int) ((nth x 1).int) ((nth x 2).str) ((nth x 3).bool) cap0)) = true from hk) ?_
    refine Tr.t (by first | (apply is_true; and_intros <;> (first | rfl | assumption | (apply spec_l22Ok_cc <;> assumption) | (first | (apply is_true; and_intros <;> (first | rfl | assumption | (apply spec_l22Ok_cc <;> assumption) | (first | (apply is_true; and_intros <;> (first | rfl | assumption | (apply spec_l22Ok_cc <;> assumption) | (first | (apply is_true; and_intros <;> (first | rfl | assumption | (apply spec_l22Ok_cc <;> assumption))) | (apply spec_l22Ok_cc <;> assumption)))) | (apply spec_l22Ok_cc <;> assumption)))) | (apply spec_l22Ok_cc <;> assumption)))) | (apply spec_l22Ok_cc <;> assumption)) ?_
    show _ = some (slices_IndexFunc_impl_Slot_impl_Slot_v A cap0); unfold slices_IndexFunc_impl_Slot_impl_Slot_v; rw [if_pos hk]; rfl
  | false =>
    refine Tr.n (show ¬A.all (fun x => !(impl_ValidCache_1_v ((nth x 0).int) ((nth x 1).int) ((nth x 2).str) ((nth x 3).bool) cap0)) = true from by rw [hk]; simp) ?_
    refine Tr.t (by first | (apply is_true; and_intros <;> (first | rfl | assumption | (apply spec_l22Ok_cc <;> assumption) | (first | (apply is_true; and_intros <;> (first | rfl | assumption | (apply spec_l22Ok_cc <;> assumption) | (first | (apply is_true; and_intros <;> (first | rfl | assumption | (apply spec_l22Ok_cc <;> assumption) | (first | (apply is_true; and_intros <;> (first | rfl | assumption | (apply spec_l22Ok_cc <;> assumption))) | (apply spec_l22Ok_cc <;> assumption)))) | (apply spec_l22Ok_cc <;> assumption)))) | (apply spec_l22Ok_cc <;> assumption)))) | (apply spec_l22Ok_cc <;> assumption)) ?_
    show _ = some (slices_IndexFunc_impl_Slot_impl_Slot_v A cap0); unfold slices_IndexFunc_impl_Slot_impl_Slot_v; rw [if_neg (by rw [hk]; simp)]; rfl
noncomputable def slices_IndexFunc_impl_Slot_impl_Slot_S : List Arg → Option (Bool × Res) := fun xs => match xs with
  | [(false, [(.slice 87, TC.l A)]), (false, [(.func, TC.f 82 [(87, cap0)])])] => some ((slices_IndexFunc_impl_Slot_impl_Slot_c A cap0), slices_IndexFunc_impl_Slot_impl_Slot_mk (slices_IndexFunc_impl_Slot_impl_Slot_v A cap0))
  | _ => .none
theorem slices_IndexFunc_impl_Slot_impl_Slot_e (A : List (List TC)) (cap0 : List TC) : runF tab FT D17 live 122 slices_IndexFunc_impl_Slot_impl_Slot_lo [(false, [(.slice 87, TC.l A)]), (false, [(.func, TC.f 82 [(87, cap0)])])] = (slices_IndexFunc_impl_Slot_impl_Slot_t A cap0).run fun p => some (slices_IndexFunc_impl_Slot_impl_Slot_mk p) := by kernel_rfl
theorem slices_IndexFunc_impl_Slot_impl_Slot_s : ∀ xs r, slices_IndexFunc_impl_Slot_impl_Slot_S xs = some (true, r) → runF tab FT D17 live 122 slices_IndexFunc_impl_Slot_impl_Slot_lo xs = some r := by
  intro xs r h
  unfold slices_IndexFunc_impl_Slot_impl_Slot_S at h
  split at h
  · simp only [Option.some.injEq, Prod.mk.injEq] at h
    obtain ⟨h1, rfl⟩ := h
    exact fun_told (slices_IndexFunc_impl_Slot_impl_Slot_e _ _) (slices_IndexFunc_impl_Slot_impl_Slot_l _ _) h1
  · cases h
noncomputable def D18 : Dt := also D17 122 slices_IndexFunc_impl_Slot_impl_Slot_S
theorem d18 : DOk Go.Proofs.Try.prog tab D18 := d17.also mixed_ok tab_ok names_ok (fnLoops_one (by kernel_rfl) slices_IndexFunc_impl_Slot_impl_Slot_is2) slices_IndexFunc_impl_Slot_impl_Slot_s
/-! slices_ContainsFunc_impl_Slot_impl_Slot -/
noncomputable def slices_ContainsFunc_impl_Slot_impl_Slot_t (A : List (List TC)) (cap0 : List TC) : Tr (Bool) := (.ite ((slices_IndexFunc_impl_Slot_impl_Slot_c A cap0) = true) (.ok (decide ((slices_IndexFunc_impl_Slot_impl_Slot_v A cap0) ≥ (0 : Int))))
  .no)
def slices_ContainsFunc_impl_Slot_impl_Slot_mk (p : Bool) : Res := [(false, [⟨.bool, .sh, TC.b p⟩])]
noncomputable def slices_ContainsFunc_impl_Slot_impl_Slot_c (A : List (List TC)) (cap0 : List TC) : Bool := is (Typed tab (.slice 87) (.l A))
noncomputable def slices_ContainsFunc_impl_Slot_impl_Slot_v (A : List (List TC)) (cap0 : List TC) : Bool := !(A.all (fun x => !(impl_ValidCache_1_v ((nth x 0).int) ((nth x 1).int) ((nth x 2).str) ((nth x 3).bool) cap0)))
theorem slices_ContainsFunc_impl_Slot_impl_Slot_l (A : List (List TC)) (cap0 : List TC) : (slices_ContainsFunc_impl_Slot_impl_Slot_c A cap0) = true → (slices_ContainsFunc_impl_Slot_impl_Slot_t A cap0).val = some (slices_ContainsFunc_impl_Slot_impl_Slot_v A cap0) := by
  intro h
  have ht := is_iff.1 h
  unfold slices_ContainsFunc_impl_Slot_impl_Slot_t
  refine Tr.t (by first | (apply is_true; and_intros <;> (first | rfl | assumption | (apply spec_l22Ok_cc <;> assumption) | (first | (apply is_true; and_intros <;> (first | rfl | assumption | (apply spec_l22Ok_cc <;> assumption) | (first | (apply is_true; and_intros <;> (first | rfl | assumption | (apply spec_l22Ok_cc <;> assumption) | (first | (apply is_true; and_intros <;> (first | rfl | assumption | (apply spec_l22Ok_cc <;> assumption))) | (apply spec_l22Ok_cc <;> assumption)))) | (apply spec_l22Ok_cc <;> assumption)))) | (apply spec_l22Ok_cc <;> assumption)))) | (apply spec_l22Ok_cc <;> assumption)) ?_
  show some (decide (slices_IndexFunc_impl_Slot_impl_Slot_v A cap0 ≥ 0)) = some (!(A.all (fun x => !(impl_ValidCache_1_v ((nth x 0).int) ((nth x 1).int) ((nth x 2).str) ((nth x 3).bool) cap0))))
  unfold slices_IndexFunc_impl_Slot_impl_Slot_v
  cases hk : A.all (fun x => !(impl_ValidCache_1_v ((nth x 0).int) ((nth x 1).int) ((nth x 2).str) ((nth x 3).bool) cap0)) <;> simp
noncomputable def slices_ContainsFunc_impl_Slot_impl_Slot_S : List Arg → Option (Bool × Res) := fun xs => match xs with
  | [(false, [(.slice 87, TC.l A)]), (false, [(.func, TC.f 82 [(87, cap0)])])] => some ((slices_ContainsFunc_impl_Slot_impl_Slot_c A cap0), slices_ContainsFunc_impl_Slot_impl_Slot_mk (slices_ContainsFunc_impl_Slot_impl_Slot_v A cap0))
  | _ => .none
theorem slices_ContainsFunc_impl_Slot_impl_Slot_e (A : List (List TC)) (cap0 : List TC) : runF tab FT D18 live 81 noLoops [(false, [(.slice 87, TC.l A)]), (false, [(.func, TC.f 82 [(87, cap0)])])] = (slices_ContainsFunc_impl_Slot_impl_Slot_t A cap0).run fun p => some (slices_ContainsFunc_impl_Slot_impl_Slot_mk p) := by kernel_rfl
theorem slices_ContainsFunc_impl_Slot_impl_Slot_s : ∀ xs r, slices_ContainsFunc_impl_Slot_impl_Slot_S xs = some (true, r) → runF tab FT D18 live 81 noLoops xs = some r := by
  intro xs r h
  unfold slices_ContainsFunc_impl_Slot_impl_Slot_S at h
  split at h
  · simp only [Option.some.injEq, Prod.mk.injEq] at h
    obtain ⟨h1, rfl⟩ := h
    exact fun_told (slices_ContainsFunc_impl_Slot_impl_Slot_e _ _) (slices_ContainsFunc_impl_Slot_impl_Slot_l _ _) h1
  · cases h
noncomputable def D19 : Dt := also D18 81 slices_ContainsFunc_impl_Slot_impl_Slot_S
theorem d19 : DOk Go.Proofs.Try.prog tab D19 := d18.also mixed_ok tab_ok names_ok noLoops_ok slices_ContainsFunc_impl_Slot_impl_Slot_s
/-! impl_ValidCache -/
noncomputable def impl_ValidCache_f4 (s : Int) (Q : List (List TC)) (h : Int) (mi : Int) (w : Int) (A : List (List TC)) (m : Int) (i : Int) : (Unit) ⊕ ((Unit) ⊕ (Unit)) := (bif (!(impl_slotOk_v ((nth (row A i) 0).int) ((nth (row A i) 1).int) ((nth (row A i) 2).str) ((nth (row A i) 3).bool))) then (.inr (.inl ())) else (bif (slices_ContainsFunc_impl_Slot_impl_Slot_v ((Q.take (i).toNat).drop ((0 : Int)).toNat) [TC.i ((nth (row A i) 0).int), TC.i ((nth (row A i) 1).int), TC.s ((nth (row A i) 2).str), TC.b ((nth (row A i) 3).bool)]) then (.inr (.inl ())) else (.inl ())))
noncomputable def impl_ValidCache_e4 (s : Int) (Q : List (List TC)) (h : Int) (mi : Int) (w : Int) (A : List (List TC)) (m : Int) : (Unit) ⊕ (Unit) := .inr ()
noncomputable def impl_ValidCache_R4 (s : Int) (Q : List (List TC)) (h : Int) (mi : Int) (w : Int) (A : List (List TC)) (m : Int) (i : Int) : (Unit) ⊕ (Unit) := iter (fun i a => (impl_ValidCache_f4 s Q h mi w A m (i : Int))) (fun a => (impl_ValidCache_e4 s Q h mi w A m)) (A.length) 0 ()
abbrev impl_ValidCache_4_σ := Int × List (List TC) × Int × Int × Int × List (List TC) × Int × Int
abbrev impl_ValidCache_4_ω := (Unit) ⊕ (Unit)
noncomputable def impl_ValidCache_4_step (s : Int) (Q : List (List TC)) (h : Int) (mi : Int) (w : Int) (A : List (List TC)) (m : Int) (i : Int) : Tr (impl_ValidCache_4_σ ⊕ impl_ValidCache_4_ω) := (.ite ((decide (i < m)) = true) (.ite ((0 : Int) ≤ i ∧ i < (A.length : Int)) (.ite ((!(impl_slotOk_v ((nth (row A i) 0).int) ((nth (row A i) 1).int) ((nth (row A i) 2).str) ((nth (row A i) 3).bool))) = true) (.ok (.inr (.inl ())))
    (.ite ((0 : Int) ≤ (0 : Int) ∧ (0 : Int) ≤ i ∧ i ≤ (Q.length : Int)) (.ite ((slices_ContainsFunc_impl_Slot_impl_Slot_c ((Q.take (i).toNat).drop ((0 : Int)).toNat) [TC.i ((nth (row A i) 0).int), TC.i ((nth (row A i) 1).int), TC.s ((nth (row A i) 2).str), TC.b ((nth (row A i) 3).bool)]) = true) (.ite ((slices_ContainsFunc_impl_Slot_impl_Slot_v ((Q.take (i).toNat).drop ((0 : Int)).toNat) [TC.i ((nth (row A i) 0).int), TC.i ((nth (row A i) 1).int), TC.s ((nth (row A i) 2).str), TC.b ((nth (row A i) 3).bool)]) = true) (.ok (.inr (.inl ())))
       (.ok (.inl (s, Q, h, mi, w, A, m, (IntKind.wrap .i64 (i + (1 : Int)))))))
      .no)
     .no))
   .no)
  (.ok (.inr (.inr ()))))
noncomputable def impl_ValidCache_4_st : impl_ValidCache_4_σ → Tr (impl_ValidCache_4_σ ⊕ impl_ValidCache_4_ω) := fun x => (impl_ValidCache_4_step (x.1) (x.2.1) (x.2.2.1) (x.2.2.2.1) (x.2.2.2.2.1) (x.2.2.2.2.2.1) (x.2.2.2.2.2.2.1) (x.2.2.2.2.2.2.2))
noncomputable def impl_ValidCache_k4_1 (s : Int) (Q : List (List TC)) (h : Int) (mi : Int) (w : Int) (A : List (List TC)) (m : Int) (i : Int) : Bool := sumIs (impl_ValidCache_R4 s Q h mi w A m i)
noncomputable def impl_ValidCache_o4_2 (s : Int) (Q : List (List TC)) (h : Int) (mi : Int) (w : Int) (A : List (List TC)) (m : Int) (i : Int) : Bool := is (i = 0 ∧ Typed tab (.slice 87) (.l A) ∧ m = (A.length : Int) ∧ A = Q)
noncomputable def impl_ValidCache_o4_3 (s : Int) (Q : List (List TC)) (h : Int) (mi : Int) (w : Int) (A : List (List TC)) (m : Int) (i : Int) : Bool := is (i = 0 ∧ Typed tab (.slice 87) (.l A) ∧ m = (A.length : Int) ∧ A = Q)
noncomputable def impl_ValidCache_4_fin (s : Int) (Q : List (List TC)) (h : Int) (mi : Int) (w : Int) (A : List (List TC)) (m : Int) (i : Int) : Told impl_ValidCache_4_ω := (.br (impl_ValidCache_k4_1 s Q h mi w A m i) (.leaf (impl_ValidCache_o4_2 s Q h mi w A m i) (.inl ())) (.leaf (impl_ValidCache_o4_3 s Q h mi w A m i) (.inr ())))
def impl_ValidCache_4_sl (x : impl_ValidCache_4_σ) : List Slot := [⟨.bx 24 [⟨.int .i64, .sh, TC.i (x.1)⟩, ⟨.slice 87, .sh, TC.l (x.2.1)⟩, ⟨.int .i64, .sh, TC.i (x.2.2.1)⟩, ⟨.int .i64, .sh, TC.i (x.2.2.2.1)⟩, ⟨.int .i64, .sh, TC.i (x.2.2.2.2.1)⟩], ⟨0, 0⟩⟩, ⟨.val false [⟨.slice 87, .sh, TC.l (x.2.2.2.2.2.1)⟩], ⟨0, 0⟩⟩, ⟨.val false [⟨.int .i64, .sh, TC.i (x.2.2.2.2.2.2.1)⟩], ⟨0, 0⟩⟩, ⟨.val false [⟨.int .i64, .sh, TC.i (x.2.2.2.2.2.2.2)⟩], ⟨0, 0⟩⟩]
def impl_ValidCache_4_out : impl_ValidCache_4_ω → Ex × List Slot := (Sum.elim (fun x => (.ret, [⟨.val false [⟨.bool, .sh, TC.b false⟩], ⟨0, 0⟩⟩])) (fun x => (.exit 0, [Slot.none])))
noncomputable def impl_ValidCache_lo4 : List Slot → Option (Told (Ex × List Slot)) := fun s => match s with
  | [⟨.bx 24 [⟨.int .i64, .sh, TC.i s⟩, ⟨.slice 87, .sh, TC.l Q⟩, ⟨.int .i64, .sh, TC.i h⟩, ⟨.int .i64, .sh, TC.i mi⟩, ⟨.int .i64, .sh, TC.i w⟩], ⟨0, 0⟩⟩, ⟨.val false [⟨.slice 87, .sh, TC.l A⟩], ⟨0, 0⟩⟩, ⟨.val false [⟨.int .i64, .sh, TC.i m⟩], ⟨0, 0⟩⟩, ⟨.val false [⟨.int .i64, .sh, TC.i i⟩], ⟨0, 0⟩⟩] => some (((impl_ValidCache_4_fin s Q h mi w A m i)).map impl_ValidCache_4_out)
  | _ => .none
noncomputable def impl_ValidCache_lo : LoopTeller := fun r s => bif Nat.beq r 4 then impl_ValidCache_lo4 s else .none
theorem impl_ValidCache_4_r (s : Int) (Q : List (List TC)) (h : Int) (mi : Int) (w : Int) (A : List (List TC)) (m : Int) (i : Int) (fuel : Nat) : rounds (rnd tab FT D19 live 41 impl_ValidCache_lo 0 4) leave (fuel + 1) (impl_ValidCache_4_sl (s, Q, h, mi, w, A, m, i)) = ((impl_ValidCache_4_step s Q h mi w A m i)).run (goOn (fun s => rounds (rnd tab FT D19 live 41 impl_ValidCache_lo 0 4) leave fuel (impl_ValidCache_4_sl s)) fun w => some (impl_ValidCache_4_out w)) := by kernel_rfl
theorem impl_ValidCache_f4_eq (s h mi w : Int) (A : List (List TC)) (m : Int) (i : Nat) (hi : i < A.length) : impl_ValidCache_f4 s A h mi w A m (i : Int) = bif vslot A (i : Int) then Sum.inl () else Sum.inr (Sum.inl ()) := by
  unfold impl_ValidCache_f4
  have e1 : impl_slotOk_v ((nth (row A (i : Int)) 0).int) ((nth (row A (i : Int)) 1).int) ((nth (row A (i : Int)) 2).str) ((nth (row A (i : Int)) 3).bool) = slotOkR (row A (i : Int)) := by
    unfold impl_slotOk_v slotOkR
    rw [show impl_within_v (nth (row A (i : Int)) 0).int 1 255 = inB (nth (row A (i : Int)) 0).int 1 255 from rfl, show impl_within_v (nth (row A (i : Int)) 1).int 0 4095 = inB (nth (row A (i : Int)) 1).int 0 4095 from rfl, show impl_within_v ((nth (row A (i : Int)) 2).str.length : Int) 1 512 = inB ((nth (row A (i : Int)) 2).str.length : Int) 1 512 from rfl]
    cases inB (nth (row A (i : Int)) 0).int 1 255 <;> cases inB (nth (row A (i : Int)) 1).int 0 4095 <;> cases inB ((nth (row A (i : Int)) 2).str.length : Int) 1 512 <;> rfl
  have e2 : slices_ContainsFunc_impl_Slot_impl_Slot_v ((A.take ((i : Int)).toNat).drop ((0 : Int)).toNat) [TC.i ((nth (row A (i : Int)) 0).int), TC.i ((nth (row A (i : Int)) 1).int), TC.s ((nth (row A (i : Int)) 2).str), TC.b ((nth (row A (i : Int)) 3).bool)] = !(noDup A (i : Int)) := by
    unfold slices_ContainsFunc_impl_Slot_impl_Slot_v noDup
    rw [Int.toNat_natCast, show ((0 : Int)).toNat = 0 from rfl, List.drop_zero, allI_take (by omega)]
    refine congrArg (fun b => !b) (allI_congr fun k _ => ?_)
    unfold dupB
    show (!(impl_ValidCache_1_v _ _ _ _ _)) = _
    unfold impl_ValidCache_1_v impl_Slot_isFor_v
    show (!(bif ((nth (row A (k : Int)) 0).int == (nth (row A (i : Int)) 0).int) then ((nth (row A (k : Int)) 1).int == (nth (row A (i : Int)) 1).int) else false)) = _
    cases ((nth (row A (k : Int)) 0).int == (nth (row A (i : Int)) 0).int) <;> rfl
  rw [e1, e2]
  unfold vslot
  cases slotOkR (row A (i : Int)) <;> cases noDup A (i : Int) <;> rfl
theorem impl_ValidCache_R4_eq (s h mi w : Int) (A : List (List TC)) (m : Int) : impl_ValidCache_R4 s A h mi w A m 0 = bif allI (fun i : Nat => vslot A (i : Int)) A.length then Sum.inr () else Sum.inl () := by
  unfold impl_ValidCache_R4
  exact (iter_all (P := fun i : Nat => vslot A (i : Int)) (g := fun _ a => a) (w := Sum.inl ()) fun j a hj => impl_ValidCache_f4_eq s h mi w A m j hj)
theorem impl_ValidCache_4_h (s : Int) (Q : List (List TC)) (h : Int) (mi : Int) (w : Int) (A : List (List TC)) (m : Int) (i : Int) (ow : impl_ValidCache_4_ω) : ((impl_ValidCache_4_fin s Q h mi w A m i)).val = some ow → ∃ fuel, loopN impl_ValidCache_4_st fuel (s, Q, h, mi, w, A, m, i) = some ow := by
  refine auto_const (R := (impl_ValidCache_R4 s Q h mi w A m i)) rfl (iter_onR (f := (fun i a => (impl_ValidCache_f4 s Q h mi w A m (i : Int)))) (fin := (fun a => (impl_ValidCache_e4 s Q h mi w A m))) (Q := endsAs () ()) (fun i a => by unfold impl_ValidCache_f4; exact (onR_bif rfl (onR_bif rfl trivial))) (fun _ => rfl) _ _ _) ?_
  intro ho
  have ho : is (i = 0 ∧ Typed tab (.slice 87) (.l A) ∧ m = (A.length : Int) ∧ A = Q) = true := ho.elim id id
  obtain ⟨rfl, ht, rfl, rfl⟩ := is_iff.1 ho
  have hlen : A.length ≤ 140737488351232 := by have := typed_room ht; simp only [show (tab 87).bytes = 40 from rfl] at this; omega
  refine ⟨(A.length) + 1, ?_⟩
  refine iter_loop (step := impl_ValidCache_4_st) (A.length) (fun i a => (impl_ValidCache_f4 s A h mi w A (A.length : Int) (i : Int))) (fun a => (impl_ValidCache_e4 s A h mi w A (A.length : Int))) (fun i a => (s, A, h, mi, w, A, (A.length : Int), (i : Int))) (fun _ _ => True) trivial (fun i a hi hI => ⟨?_, fun _ _ => trivial⟩) (fun a hI => ?_)
  · show (impl_ValidCache_4_step s A h mi w A (A.length : Int) (i : Int)).val = _
    unfold impl_ValidCache_4_step impl_ValidCache_f4
    skip
    refine Tr.t (by simp; omega) ?_
    exact (Tr.t (by first | omega | (constructor <;> omega) | (exact is_true (typed_take ht)) | (exact slices_ContainsFunc_impl_Slot_impl_Slot_cc (typed_take ht))) (Tr.bf rfl (Tr.t (by first | omega | (constructor <;> omega) | (exact is_true (typed_take ht)) | (exact slices_ContainsFunc_impl_Slot_impl_Slot_cc (typed_take ht))) (Tr.t (by first | (exact is_true (typed_take ht)) | (exact slices_ContainsFunc_impl_Slot_impl_Slot_cc (typed_take ht)) | (first | (apply is_true; and_intros <;> (first | rfl | assumption | (apply spec_l22Ok_cc <;> assumption) | (first | (apply is_true; and_intros <;> (first | rfl | assumption | (apply spec_l22Ok_cc <;> assumption) | (first | (apply is_true; and_intros <;> (first | rfl | assumption | (apply spec_l22Ok_cc <;> assumption))) | (apply spec_l22Ok_cc <;> assumption)))) | (apply spec_l22Ok_cc <;> assumption)))) | (apply spec_l22Ok_cc <;> assumption))) (Tr.bf rfl (by rw [Tr.val_ok, wrap64 (i := (i : Int) + 1) (by omega) (by omega)]; rfl))))))
  · show (impl_ValidCache_4_step s A h mi w A (A.length : Int) (A.length : Int)).val = _
    refine Tr.n (by first | (simp; done) | (simp; omega) | omega) ?_
    rfl
theorem impl_ValidCache_is4 : LoopIs tab FT D19 live 41 impl_ValidCache_lo 0 4 := by
  refine loop_told (sl := impl_ValidCache_4_sl) (step := impl_ValidCache_4_st) (out := impl_ValidCache_4_out) (lor := impl_ValidCache_lo4) (fin := fun x => (impl_ValidCache_4_fin (x.1) (x.2.1) (x.2.2.1) (x.2.2.2.1) (x.2.2.2.2.1) (x.2.2.2.2.2.1) (x.2.2.2.2.2.2.1) (x.2.2.2.2.2.2.2))) (fun _ => rfl) ?_ (fun x n => impl_ValidCache_4_r x.1 x.2.1 x.2.2.1 x.2.2.2.1 x.2.2.2.2.1 x.2.2.2.2.2.1 x.2.2.2.2.2.2.1 x.2.2.2.2.2.2.2 n) (fun x ow => impl_ValidCache_4_h x.1 x.2.1 x.2.2.1 x.2.2.2.1 x.2.2.2.2.1 x.2.2.2.2.2.1 x.2.2.2.2.2.2.1 x.2.2.2.2.2.2.2 ow)
  intro s t h
  unfold impl_ValidCache_lo4 at h
  split at h
  · cases h; exact ⟨(_, _, _, _, _, _, _, _), rfl, rfl⟩
  · cases h
noncomputable def impl_ValidCache_t (s : Int) (A : List (List TC)) (h : Int) (mi : Int) (w : Int) : Tr (Bool) := (.ite ((!(impl_within_v s (1 : Int) (16 : Int))) = true) (.ok false)
  (.ite ((decide ((A.length : Int) > s)) = true) (.ok false)
   (.ite ((impl_allWithin_c [[TC.i h], [TC.i mi], [TC.i w]] (0 : Int) (1000000 : Int)) = true) (.ite ((!(impl_allWithin_v [[TC.i h], [TC.i mi], [TC.i w]] (0 : Int) (1000000 : Int))) = true) (.ok false)
     (.ite ((impl_ValidCache_k4_1 s A h mi w A (A.length : Int) (0 : Int)) = true) (.ite ((impl_ValidCache_o4_2 s A h mi w A (A.length : Int) (0 : Int)) = true) (.ok false)
       .no)
      (.ite ((impl_ValidCache_o4_3 s A h mi w A (A.length : Int) (0 : Int)) = true) (.ok true)
       .no)))
    .no)))
def impl_ValidCache_mk (p : Bool) : Res := [(false, [⟨.bool, .sh, TC.b p⟩])]
noncomputable def impl_ValidCache_c (s : Int) (A : List (List TC)) (h : Int) (mi : Int) (w : Int) : Bool := (bif (!(impl_within_v s (1 : Int) (16 : Int))) then true else (bif (decide ((A.length : Int) > s)) then true else ((impl_allWithin_c [[TC.i h], [TC.i mi], [TC.i w]] (0 : Int) (1000000 : Int)) && (bif (!(impl_allWithin_v [[TC.i h], [TC.i mi], [TC.i w]] (0 : Int) (1000000 : Int))) then true else (bif (impl_ValidCache_k4_1 s A h mi w A (A.length : Int) (0 : Int)) then ((impl_ValidCache_o4_2 s A h mi w A (A.length : Int) (0 : Int)) && true) else ((impl_ValidCache_o4_3 s A h mi w A (A.length : Int) (0 : Int)) && true))))))
noncomputable def impl_ValidCache_v (s : Int) (A : List (List TC)) (h : Int) (mi : Int) (w : Int) : Bool := (bif (!(impl_within_v s (1 : Int) (16 : Int))) then false else (bif (decide ((A.length : Int) > s)) then false else (bif (!(impl_allWithin_v [[TC.i h], [TC.i mi], [TC.i w]] (0 : Int) (1000000 : Int))) then false else (bif (impl_ValidCache_k4_1 s A h mi w A (A.length : Int) (0 : Int)) then false else true))))
theorem impl_ValidCache_l (s : Int) (A : List (List TC)) (h : Int) (mi : Int) (w : Int) : (impl_ValidCache_c s A h mi w) = true → (impl_ValidCache_t s A h mi w).val = some (impl_ValidCache_v s A h mi w) := by
  unfold impl_ValidCache_t impl_ValidCache_v impl_ValidCache_c
  exact fun h => (Tr.ss h (fun h => rfl) (fun h => (Tr.ss h (fun h => rfl) (fun h => (Tr.gb h fun h => (Tr.ss h (fun h => rfl) (fun h => (Tr.ss h (fun h => (Tr.gb h fun h => rfl)) (fun h => (Tr.gb h fun h => rfl))))))))))
noncomputable def impl_ValidCache_S : List Arg → Option (Bool × Res) := fun xs => match xs with
  | [(true, [(.int .i64, TC.i s), (.slice 87, TC.l A), (.int .i64, TC.i h), (.int .i64, TC.i mi), (.int .i64, TC.i w)])] => some ((impl_ValidCache_c s A h mi w), impl_ValidCache_mk (impl_ValidCache_v s A h mi w))
  | _ => .none
theorem impl_ValidCache_e (s : Int) (A : List (List TC)) (h : Int) (mi : Int) (w : Int) : runF tab FT D19 live 41 impl_ValidCache_lo [(true, [(.int .i64, TC.i s), (.slice 87, TC.l A), (.int .i64, TC.i h), (.int .i64, TC.i mi), (.int .i64, TC.i w)])] = (impl_ValidCache_t s A h mi w).run fun p => some (impl_ValidCache_mk p) := by kernel_rfl
theorem impl_ValidCache_s : ∀ xs r, impl_ValidCache_S xs = some (true, r) → runF tab FT D19 live 41 impl_ValidCache_lo xs = some r := by
  intro xs r h
  unfold impl_ValidCache_S at h
  split at h
  · simp only [Option.some.injEq, Prod.mk.injEq] at h
    obtain ⟨h1, rfl⟩ := h
    exact fun_told (impl_ValidCache_e _ _ _ _ _) (impl_ValidCache_l _ _ _ _ _) h1
  · cases h
noncomputable def D20 : Dt := also D19 41 impl_ValidCache_S
theorem d20 : DOk Go.Proofs.Try.prog tab D20 := d19.also mixed_ok tab_ok names_ok (fnLoops_one (by kernel_rfl) impl_ValidCache_is4) impl_ValidCache_s
theorem impl_ValidCache_cc {s : Int} {A : List (List TC)} {h : Int} {mi : Int} {w : Int} (hA : Typed tab (.slice 87) (.l A)) (h1 : Typed tab (.int .i64) (.i h)) (h2 : Typed tab (.int .i64) (.i mi)) (h3 : Typed tab (.int .i64) (.i w)) : (impl_ValidCache_c s A h mi w) = true := by
  unfold impl_ValidCache_c
  refine bifT (fun b1 => ?_) (fun b1 => ?_)
  · skip
    rfl
  · skip
    refine bifT (fun b2 => ?_) (fun b2 => ?_)
    · skip
      rfl
    · skip
      refine andT (by exact is_true (typed_ints (l := [h, mi, w]) rfl rfl (fun n hn => by simp at hn; rcases hn with rfl | rfl | rfl <;> assumption) (by simp))) ?_
      refine bifT (fun b3 => ?_) (fun b3 => ?_)
      · skip
        rfl
      · skip
        refine bifT (fun b4 => ?_) (fun b4 => ?_)
        · skip
          refine andT (by exact is_true ⟨rfl, hA, rfl, rfl⟩) ?_
          rfl
        · skip
          refine andT (by exact is_true ⟨rfl, hA, rfl, rfl⟩) ?_
          rfl
theorem impl_ValidCache_vv (s : Int) (A : List (List TC)) (h mi w : Int) : impl_ValidCache_v s A h mi w = cacheOk s A h mi w := by
  unfold impl_ValidCache_v impl_ValidCache_k4_1 cacheOk
  rw [impl_ValidCache_R4_eq, dgt]
  rw [show impl_within_v s 1 16 = inB s 1 16 from rfl, show impl_allWithin_v [[TC.i h], [TC.i mi], [TC.i w]] 0 1000000 = (!(!(inB h 0 1000000 && (inB mi 0 1000000 && (inB w 0 1000000 && true))))) from rfl]
  cases inB s 1 16 <;> cases inB h 0 1000000 <;> cases inB mi 0 1000000 <;> cases inB w 0 1000000 <;> cases decide ((A.length : Int) ≤ s) <;> cases allI (fun i : Nat => vslot A (i : Int)) A.length <;> rfl
/-! laws_eqSlot -/
noncomputable def laws_eqSlot_t (x0 : Int) (x1 : Int) (x2 : List UInt8) (x3 : Bool) (y0 : Int) (y1 : Int) (y2 : List UInt8) (y3 : Bool) : Tr (Bool) := (.ite ((!(x0 == y0)) = true) (.ok false)
  (.ite ((!(x1 == y1)) = true) (.ok false)
   (.ite ((!(x2 == y2)) = true) (.ok false)
    (.ite ((!(x3 == y3)) = true) (.ok false)
     (.ok true)))))
def laws_eqSlot_mk (p : Bool) : Res := [(false, [⟨.bool, .sh, TC.b p⟩])]
noncomputable def laws_eqSlot_c (x0 : Int) (x1 : Int) (x2 : List UInt8) (x3 : Bool) (y0 : Int) (y1 : Int) (y2 : List UInt8) (y3 : Bool) : Bool := is (x0 = y0 ∧ x1 = y1 ∧ x2 = y2 ∧ x3 = y3 ∧ Typed tab (.str) (.s x2))
noncomputable def laws_eqSlot_v (x0 : Int) (x1 : Int) (x2 : List UInt8) (x3 : Bool) (y0 : Int) (y1 : Int) (y2 : List UInt8) (y3 : Bool) : Bool := true
theorem laws_eqSlot_l (x0 : Int) (x1 : Int) (x2 : List UInt8) (x3 : Bool) (y0 : Int) (y1 : Int) (y2 : List UInt8) (y3 : Bool) : (laws_eqSlot_c x0 x1 x2 x3 y0 y1 y2 y3) = true → (laws_eqSlot_t x0 x1 x2 x3 y0 y1 y2 y3).val = some (laws_eqSlot_v x0 x1 x2 x3 y0 y1 y2 y3) := by
  intro h
  obtain ⟨rfl, rfl, rfl, rfl, t0⟩ := is_iff.1 h
  unfold laws_eqSlot_t
  refine Tr.n (by simp) ?_
  refine Tr.n (by simp) ?_
  refine Tr.n (by simp) ?_
  refine Tr.n (by simp) ?_
  rfl
noncomputable def laws_eqSlot_S : List Arg → Option (Bool × Res) := fun xs => match xs with
  | [(true, [(.int .i64, TC.i x0), (.int .i64, TC.i x1), (.str, TC.s x2), (.bool, TC.b x3)]), (true, [(.int .i64, TC.i y0), (.int .i64, TC.i y1), (.str, TC.s y2), (.bool, TC.b y3)])] => some ((laws_eqSlot_c x0 x1 x2 x3 y0 y1 y2 y3), laws_eqSlot_mk (laws_eqSlot_v x0 x1 x2 x3 y0 y1 y2 y3))
  | _ => .none
theorem laws_eqSlot_e (x0 : Int) (x1 : Int) (x2 : List UInt8) (x3 : Bool) (y0 : Int) (y1 : Int) (y2 : List UInt8) (y3 : Bool) : runF tab FT D20 live 101 noLoops [(true, [(.int .i64, TC.i x0), (.int .i64, TC.i x1), (.str, TC.s x2), (.bool, TC.b x3)]), (true, [(.int .i64, TC.i y0), (.int .i64, TC.i y1), (.str, TC.s y2), (.bool, TC.b y3)])] = (laws_eqSlot_t x0 x1 x2 x3 y0 y1 y2 y3).run fun p => some (laws_eqSlot_mk p) := by kernel_rfl
theorem laws_eqSlot_s : ∀ xs r, laws_eqSlot_S xs = some (true, r) → runF tab FT D20 live 101 noLoops xs = some r := by
  intro xs r h
  unfold laws_eqSlot_S at h
  split at h
  · simp only [Option.some.injEq, Prod.mk.injEq] at h
    obtain ⟨h1, rfl⟩ := h
    exact fun_told (laws_eqSlot_e _ _ _ _ _ _ _ _) (laws_eqSlot_l _ _ _ _ _ _ _ _) h1
  · cases h
noncomputable def D21 : Dt := also D20 101 laws_eqSlot_S
theorem d21 : DOk Go.Proofs.Try.prog tab D21 := d20.also mixed_ok tab_ok names_ok noLoops_ok laws_eqSlot_s
/-! laws_eqSlotS -/
abbrev laws_eqSlotS_4_σ := List (List TC) × List (List TC) × Int
abbrev laws_eqSlotS_4_ω := (Unit) ⊕ (Unit)
noncomputable def laws_eqSlotS_4_step (A : List (List TC)) (C : List (List TC)) (i : Int) : Tr (laws_eqSlotS_4_σ ⊕ laws_eqSlotS_4_ω) := (.ite ((decide (i < (A.length : Int))) = true) (.ite ((0 : Int) ≤ i ∧ i < (A.length : Int)) (.ite ((0 : Int) ≤ i ∧ i < (C.length : Int)) (.ite ((laws_eqSlot_c ((nth (row A i) 0).int) ((nth (row A i) 1).int) ((nth (row A i) 2).str) ((nth (row A i) 3).bool) ((nth (row C i) 0).int) ((nth (row C i) 1).int) ((nth (row C i) 2).str) ((nth (row C i) 3).bool)) = true) (.ite ((!(laws_eqSlot_v ((nth (row A i) 0).int) ((nth (row A i) 1).int) ((nth (row A i) 2).str) ((nth (row A i) 3).bool) ((nth (row C i) 0).int) ((nth (row C i) 1).int) ((nth (row C i) 2).str) ((nth (row C i) 3).bool))) = true) (.ok (.inr (.inl ())))
      (.ok (.inl (A, C, (IntKind.wrap .i64 (i + (1 : Int)))))))
     .no)
    .no)
   .no)
  (.ok (.inr (.inr ()))))
noncomputable def laws_eqSlotS_4_st : laws_eqSlotS_4_σ → Tr (laws_eqSlotS_4_σ ⊕ laws_eqSlotS_4_ω) := fun x => (laws_eqSlotS_4_step (x.1) (x.2.1) (x.2.2))
noncomputable def laws_eqSlotS_o4_1 (A : List (List TC)) (C : List (List TC)) (i : Int) : Bool := is (A = C ∧ i = 0 ∧ Typed tab (.slice 87) (.l A))
noncomputable def laws_eqSlotS_4_fin (A : List (List TC)) (C : List (List TC)) (i : Int) : Told laws_eqSlotS_4_ω := (.leaf (laws_eqSlotS_o4_1 A C i) (.inr ()))
def laws_eqSlotS_4_sl (x : laws_eqSlotS_4_σ) : List Slot := [⟨.val false [⟨.slice 87, .sh, TC.l (x.1)⟩], ⟨0, 0⟩⟩, ⟨.val false [⟨.slice 87, .sh, TC.l (x.2.1)⟩], ⟨0, 0⟩⟩, ⟨.val false [⟨.int .i64, .sh, TC.i (x.2.2)⟩], ⟨0, 0⟩⟩]
def laws_eqSlotS_4_out : laws_eqSlotS_4_ω → Ex × List Slot := (Sum.elim (fun x => (.ret, [⟨.val false [⟨.bool, .sh, TC.b false⟩], ⟨0, 0⟩⟩])) (fun x => (.exit 0, [Slot.none])))
noncomputable def laws_eqSlotS_lo4 : List Slot → Option (Told (Ex × List Slot)) := fun s => match s with
  | [⟨.val false [⟨.slice 87, .sh, TC.l A⟩], ⟨0, 0⟩⟩, ⟨.val false [⟨.slice 87, .sh, TC.l C⟩], ⟨0, 0⟩⟩, ⟨.val false [⟨.int .i64, .sh, TC.i i⟩], ⟨0, 0⟩⟩] => some (((laws_eqSlotS_4_fin A C i)).map laws_eqSlotS_4_out)
  | _ => .none
noncomputable def laws_eqSlotS_lo : LoopTeller := fun r s => bif Nat.beq r 4 then laws_eqSlotS_lo4 s else .none
theorem laws_eqSlotS_4_r (A : List (List TC)) (C : List (List TC)) (i : Int) (fuel : Nat) : rounds (rnd tab FT D21 live 55 laws_eqSlotS_lo 0 4) leave (fuel + 1) (laws_eqSlotS_4_sl (A, C, i)) = ((laws_eqSlotS_4_step A C i)).run (goOn (fun s => rounds (rnd tab FT D21 live 55 laws_eqSlotS_lo 0 4) leave fuel (laws_eqSlotS_4_sl s)) fun w => some (laws_eqSlotS_4_out w)) := by kernel_rfl
theorem laws_eqSlotS_4_h (A : List (List TC)) (C : List (List TC)) (i : Int) (ow : laws_eqSlotS_4_ω) : ((laws_eqSlotS_4_fin A C i)).val = some ow → ∃ fuel, loopN laws_eqSlotS_4_st fuel (A, C, i) = some ow := by
  intro h
  simp only [laws_eqSlotS_4_fin, Told.val] at h
  split at h
  · rename_i ho
    obtain ⟨rfl, rfl, ht⟩ := is_iff.1 ho
    cases h
    have hlen : A.length ≤ 140737488351232 := by have := typed_room ht; simp only [show (tab 87).bytes = 40 from rfl] at this; omega
    refine ⟨_, loopN_run (N := A.length) (fun i => (A, A, (i : Int))) (fun i hi => ?_) ?_ A.length 0 (by omega)⟩
    · have c2 : Typed tab (.str) (.s (nth (A.getD i []) 2).str) := typed_s (typed_cell ht (A.getD i []) (mem_getD hi) 2 (by decide))
      show (laws_eqSlotS_4_step A A (i : Int)).val = _
      unfold laws_eqSlotS_4_step
      refine Tr.t (by simp; omega) ?_
      refine Tr.t (by constructor <;> omega) ?_
      refine Tr.t (by constructor <;> omega) ?_
      refine Tr.t (by first | (apply is_true; and_intros <;> (first | rfl | assumption | (apply spec_l22Ok_cc <;> assumption) | (apply impl_ValidCache_cc <;> assumption) | (first | (apply is_true; and_intros <;> (first | rfl | assumption | (apply spec_l22Ok_cc <;> assumption) | (apply impl_ValidCache_cc <;> assumption) | (first | (apply is_true; and_intros <;> (first | rfl | assumption | (apply spec_l22Ok_cc <;> assumption) | (apply impl_ValidCache_cc <;> assumption) | (first | (apply is_true; and_intros <;> (first | rfl | assumption | (apply spec_l22Ok_cc <;> assumption) | (apply impl_ValidCache_cc <;> assumption))) | (apply spec_l22Ok_cc <;> assumption) | (apply impl_ValidCache_cc <;> assumption)))) | (apply spec_l22Ok_cc <;> assumption) | (apply impl_ValidCache_cc <;> assumption)))) | (apply spec_l22Ok_cc <;> assumption) | (apply impl_ValidCache_cc <;> assumption)))) | (apply spec_l22Ok_cc <;> assumption) | (apply impl_ValidCache_cc <;> assumption)) ?_
      refine Tr.n (by simp [laws_eqSlot_v]) ?_
      rw [Tr.val_ok, wrap64 (i := (i : Int) + 1) (by omega) (by omega)]; rfl
    · show (laws_eqSlotS_4_step A A (A.length : Int)).val = _
      refine Tr.n (by simp) ?_
      rfl
  · cases h
theorem laws_eqSlotS_is4 : LoopIs tab FT D21 live 55 laws_eqSlotS_lo 0 4 := by
  refine loop_told (sl := laws_eqSlotS_4_sl) (step := laws_eqSlotS_4_st) (out := laws_eqSlotS_4_out) (lor := laws_eqSlotS_lo4) (fin := fun x => (laws_eqSlotS_4_fin (x.1) (x.2.1) (x.2.2))) (fun _ => rfl) ?_ (fun x n => laws_eqSlotS_4_r x.1 x.2.1 x.2.2 n) (fun x ow => laws_eqSlotS_4_h x.1 x.2.1 x.2.2 ow)
  intro s t h
  unfold laws_eqSlotS_lo4 at h
  split at h
  · cases h; exact ⟨(_, _, _), rfl, rfl⟩
  · cases h
noncomputable def laws_eqSlotS_t (A : List (List TC)) (C : List (List TC)) : Tr (Bool) := (.ite ((!((A.length : Int) == (C.length : Int))) = true) (.ok false)
  (.ite ((laws_eqSlotS_o4_1 A C (0 : Int)) = true) (.ok true)
   .no))
def laws_eqSlotS_mk (p : Bool) : Res := [(false, [⟨.bool, .sh, TC.b p⟩])]
noncomputable def laws_eqSlotS_c (A : List (List TC)) (C : List (List TC)) : Bool := is (A = C ∧ Typed tab (.slice 87) (.l A))
noncomputable def laws_eqSlotS_v (A : List (List TC)) (C : List (List TC)) : Bool := true
theorem laws_eqSlotS_l (A : List (List TC)) (C : List (List TC)) : (laws_eqSlotS_c A C) = true → (laws_eqSlotS_t A C).val = some (laws_eqSlotS_v A C) := by
  intro h
  obtain ⟨rfl, ht⟩ := is_iff.1 h
  unfold laws_eqSlotS_t
  refine Tr.n (by simp) ?_
  refine Tr.t (by first | (apply is_true; and_intros <;> (first | rfl | assumption | (apply spec_l22Ok_cc <;> assumption) | (apply impl_ValidCache_cc <;> assumption) | (first | (apply is_true; and_intros <;> (first | rfl | assumption | (apply spec_l22Ok_cc <;> assumption) | (apply impl_ValidCache_cc <;> assumption) | (first | (apply is_true; and_intros <;> (first | rfl | assumption | (apply spec_l22Ok_cc <;> assumption) | (apply impl_ValidCache_cc <;> assumption) | (first | (apply is_true; and_intros <;> (first | rfl | assumption | (apply spec_l22Ok_cc <;> assumption) | (apply impl_ValidCache_cc <;> assumption))) | (apply spec_l22Ok_cc <;> assumption) | (apply impl_ValidCache_cc <;> assumption)))) | (apply spec_l22Ok_cc <;> assumption) | (apply impl_ValidCache_cc <;> assumption)))) | (apply spec_l22Ok_cc <;> assumption) | (apply impl_ValidCache_cc <;> assumption)))) | (apply spec_l22Ok_cc <;> assumption) | (apply impl_ValidCache_cc <;> assumption)) ?_
  rfl
noncomputable def laws_eqSlotS_S : List Arg → Option (Bool × Res) := fun xs => match xs with
  | [(false, [(.slice 87, TC.l A)]), (false, [(.slice 87, TC.l C)])] => some ((laws_eqSlotS_c A C), laws_eqSlotS_mk (laws_eqSlotS_v A C))
  | _ => .none
theorem laws_eqSlotS_e (A : List (List TC)) (C : List (List TC)) : runF tab FT D21 live 55 laws_eqSlotS_lo [(false, [(.slice 87, TC.l A)]), (false, [(.slice 87, TC.l C)])] = (laws_eqSlotS_t A C).run fun p => some (laws_eqSlotS_mk p) := by kernel_rfl
theorem laws_eqSlotS_s : ∀ xs r, laws_eqSlotS_S xs = some (true, r) → runF tab FT D21 live 55 laws_eqSlotS_lo xs = some r := by
  intro xs r h
  unfold laws_eqSlotS_S at h
  split at h
  · simp only [Option.some.injEq, Prod.mk.injEq] at h
    obtain ⟨h1, rfl⟩ := h
    exact fun_told (laws_eqSlotS_e _ _) (laws_eqSlotS_l _ _) h1
  · cases h
noncomputable def D22 : Dt := also D21 55 laws_eqSlotS_S
theorem d22 : DOk Go.Proofs.Try.prog tab D22 := d21.also mixed_ok tab_ok names_ok (fnLoops_one (by kernel_rfl) laws_eqSlotS_is4) laws_eqSlotS_s
/-! laws_eqCache -/
noncomputable def laws_eqCache_t (x0 : Int) (x1 : List (List TC)) (x2 : Int) (x3 : Int) (x4 : Int) (y0 : Int) (y1 : List (List TC)) (y2 : Int) (y3 : Int) (y4 : Int) : Tr (Bool) := (.ite ((!(x0 == y0)) = true) (.ok false)
  (.ite ((laws_eqSlotS_c x1 y1) = true) (.ite ((!(laws_eqSlotS_v x1 y1)) = true) (.ok false)
    (.ite ((!(x2 == y2)) = true) (.ok false)
     (.ite ((!(x3 == y3)) = true) (.ok false)
      (.ite ((!(x4 == y4)) = true) (.ok false)
       (.ok true)))))
   .no))
def laws_eqCache_mk (p : Bool) : Res := [(false, [⟨.bool, .sh, TC.b p⟩])]
noncomputable def laws_eqCache_c (x0 : Int) (x1 : List (List TC)) (x2 : Int) (x3 : Int) (x4 : Int) (y0 : Int) (y1 : List (List TC)) (y2 : Int) (y3 : Int) (y4 : Int) : Bool := is (x0 = y0 ∧ x1 = y1 ∧ x2 = y2 ∧ x3 = y3 ∧ x4 = y4 ∧ Typed tab (.slice 87) (.l x1))
noncomputable def laws_eqCache_v (x0 : Int) (x1 : List (List TC)) (x2 : Int) (x3 : Int) (x4 : Int) (y0 : Int) (y1 : List (List TC)) (y2 : Int) (y3 : Int) (y4 : Int) : Bool := true
theorem laws_eqCache_l (x0 : Int) (x1 : List (List TC)) (x2 : Int) (x3 : Int) (x4 : Int) (y0 : Int) (y1 : List (List TC)) (y2 : Int) (y3 : Int) (y4 : Int) : (laws_eqCache_c x0 x1 x2 x3 x4 y0 y1 y2 y3 y4) = true → (laws_eqCache_t x0 x1 x2 x3 x4 y0 y1 y2 y3 y4).val = some (laws_eqCache_v x0 x1 x2 x3 x4 y0 y1 y2 y3 y4) := by
  intro h
  obtain ⟨rfl, rfl, rfl, rfl, rfl, t0⟩ := is_iff.1 h
  unfold laws_eqCache_t
  refine Tr.n (by simp) ?_
  refine Tr.t (by first | (apply is_true; and_intros <;> (first | rfl | assumption | (apply spec_l22Ok_cc <;> assumption) | (apply impl_ValidCache_cc <;> assumption) | (first | (apply is_true; and_intros <;> (first | rfl | assumption | (apply spec_l22Ok_cc <;> assumption) | (apply impl_ValidCache_cc <;> assumption) | (first | (apply is_true; and_intros <;> (first | rfl | assumption | (apply spec_l22Ok_cc <;> assumption) | (apply impl_ValidCache_cc <;> assumption) | (first | (apply is_true; and_intros <;> (first | rfl | assumption | (apply spec_l22Ok_cc <;> assumption) | (apply impl_ValidCache_cc <;> assumption))) | (apply spec_l22Ok_cc <;> assumption) | (apply impl_ValidCache_cc <;> assumption)))) | (apply spec_l22Ok_cc <;> assumption) | (apply impl_ValidCache_cc <;> assumption)))) | (apply spec_l22Ok_cc <;> assumption) | (apply impl_ValidCache_cc <;> assumption)))) | (apply spec_l22Ok_cc <;> assumption) | (apply impl_ValidCache_cc <;> assumption)) ?_
  refine Tr.n (by simp [laws_eqSlotS_v]) ?_
  refine Tr.n (by simp) ?_
  refine Tr.n (by simp) ?_
  refine Tr.n (by simp) ?_
  rfl
noncomputable def laws_eqCache_S : List Arg → Option (Bool × Res) := fun xs => match xs with
  | [(true, [(.int .i64, TC.i x0), (.slice 87, TC.l x1), (.int .i64, TC.i x2), (.int .i64, TC.i x3), (.int .i64, TC.i x4)]), (true, [(.int .i64, TC.i y0), (.slice 87, TC.l y1), (.int .i64, TC.i y2), (.int .i64, TC.i y3), (.int .i64, TC.i y4)])] => some ((laws_eqCache_c x0 x1 x2 x3 x4 y0 y1 y2 y3 y4), laws_eqCache_mk (laws_eqCache_v x0 x1 x2 x3 x4 y0 y1 y2 y3 y4))
  | _ => .none
theorem laws_eqCache_e (x0 : Int) (x1 : List (List TC)) (x2 : Int) (x3 : Int) (x4 : Int) (y0 : Int) (y1 : List (List TC)) (y2 : Int) (y3 : Int) (y4 : Int) : runF tab FT D22 live 17 noLoops [(true, [(.int .i64, TC.i x0), (.slice 87, TC.l x1), (.int .i64, TC.i x2), (.int .i64, TC.i x3), (.int .i64, TC.i x4)]), (true, [(.int .i64, TC.i y0), (.slice 87, TC.l y1), (.int .i64, TC.i y2), (.int .i64, TC.i y3), (.int .i64, TC.i y4)])] = (laws_eqCache_t x0 x1 x2 x3 x4 y0 y1 y2 y3 y4).run fun p => some (laws_eqCache_mk p) := by kernel_rfl
theorem laws_eqCache_s : ∀ xs r, laws_eqCache_S xs = some (true, r) → runF tab FT D22 live 17 noLoops xs = some r := by
  intro xs r h
  unfold laws_eqCache_S at h
  split at h
  · simp only [Option.some.injEq, Prod.mk.injEq] at h
    obtain ⟨h1, rfl⟩ := h
    exact fun_told (laws_eqCache_e _ _ _ _ _ _ _ _ _ _) (laws_eqCache_l _ _ _ _ _ _ _ _ _ _) h1
  · cases h
noncomputable def D23 : Dt := also D22 17 laws_eqCache_S
theorem d23 : DOk Go.Proofs.Try.prog tab D23 := d22.also mixed_ok tab_ok names_ok noLoops_ok laws_eqCache_s
/-! the law -/
noncomputable def laws_FnExactValidCache_t (x0 : Int) (x1 : List (List TC)) (x2 : Int) (x3 : Int) (x4 : Int) : Tr Bool := (.ite ((laws_szCache_c x0 x1 x2 x3 x4 (1048576 : Int)) = true) (.ite ((decide ((laws_szCache_v x0 x1 x2 x3 x4 (1048576 : Int)) < (0 : Int))) = true) (.ok true)
   (.ite ((laws_toCache_c x0 x1 x2 x3 x4) = true) (.ite ((spec_ValidCache_c ((laws_toCache_v x0 x1 x2 x3 x4).1) ((laws_toCache_v x0 x1 x2 x3 x4).2.1) ((laws_toCache_v x0 x1 x2 x3 x4).2.2.1) ((laws_toCache_v x0 x1 x2 x3 x4).2.2.2.1) ((laws_toCache_v x0 x1 x2 x3 x4).2.2.2.2)) = true) (.ite ((laws_toCache_c x0 x1 x2 x3 x4) = true) (.ite ((impl_ValidCache_c ((laws_toCache_v x0 x1 x2 x3 x4).1) ((laws_toCache_v x0 x1 x2 x3 x4).2.1) ((laws_toCache_v x0 x1 x2 x3 x4).2.2.1) ((laws_toCache_v x0 x1 x2 x3 x4).2.2.2.1) ((laws_toCache_v x0 x1 x2 x3 x4).2.2.2.2)) = true) (.ite ((!((impl_ValidCache_v ((laws_toCache_v x0 x1 x2 x3 x4).1) ((laws_toCache_v x0 x1 x2 x3 x4).2.1) ((laws_toCache_v x0 x1 x2 x3 x4).2.2.1) ((laws_toCache_v x0 x1 x2 x3 x4).2.2.2.1) ((laws_toCache_v x0 x1 x2 x3 x4).2.2.2.2)) == (spec_ValidCache_v ((laws_toCache_v x0 x1 x2 x3 x4).1) ((laws_toCache_v x0 x1 x2 x3 x4).2.1) ((laws_toCache_v x0 x1 x2 x3 x4).2.2.1) ((laws_toCache_v x0 x1 x2 x3 x4).2.2.2.1) ((laws_toCache_v x0 x1 x2 x3 x4).2.2.2.2)))) = true) (.ok false)
        (.ite ((laws_toCache_c x0 x1 x2 x3 x4) = true) (.ite ((laws_eqCache_c ((laws_toCache_v x0 x1 x2 x3 x4).1) ((laws_toCache_v x0 x1 x2 x3 x4).2.1) ((laws_toCache_v x0 x1 x2 x3 x4).2.2.1) ((laws_toCache_v x0 x1 x2 x3 x4).2.2.2.1) ((laws_toCache_v x0 x1 x2 x3 x4).2.2.2.2) ((laws_toCache_v x0 x1 x2 x3 x4).1) ((laws_toCache_v x0 x1 x2 x3 x4).2.1) ((laws_toCache_v x0 x1 x2 x3 x4).2.2.1) ((laws_toCache_v x0 x1 x2 x3 x4).2.2.2.1) ((laws_toCache_v x0 x1 x2 x3 x4).2.2.2.2)) = true) (.ite ((!(laws_eqCache_v ((laws_toCache_v x0 x1 x2 x3 x4).1) ((laws_toCache_v x0 x1 x2 x3 x4).2.1) ((laws_toCache_v x0 x1 x2 x3 x4).2.2.1) ((laws_toCache_v x0 x1 x2 x3 x4).2.2.2.1) ((laws_toCache_v x0 x1 x2 x3 x4).2.2.2.2) ((laws_toCache_v x0 x1 x2 x3 x4).1) ((laws_toCache_v x0 x1 x2 x3 x4).2.1) ((laws_toCache_v x0 x1 x2 x3 x4).2.2.1) ((laws_toCache_v x0 x1 x2 x3 x4).2.2.2.1) ((laws_toCache_v x0 x1 x2 x3 x4).2.2.2.2))) = true) (.ok false)
           (.ok true))
          .no)
         .no))
       .no)
      .no)
     .no)
    .no))
  .no)
theorem laws_FnExactValidCache_e (x0 : Int) (x1 : List (List TC)) (x2 : Int) (x3 : Int) (x4 : Int) : runF tab FT D23 live 10 noLoops [(true, [(.int .i64, TC.i x0), (.slice 125, TC.l x1), (.int .i64, TC.i x2), (.int .i64, TC.i x3), (.int .i64, TC.i x4)])] = (laws_FnExactValidCache_t x0 x1 x2 x3 x4).run fun p => some [(false, [⟨.bool, .sh, .b p⟩])] := by kernel_rfl
theorem laws_FnExactValidCache_p (x0 : Int) (x1 : List (List TC)) (x2 : Int) (x3 : Int) (x4 : Int) (h0 : Typed tab (.int .i64) (.i x0)) (h1 : Typed tab (.slice 125) (.l x1)) (h2 : Typed tab (.int .i64) (.i x2)) (h3 : Typed tab (.int .i64) (.i x3)) (h4 : Typed tab (.int .i64) (.i x4)) : (laws_FnExactValidCache_t x0 x1 x2 x3 x4).val = some true := by
  have t1_87 := laws_toSlotS_ty h1
  unfold laws_FnExactValidCache_t
  refine Tr.t (by first | exact (by first | (apply is_true; and_intros <;> (first | rfl | assumption | (apply spec_l22Ok_cc <;> assumption) | (apply impl_ValidCache_cc <;> assumption) | (first | (apply is_true; and_intros <;> (first | rfl | assumption | (apply spec_l22Ok_cc <;> assumption) | (apply impl_ValidCache_cc <;> assumption) | (first | (apply is_true; and_intros <;> (first | rfl | assumption | (apply spec_l22Ok_cc <;> assumption) | (apply impl_ValidCache_cc <;> assumption) | (first | (apply is_true; and_intros <;> (first | rfl | assumption | (apply spec_l22Ok_cc <;> assumption) | (apply impl_ValidCache_cc <;> assumption))) | (apply spec_l22Ok_cc <;> assumption) | (apply impl_ValidCache_cc <;> assumption)))) | (apply spec_l22Ok_cc <;> assumption) | (apply impl_ValidCache_cc <;> assumption)))) | (apply spec_l22Ok_cc <;> assumption) | (apply impl_ValidCache_cc <;> assumption)))) | (apply spec_l22Ok_cc <;> assumption) | (apply impl_ValidCache_cc <;> assumption)) | simp [*]) ?_
  refine Tr.y ?_
  refine Tr.t (by first | exact (by first | (apply is_true; and_intros <;> (first | rfl | assumption | (apply spec_l22Ok_cc <;> assumption) | (apply impl_ValidCache_cc <;> assumption) | (first | (apply is_true; and_intros <;> (first | rfl | assumption | (apply spec_l22Ok_cc <;> assumption) | (apply impl_ValidCache_cc <;> assumption) | (first | (apply is_true; and_intros <;> (first | rfl | assumption | (apply spec_l22Ok_cc <;> assumption) | (apply impl_ValidCache_cc <;> assumption) | (first | (apply is_true; and_intros <;> (first | rfl | assumption | (apply spec_l22Ok_cc <;> assumption) | (apply impl_ValidCache_cc <;> assumption))) | (apply spec_l22Ok_cc <;> assumption) | (apply impl_ValidCache_cc <;> assumption)))) | (apply spec_l22Ok_cc <;> assumption) | (apply impl_ValidCache_cc <;> assumption)))) | (apply spec_l22Ok_cc <;> assumption) | (apply impl_ValidCache_cc <;> assumption)))) | (apply spec_l22Ok_cc <;> assumption) | (apply impl_ValidCache_cc <;> assumption)) | simp [*]) ?_
  refine Tr.t (by first | exact (by first | (apply is_true; and_intros <;> (first | rfl | assumption | (apply spec_l22Ok_cc <;> assumption) | (apply impl_ValidCache_cc <;> assumption) | (first | (apply is_true; and_intros <;> (first | rfl | assumption | (apply spec_l22Ok_cc <;> assumption) | (apply impl_ValidCache_cc <;> assumption) | (first | (apply is_true; and_intros <;> (first | rfl | assumption | (apply spec_l22Ok_cc <;> assumption) | (apply impl_ValidCache_cc <;> assumption) | (first | (apply is_true; and_intros <;> (first | rfl | assumption | (apply spec_l22Ok_cc <;> assumption) | (apply impl_ValidCache_cc <;> assumption))) | (apply spec_l22Ok_cc <;> assumption) | (apply impl_ValidCache_cc <;> assumption)))) | (apply spec_l22Ok_cc <;> assumption) | (apply impl_ValidCache_cc <;> assumption)))) | (apply spec_l22Ok_cc <;> assumption) | (apply impl_ValidCache_cc <;> assumption)))) | (apply spec_l22Ok_cc <;> assumption) | (apply impl_ValidCache_cc <;> assumption)) | simp [*]) ?_
  refine Tr.t (by first | exact (by first | (apply is_true; and_intros <;> (first | rfl | assumption | (apply spec_l22Ok_cc <;> assumption) | (apply impl_ValidCache_cc <;> assumption) | (first | (apply is_true; and_intros <;> (first | rfl | assumption | (apply spec_l22Ok_cc <;> assumption) | (apply impl_ValidCache_cc <;> assumption) | (first | (apply is_true; and_intros <;> (first | rfl | assumption | (apply spec_l22Ok_cc <;> assumption) | (apply impl_ValidCache_cc <;> assumption) | (first | (apply is_true; and_intros <;> (first | rfl | assumption | (apply spec_l22Ok_cc <;> assumption) | (apply impl_ValidCache_cc <;> assumption))) | (apply spec_l22Ok_cc <;> assumption) | (apply impl_ValidCache_cc <;> assumption)))) | (apply spec_l22Ok_cc <;> assumption) | (apply impl_ValidCache_cc <;> assumption)))) | (apply spec_l22Ok_cc <;> assumption) | (apply impl_ValidCache_cc <;> assumption)))) | (apply spec_l22Ok_cc <;> assumption) | (apply impl_ValidCache_cc <;> assumption)) | simp [*]) ?_
  refine Tr.t (by first | exact (by first | (apply is_true; and_intros <;> (first | rfl | assumption | (apply spec_l22Ok_cc <;> assumption) | (apply impl_ValidCache_cc <;> assumption) | (first | (apply is_true; and_intros <;> (first | rfl | assumption | (apply spec_l22Ok_cc <;> assumption) | (apply impl_ValidCache_cc <;> assumption) | (first | (apply is_true; and_intros <;> (first | rfl | assumption | (apply spec_l22Ok_cc <;> assumption) | (apply impl_ValidCache_cc <;> assumption) | (first | (apply is_true; and_intros <;> (first | rfl | assumption | (apply spec_l22Ok_cc <;> assumption) | (apply impl_ValidCache_cc <;> assumption))) | (apply spec_l22Ok_cc <;> assumption) | (apply impl_ValidCache_cc <;> assumption)))) | (apply spec_l22Ok_cc <;> assumption) | (apply impl_ValidCache_cc <;> assumption)))) | (apply spec_l22Ok_cc <;> assumption) | (apply impl_ValidCache_cc <;> assumption)))) | (apply spec_l22Ok_cc <;> assumption) | (apply impl_ValidCache_cc <;> assumption)) | simp [*]) ?_
  refine Tr.n (by first | (simp [laws_szSlot_v, laws_szSlotS_k5_1, laws_szSlotS_u5_2, laws_szSlotS_u5_3, laws_szSlotS_v, laws_szCache_v, laws_toSlot_v, laws_toSlotS_u3_1, laws_toSlotS_v, laws_toCache_v, spec_l00In_v, spec_l22Ok_k10_1, spec_l22Ok_k4_1, spec_l22Ok_vv, spec_ValidCache_v, impl_within_v, impl_allWithin_1_v, slices_IndexFunc_int64_int64_k2_1, slices_IndexFunc_int64_int64_u2_3, slices_IndexFunc_int64_int64_v, slices_ContainsFunc_int64_int64_v, impl_allWithin_v, impl_slotOk_v, impl_Slot_isFor_v, impl_ValidCache_1_v, slices_IndexFunc_impl_Slot_impl_Slot_k2_1, slices_IndexFunc_impl_Slot_impl_Slot_u2_3, slices_IndexFunc_impl_Slot_impl_Slot_v, slices_ContainsFunc_impl_Slot_impl_Slot_v, impl_ValidCache_k4_1, impl_ValidCache_vv, laws_eqSlot_v, laws_eqSlotS_v, laws_eqCache_v]; done) | (simp only [laws_szSlot_v, laws_szSlotS_k5_1, laws_szSlotS_u5_2, laws_szSlotS_u5_3, laws_szSlotS_v, laws_szCache_v, laws_toSlot_v, laws_toSlotS_u3_1, laws_toSlotS_v, laws_toCache_v, spec_l00In_v, spec_l22Ok_k10_1, spec_l22Ok_k4_1, spec_l22Ok_vv, spec_ValidCache_v, impl_within_v, impl_allWithin_1_v, slices_IndexFunc_int64_int64_k2_1, slices_IndexFunc_int64_int64_u2_3, slices_IndexFunc_int64_int64_v, slices_ContainsFunc_int64_int64_v, impl_allWithin_v, impl_slotOk_v, impl_Slot_isFor_v, impl_ValidCache_1_v, slices_IndexFunc_impl_Slot_impl_Slot_k2_1, slices_IndexFunc_impl_Slot_impl_Slot_u2_3, slices_IndexFunc_impl_Slot_impl_Slot_v, slices_ContainsFunc_impl_Slot_impl_Slot_v, impl_ValidCache_k4_1, impl_ValidCache_vv, laws_eqSlot_v, laws_eqSlotS_v, laws_eqCache_v, nth0, nth1, nth2, nth3, nth4, nth5, int_i, bool_b, str_s, list_l, cells_p, Bool.not_eq_true, bne_self_eq_false, beq_self_eq_true, Bool.not_true]; done) | (simp [laws_szSlot_v, laws_szSlotS_k5_1, laws_szSlotS_u5_2, laws_szSlotS_u5_3, laws_szSlotS_v, laws_szCache_v, laws_toSlot_v, laws_toSlotS_u3_1, laws_toSlotS_v, laws_toCache_v, spec_l00In_v, spec_l22Ok_k10_1, spec_l22Ok_k4_1, spec_l22Ok_vv, spec_ValidCache_v, impl_within_v, impl_allWithin_1_v, slices_IndexFunc_int64_int64_k2_1, slices_IndexFunc_int64_int64_u2_3, slices_IndexFunc_int64_int64_v, slices_ContainsFunc_int64_int64_v, impl_allWithin_v, impl_slotOk_v, impl_Slot_isFor_v, impl_ValidCache_1_v, slices_IndexFunc_impl_Slot_impl_Slot_k2_1, slices_IndexFunc_impl_Slot_impl_Slot_u2_3, slices_IndexFunc_impl_Slot_impl_Slot_v, slices_ContainsFunc_impl_Slot_impl_Slot_v, impl_ValidCache_k4_1, impl_ValidCache_vv, laws_eqSlot_v, laws_eqSlotS_v, laws_eqCache_v, nth0, nth1, nth2, nth3, nth4, nth5, int_i, bool_b, str_s, list_l, cells_p]; done) | (simp [laws_szSlot_v, laws_szSlotS_k5_1, laws_szSlotS_u5_2, laws_szSlotS_u5_3, laws_szSlotS_v, laws_szCache_v, laws_toSlot_v, laws_toSlotS_u3_1, laws_toSlotS_v, laws_toCache_v, spec_l00In_v, spec_l22Ok_k10_1, spec_l22Ok_k4_1, spec_l22Ok_vv, spec_ValidCache_v, impl_within_v, impl_allWithin_1_v, slices_IndexFunc_int64_int64_k2_1, slices_IndexFunc_int64_int64_u2_3, slices_IndexFunc_int64_int64_v, slices_ContainsFunc_int64_int64_v, impl_allWithin_v, impl_slotOk_v, impl_Slot_isFor_v, impl_ValidCache_1_v, slices_IndexFunc_impl_Slot_impl_Slot_k2_1, slices_IndexFunc_impl_Slot_impl_Slot_u2_3, slices_IndexFunc_impl_Slot_impl_Slot_v, slices_ContainsFunc_impl_Slot_impl_Slot_v, impl_ValidCache_k4_1, impl_ValidCache_vv, laws_eqSlot_v, laws_eqSlotS_v, laws_eqCache_v, nth0, nth1, nth2, nth3, nth4, nth5, int_i, bool_b, str_s, list_l, cells_p] <;> rfl)) ?_
  refine Tr.t (by first | exact (by first | (apply is_true; and_intros <;> (first | rfl | assumption | (apply spec_l22Ok_cc <;> assumption) | (apply impl_ValidCache_cc <;> assumption) | (first | (apply is_true; and_intros <;> (first | rfl | assumption | (apply spec_l22Ok_cc <;> assumption) | (apply impl_ValidCache_cc <;> assumption) | (first | (apply is_true; and_intros <;> (first | rfl | assumption | (apply spec_l22Ok_cc <;> assumption) | (apply impl_ValidCache_cc <;> assumption) | (first | (apply is_true; and_intros <;> (first | rfl | assumption | (apply spec_l22Ok_cc <;> assumption) | (apply impl_ValidCache_cc <;> assumption))) | (apply spec_l22Ok_cc <;> assumption) | (apply impl_ValidCache_cc <;> assumption)))) | (apply spec_l22Ok_cc <;> assumption) | (apply impl_ValidCache_cc <;> assumption)))) | (apply spec_l22Ok_cc <;> assumption) | (apply impl_ValidCache_cc <;> assumption)))) | (apply spec_l22Ok_cc <;> assumption) | (apply impl_ValidCache_cc <;> assumption)) | simp [*]) ?_
  refine Tr.t (by first | exact (by first | (apply is_true; and_intros <;> (first | rfl | assumption | (apply spec_l22Ok_cc <;> assumption) | (apply impl_ValidCache_cc <;> assumption) | (first | (apply is_true; and_intros <;> (first | rfl | assumption | (apply spec_l22Ok_cc <;> assumption) | (apply impl_ValidCache_cc <;> assumption) | (first | (apply is_true; and_intros <;> (first | rfl | assumption | (apply spec_l22Ok_cc <;> assumption) | (apply impl_ValidCache_cc <;> assumption) | (first | (apply is_true; and_intros <;> (first | rfl | assumption | (apply spec_l22Ok_cc <;> assumption) | (apply impl_ValidCache_cc <;> assumption))) | (apply spec_l22Ok_cc <;> assumption) | (apply impl_ValidCache_cc <;> assumption)))) | (apply spec_l22Ok_cc <;> assumption) | (apply impl_ValidCache_cc <;> assumption)))) | (apply spec_l22Ok_cc <;> assumption) | (apply impl_ValidCache_cc <;> assumption)))) | (apply spec_l22Ok_cc <;> assumption) | (apply impl_ValidCache_cc <;> assumption)) | simp [*]) ?_
  refine Tr.n (by first | (simp [laws_szSlot_v, laws_szSlotS_k5_1, laws_szSlotS_u5_2, laws_szSlotS_u5_3, laws_szSlotS_v, laws_szCache_v, laws_toSlot_v, laws_toSlotS_u3_1, laws_toSlotS_v, laws_toCache_v, spec_l00In_v, spec_l22Ok_k10_1, spec_l22Ok_k4_1, spec_l22Ok_vv, spec_ValidCache_v, impl_within_v, impl_allWithin_1_v, slices_IndexFunc_int64_int64_k2_1, slices_IndexFunc_int64_int64_u2_3, slices_IndexFunc_int64_int64_v, slices_ContainsFunc_int64_int64_v, impl_allWithin_v, impl_slotOk_v, impl_Slot_isFor_v, impl_ValidCache_1_v, slices_IndexFunc_impl_Slot_impl_Slot_k2_1, slices_IndexFunc_impl_Slot_impl_Slot_u2_3, slices_IndexFunc_impl_Slot_impl_Slot_v, slices_ContainsFunc_impl_Slot_impl_Slot_v, impl_ValidCache_k4_1, impl_ValidCache_vv, laws_eqSlot_v, laws_eqSlotS_v, laws_eqCache_v]; done) | (simp only [laws_szSlot_v, laws_szSlotS_k5_1, laws_szSlotS_u5_2, laws_szSlotS_u5_3, laws_szSlotS_v, laws_szCache_v, laws_toSlot_v, laws_toSlotS_u3_1, laws_toSlotS_v, laws_toCache_v, spec_l00In_v, spec_l22Ok_k10_1, spec_l22Ok_k4_1, spec_l22Ok_vv, spec_ValidCache_v, impl_within_v, impl_allWithin_1_v, slices_IndexFunc_int64_int64_k2_1, slices_IndexFunc_int64_int64_u2_3, slices_IndexFunc_int64_int64_v, slices_ContainsFunc_int64_int64_v, impl_allWithin_v, impl_slotOk_v, impl_Slot_isFor_v, impl_ValidCache_1_v, slices_IndexFunc_impl_Slot_impl_Slot_k2_1, slices_IndexFunc_impl_Slot_impl_Slot_u2_3, slices_IndexFunc_impl_Slot_impl_Slot_v, slices_ContainsFunc_impl_Slot_impl_Slot_v, impl_ValidCache_k4_1, impl_ValidCache_vv, laws_eqSlot_v, laws_eqSlotS_v, laws_eqCache_v, nth0, nth1, nth2, nth3, nth4, nth5, int_i, bool_b, str_s, list_l, cells_p, Bool.not_eq_true, bne_self_eq_false, beq_self_eq_true, Bool.not_true]; done) | (simp [laws_szSlot_v, laws_szSlotS_k5_1, laws_szSlotS_u5_2, laws_szSlotS_u5_3, laws_szSlotS_v, laws_szCache_v, laws_toSlot_v, laws_toSlotS_u3_1, laws_toSlotS_v, laws_toCache_v, spec_l00In_v, spec_l22Ok_k10_1, spec_l22Ok_k4_1, spec_l22Ok_vv, spec_ValidCache_v, impl_within_v, impl_allWithin_1_v, slices_IndexFunc_int64_int64_k2_1, slices_IndexFunc_int64_int64_u2_3, slices_IndexFunc_int64_int64_v, slices_ContainsFunc_int64_int64_v, impl_allWithin_v, impl_slotOk_v, impl_Slot_isFor_v, impl_ValidCache_1_v, slices_IndexFunc_impl_Slot_impl_Slot_k2_1, slices_IndexFunc_impl_Slot_impl_Slot_u2_3, slices_IndexFunc_impl_Slot_impl_Slot_v, slices_ContainsFunc_impl_Slot_impl_Slot_v, impl_ValidCache_k4_1, impl_ValidCache_vv, laws_eqSlot_v, laws_eqSlotS_v, laws_eqCache_v, nth0, nth1, nth2, nth3, nth4, nth5, int_i, bool_b, str_s, list_l, cells_p]; done) | (simp [laws_szSlot_v, laws_szSlotS_k5_1, laws_szSlotS_u5_2, laws_szSlotS_u5_3, laws_szSlotS_v, laws_szCache_v, laws_toSlot_v, laws_toSlotS_u3_1, laws_toSlotS_v, laws_toCache_v, spec_l00In_v, spec_l22Ok_k10_1, spec_l22Ok_k4_1, spec_l22Ok_vv, spec_ValidCache_v, impl_within_v, impl_allWithin_1_v, slices_IndexFunc_int64_int64_k2_1, slices_IndexFunc_int64_int64_u2_3, slices_IndexFunc_int64_int64_v, slices_ContainsFunc_int64_int64_v, impl_allWithin_v, impl_slotOk_v, impl_Slot_isFor_v, impl_ValidCache_1_v, slices_IndexFunc_impl_Slot_impl_Slot_k2_1, slices_IndexFunc_impl_Slot_impl_Slot_u2_3, slices_IndexFunc_impl_Slot_impl_Slot_v, slices_ContainsFunc_impl_Slot_impl_Slot_v, impl_ValidCache_k4_1, impl_ValidCache_vv, laws_eqSlot_v, laws_eqSlotS_v, laws_eqCache_v, nth0, nth1, nth2, nth3, nth4, nth5, int_i, bool_b, str_s, list_l, cells_p] <;> rfl)) ?_
  rfl
theorem laws_FnExactValidCache_pure : ∀ xs, ArgsTyped tab [39] xs → runF tab FT D23 live 10 noLoops xs = yes := by
  intro xs h
  cases h with | cons l0 g0 h =>
  obtain ⟨z0_0, z0_1, z0_2, z0_3, z0_4, rfl⟩ := len_5 l0
  have q0 := g0 0 (by decide)
  have q0 : Typed tab (.int .i64) z0_0 := q0
  obtain ⟨y0, rfl⟩ := typed_int q0
  have q1 := g0 1 (by decide)
  have q1 : Typed tab (.slice 125) z0_1 := q1
  obtain ⟨y1, rfl⟩ := typed_slice q1
  have q2 := g0 2 (by decide)
  have q2 : Typed tab (.int .i64) z0_2 := q2
  obtain ⟨y2, rfl⟩ := typed_int q2
  have q3 := g0 3 (by decide)
  have q3 : Typed tab (.int .i64) z0_3 := q3
  obtain ⟨y3, rfl⟩ := typed_int q3
  have q4 := g0 4 (by decide)
  have q4 : Typed tab (.int .i64) z0_4 := q4
  obtain ⟨y4, rfl⟩ := typed_int q4
  cases h
  refine (laws_FnExactValidCache_e y0 y1 y2 y3 y4).trans ?_
  rw [Tr.run_eq, laws_FnExactValidCache_p y0 y1 y2 y3 y4 q0 q1 q2 q3 q4]
  rfl
end Go.Proofs.Ytdifjmbflnkojaa.V
