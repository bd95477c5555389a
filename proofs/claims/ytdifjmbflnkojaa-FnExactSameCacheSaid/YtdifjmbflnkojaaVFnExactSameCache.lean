/- What the functions of FnExactSameCache answer. No condition. -/
import Derived.Test.YtdifjmbflnkojaaVFacts
namespace Go.Proofs.Ytdifjmbflnkojaa.V
open Go
set_option maxRecDepth 100000
set_option linter.unusedVariables false
set_option linter.unusedSimpArgs false
/-! laws_szSlot -/
noncomputable def laws_szSlot_t (a0 : Int) (a1 : Int) (a2 : List UInt8) (a3 : Bool) (a4 : Int) : Tr (Int) := (.ite ((decide ((IntKind.wrap .i64 (a4 - (a2.length : Int))) < (0 : Int))) = true) (.ok (-1 : Int))
  (.ok (IntKind.wrap .i64 (a4 - (a2.length : Int)))))
def laws_szSlot_mk (p : Int) : Res := [(false, [⟨.int .i64, .sh, TC.i p⟩])]
noncomputable def laws_szSlot_c (a0 : Int) (a1 : Int) (a2 : List UInt8) (a3 : Bool) (a4 : Int) : Bool := true
noncomputable def laws_szSlot_v (a0 : Int) (a1 : Int) (a2 : List UInt8) (a3 : Bool) (a4 : Int) : Int := (bif (decide ((IntKind.wrap .i64 (a4 - (a2.length : Int))) < (0 : Int))) then (-1 : Int) else (IntKind.wrap .i64 (a4 - (a2.length : Int))))
theorem laws_szSlot_l (a0 : Int) (a1 : Int) (a2 : List UInt8) (a3 : Bool) (a4 : Int) : (laws_szSlot_c a0 a1 a2 a3 a4) = true → (laws_szSlot_t a0 a1 a2 a3 a4).val = some (laws_szSlot_v a0 a1 a2 a3 a4) := by
  intro h
  skip
  unfold laws_szSlot_t laws_szSlot_v
  exact (Tr.s rfl rfl)
noncomputable def laws_szSlot_S : List Arg → Option (Bool × Res) := fun xs => match xs with
  | [(true, [(.int .i64, TC.i a0), (.int .i64, TC.i a1), (.str, TC.s a2), (.bool, TC.b a3)]), (false, [(.int .i64, TC.i a4)])] => some (true, laws_szSlot_mk (laws_szSlot_v a0 a1 a2 a3 a4))
  | _ => .none
theorem laws_szSlot_e (a0 : Int) (a1 : Int) (a2 : List UInt8) (a3 : Bool) (a4 : Int) : runF tab FT D0 live 106 noLoops [(true, [(.int .i64, TC.i a0), (.int .i64, TC.i a1), (.str, TC.s a2), (.bool, TC.b a3)]), (false, [(.int .i64, TC.i a4)])] = (laws_szSlot_t a0 a1 a2 a3 a4).run fun p => some (laws_szSlot_mk p) := by kernel_rfl
theorem laws_szSlot_s : ∀ xs r, laws_szSlot_S xs = some (true, r) → runF tab FT D0 live 106 noLoops xs = some r := by
  intro xs r h
  unfold laws_szSlot_S at h
  split at h
  · simp only [Option.some.injEq, Prod.mk.injEq] at h
    obtain ⟨h1, rfl⟩ := h
    exact fun_told (laws_szSlot_e _ _ _ _ _) (laws_szSlot_l _ _ _ _ _) rfl
  · cases h
noncomputable def D1 : Dt := also D0 106 laws_szSlot_S
theorem d1 : DOk Go.Proofs.Try.prog tab D1 := d0.also mixed_ok tab_ok names_ok noLoops_ok laws_szSlot_s
/-! laws_szSlotS -/
abbrev laws_szSlotS_5_σ := List (List TC) × Int × Int
abbrev laws_szSlotS_5_ω := (Int) ⊕ (Int)
noncomputable def laws_szSlotS_5_step (A : List (List TC)) (left : Int) (i : Int) : Tr (laws_szSlotS_5_σ ⊕ laws_szSlotS_5_ω) := (.ite ((decide (i < (A.length : Int))) = true) (.ite ((0 : Int) ≤ i ∧ i < (A.length : Int)) (.ite ((decide ((laws_szSlot_v ((nth (row A i) 0).int) ((nth (row A i) 1).int) ((nth (row A i) 2).str) ((nth (row A i) 3).bool) left) < (0 : Int))) = true) (.ok (.inr (.inl (laws_szSlot_v ((nth (row A i) 0).int) ((nth (row A i) 1).int) ((nth (row A i) 2).str) ((nth (row A i) 3).bool) left))))
    (.ok (.inl (A, (laws_szSlot_v ((nth (row A i) 0).int) ((nth (row A i) 1).int) ((nth (row A i) 2).str) ((nth (row A i) 3).bool) left), (IntKind.wrap .i64 (i + (1 : Int)))))))
   .no)
  (.ok (.inr (.inr left))))
noncomputable def laws_szSlotS_5_st : laws_szSlotS_5_σ → Tr (laws_szSlotS_5_σ ⊕ laws_szSlotS_5_ω) := fun x => (laws_szSlotS_5_step (x.1) (x.2.1) (x.2.2))
noncomputable def laws_szSlotS_k5_1 (A : List (List TC)) (left : Int) (i : Int) : Bool := isL (loopN laws_szSlotS_5_st (A.length + 1) (A, left, i))
noncomputable def laws_szSlotS_o5_2 (A : List (List TC)) (left : Int) (i : Int) : Bool := is (i = 0 ∧ Typed tab (.slice 125) (.l A))
noncomputable def laws_szSlotS_u5_2 (A : List (List TC)) (left : Int) (i : Int) : Int := getL (loopN laws_szSlotS_5_st (A.length + 1) (A, left, i))
noncomputable def laws_szSlotS_o5_3 (A : List (List TC)) (left : Int) (i : Int) : Bool := is (i = 0 ∧ Typed tab (.slice 125) (.l A))
noncomputable def laws_szSlotS_u5_3 (A : List (List TC)) (left : Int) (i : Int) : Int := getR (loopN laws_szSlotS_5_st (A.length + 1) (A, left, i))
noncomputable def laws_szSlotS_5_fin (A : List (List TC)) (left : Int) (i : Int) : Told laws_szSlotS_5_ω := (.br (laws_szSlotS_k5_1 A left i) (.leaf (laws_szSlotS_o5_2 A left i) (.inl (laws_szSlotS_u5_2 A left i))) (.leaf (laws_szSlotS_o5_3 A left i) (.inr (laws_szSlotS_u5_3 A left i))))
def laws_szSlotS_5_sl (x : laws_szSlotS_5_σ) : List Slot := [⟨.val false [⟨.slice 125, .sh, TC.l (x.1)⟩], ⟨0, 0⟩⟩, ⟨.val false [⟨.int .i64, .sh, TC.i (x.2.1)⟩], ⟨0, 0⟩⟩, ⟨.val false [⟨.int .i64, .sh, TC.i (x.2.2)⟩], ⟨0, 0⟩⟩]
def laws_szSlotS_5_out : laws_szSlotS_5_ω → Ex × List Slot := (Sum.elim (fun x => (.ret, [⟨.val false [⟨.int .i64, .sh, TC.i x⟩], ⟨0, 0⟩⟩, ⟨.val false [⟨.int .i64, .sh, TC.i (-1 : Int)⟩], ⟨0, 0⟩⟩])) (fun x => (.exit 0, [⟨.val false [⟨.int .i64, .sh, TC.i x⟩], ⟨0, 0⟩⟩, Slot.none])))
noncomputable def laws_szSlotS_lo5 : List Slot → Option (Told (Ex × List Slot)) := fun s => match s with
  | [⟨.val false [⟨.slice 125, .sh, TC.l A⟩], ⟨0, 0⟩⟩, ⟨.val false [⟨.int .i64, .sh, TC.i left⟩], ⟨0, 0⟩⟩, ⟨.val false [⟨.int .i64, .sh, TC.i i⟩], ⟨0, 0⟩⟩] => some (((laws_szSlotS_5_fin A left i)).map laws_szSlotS_5_out)
  | _ => .none
noncomputable def laws_szSlotS_lo : LoopTeller := fun r s => bif Nat.beq r 5 then laws_szSlotS_lo5 s else .none
theorem laws_szSlotS_5_r (A : List (List TC)) (left : Int) (i : Int) (fuel : Nat) : rounds (rnd tab FT D1 live 63 laws_szSlotS_lo 0 5) leave (fuel + 1) (laws_szSlotS_5_sl (A, left, i)) = ((laws_szSlotS_5_step A left i)).run (goOn (fun s => rounds (rnd tab FT D1 live 63 laws_szSlotS_lo 0 5) leave fuel (laws_szSlotS_5_sl s)) fun w => some (laws_szSlotS_5_out w)) := by kernel_rfl
theorem laws_szSlotS_5_h (A : List (List TC)) (left : Int) (i : Int) (ow : laws_szSlotS_5_ω) : ((laws_szSlotS_5_fin A left i)).val = some ow → ∃ fuel, loopN laws_szSlotS_5_st fuel (A, left, i) = some ow := by
  refine auto_two (N := A.length + 1) rfl rfl rfl ?_
  intro ho
  have ho : is (i = 0 ∧ Typed tab (.slice 125) (.l A)) = true := ho.elim id id
  obtain ⟨rfl, ht⟩ := is_iff.1 ho
  have hlen : A.length ≤ 140737488351232 := by have := typed_room ht; simp only [show (tab 125).bytes = 40 from rfl] at this; omega
  refine loopN_ends (step := laws_szSlotS_5_st) (N := A.length) (fun i a => (A, a, (i : Int))) (fun i a hi => ?_) (fun a => ?_) A.length 0 left (by omega)
  · show (∃ a', (laws_szSlotS_5_step A a (i : Int)).val = _) ∨ ∃ w, (laws_szSlotS_5_step A a (i : Int)).val = _
    have c2 : Typed tab (.str) (.s (nth (A.getD i []) 2).str) := typed_s (typed_cell ht (A.getD i []) (mem_getD hi) 2 (by decide))
    cases hneg : ((decide ((laws_szSlot_v ((nth (row A i) 0).int) ((nth (row A i) 1).int) ((nth (row A i) 2).str) ((nth (row A i) 3).bool) a) < (0 : Int))))
    · apply Or.inl
      apply Exists.intro
      · unfold laws_szSlotS_5_step
        refine Tr.t (by simp; omega) ?_
        refine Tr.t (by first | omega | (constructor <;> omega)) ?_
        refine Tr.n (by rw [hneg]; simp) ?_
        rw [Tr.val_ok, wrap64 (i := (i : Int) + 1) (by omega) (by omega)]; rfl
    · apply Or.inr
      apply Exists.intro
      · unfold laws_szSlotS_5_step
        refine Tr.t (by simp; omega) ?_
        refine Tr.t (by first | omega | (constructor <;> omega)) ?_
        refine Tr.t hneg ?_
        rfl
  · apply Exists.intro
    · show (laws_szSlotS_5_step A a (A.length : Int)).val = _
      refine Tr.n (by simp) ?_
      rfl
theorem laws_szSlotS_is5 : LoopIs tab FT D1 live 63 laws_szSlotS_lo 0 5 := by
  refine loop_told (sl := laws_szSlotS_5_sl) (step := laws_szSlotS_5_st) (out := laws_szSlotS_5_out) (lor := laws_szSlotS_lo5) (fin := fun x => (laws_szSlotS_5_fin (x.1) (x.2.1) (x.2.2))) (fun _ => rfl) ?_ (fun x n => laws_szSlotS_5_r x.1 x.2.1 x.2.2 n) (fun x ow => laws_szSlotS_5_h x.1 x.2.1 x.2.2 ow)
  intro s t h
  unfold laws_szSlotS_lo5 at h
  split at h
  · cases h; exact ⟨(_, _, _), rfl, rfl⟩
  · cases h
noncomputable def laws_szSlotS_t (A : List (List TC)) (left : Int) : Tr (Int) := (.ite ((decide ((IntKind.wrap .i64 (left - (A.length : Int))) < (0 : Int))) = true) (.ok (-1 : Int))
  (.ite ((laws_szSlotS_k5_1 A (IntKind.wrap .i64 (left - (A.length : Int))) (0 : Int)) = true) (.ite ((laws_szSlotS_o5_2 A (IntKind.wrap .i64 (left - (A.length : Int))) (0 : Int)) = true) (.ok (-1 : Int))
    .no)
   (.ite ((laws_szSlotS_o5_3 A (IntKind.wrap .i64 (left - (A.length : Int))) (0 : Int)) = true) (.ok (laws_szSlotS_u5_3 A (IntKind.wrap .i64 (left - (A.length : Int))) (0 : Int)))
    .no)))
def laws_szSlotS_mk (p : Int) : Res := [(false, [⟨.int .i64, .sh, TC.i p⟩])]
noncomputable def laws_szSlotS_c (A : List (List TC)) (left : Int) : Bool := is (((laws_szSlotS_o5_2 A (IntKind.wrap .i64 (left - (A.length : Int))) (0 : Int)) = true) ∧ ((laws_szSlotS_o5_3 A (IntKind.wrap .i64 (left - (A.length : Int))) (0 : Int)) = true))
noncomputable def laws_szSlotS_v (A : List (List TC)) (left : Int) : Int := (bif (decide ((IntKind.wrap .i64 (left - (A.length : Int))) < (0 : Int))) then (-1 : Int) else (bif (laws_szSlotS_k5_1 A (IntKind.wrap .i64 (left - (A.length : Int))) (0 : Int)) then (-1 : Int) else (laws_szSlotS_u5_3 A (IntKind.wrap .i64 (left - (A.length : Int))) (0 : Int))))
theorem laws_szSlotS_l (A : List (List TC)) (left : Int) : (laws_szSlotS_c A left) = true → (laws_szSlotS_t A left).val = some (laws_szSlotS_v A left) := by
  intro h
  obtain ⟨g0, g1⟩ := is_iff.1 h
  unfold laws_szSlotS_t laws_szSlotS_v
  exact (Tr.s rfl (Tr.s (Tr.t g0 rfl) (Tr.t g1 rfl)))
noncomputable def laws_szSlotS_S : List Arg → Option (Bool × Res) := fun xs => match xs with
  | [(false, [(.slice 125, TC.l A)]), (false, [(.int .i64, TC.i left)])] => some ((laws_szSlotS_c A left), laws_szSlotS_mk (laws_szSlotS_v A left))
  | _ => .none
theorem laws_szSlotS_e (A : List (List TC)) (left : Int) : runF tab FT D1 live 63 laws_szSlotS_lo [(false, [(.slice 125, TC.l A)]), (false, [(.int .i64, TC.i left)])] = (laws_szSlotS_t A left).run fun p => some (laws_szSlotS_mk p) := by kernel_rfl
theorem laws_szSlotS_s : ∀ xs r, laws_szSlotS_S xs = some (true, r) → runF tab FT D1 live 63 laws_szSlotS_lo xs = some r := by
  intro xs r h
  unfold laws_szSlotS_S at h
  split at h
  · simp only [Option.some.injEq, Prod.mk.injEq] at h
    obtain ⟨h1, rfl⟩ := h
    exact fun_told (laws_szSlotS_e _ _) (laws_szSlotS_l _ _) h1
  · cases h
noncomputable def D2 : Dt := also D1 63 laws_szSlotS_S
theorem d2 : DOk Go.Proofs.Try.prog tab D2 := d1.also mixed_ok tab_ok names_ok (fnLoops_one (by kernel_rfl) laws_szSlotS_is5) laws_szSlotS_s
/-! laws_szCache -/
noncomputable def laws_szCache_t (a0 : Int) (a1 : List (List TC)) (a2 : Int) (a3 : Int) (a4 : Int) (a5 : Int) : Tr (Int) := (.ite ((laws_szSlotS_c a1 a5) = true) (.ite ((decide ((laws_szSlotS_v a1 a5) < (0 : Int))) = true) (.ok (-1 : Int))
   (.ok (laws_szSlotS_v a1 a5)))
  .no)
def laws_szCache_mk (p : Int) : Res := [(false, [⟨.int .i64, .sh, TC.i p⟩])]
noncomputable def laws_szCache_c (a0 : Int) (a1 : List (List TC)) (a2 : Int) (a3 : Int) (a4 : Int) (a5 : Int) : Bool := (laws_szSlotS_c a1 a5)
noncomputable def laws_szCache_v (a0 : Int) (a1 : List (List TC)) (a2 : Int) (a3 : Int) (a4 : Int) (a5 : Int) : Int := (bif (decide ((laws_szSlotS_v a1 a5) < (0 : Int))) then (-1 : Int) else (laws_szSlotS_v a1 a5))
theorem laws_szCache_l (a0 : Int) (a1 : List (List TC)) (a2 : Int) (a3 : Int) (a4 : Int) (a5 : Int) : (laws_szCache_c a0 a1 a2 a3 a4 a5) = true → (laws_szCache_t a0 a1 a2 a3 a4 a5).val = some (laws_szCache_v a0 a1 a2 a3 a4 a5) := by
  intro h
  have g0 : (laws_szSlotS_c a1 a5) = true := h
  unfold laws_szCache_t laws_szCache_v
  exact (Tr.t g0 (Tr.s rfl rfl))
noncomputable def laws_szCache_S : List Arg → Option (Bool × Res) := fun xs => match xs with
  | [(true, [(.int .i64, TC.i a0), (.slice 125, TC.l a1), (.int .i64, TC.i a2), (.int .i64, TC.i a3), (.int .i64, TC.i a4)]), (false, [(.int .i64, TC.i a5)])] => some ((laws_szCache_c a0 a1 a2 a3 a4 a5), laws_szCache_mk (laws_szCache_v a0 a1 a2 a3 a4 a5))
  | _ => .none
theorem laws_szCache_e (a0 : Int) (a1 : List (List TC)) (a2 : Int) (a3 : Int) (a4 : Int) (a5 : Int) : runF tab FT D2 live 25 noLoops [(true, [(.int .i64, TC.i a0), (.slice 125, TC.l a1), (.int .i64, TC.i a2), (.int .i64, TC.i a3), (.int .i64, TC.i a4)]), (false, [(.int .i64, TC.i a5)])] = (laws_szCache_t a0 a1 a2 a3 a4 a5).run fun p => some (laws_szCache_mk p) := by kernel_rfl
theorem laws_szCache_s : ∀ xs r, laws_szCache_S xs = some (true, r) → runF tab FT D2 live 25 noLoops xs = some r := by
  intro xs r h
  unfold laws_szCache_S at h
  split at h
  · simp only [Option.some.injEq, Prod.mk.injEq] at h
    obtain ⟨h1, rfl⟩ := h
    exact fun_told (laws_szCache_e _ _ _ _ _ _) (laws_szCache_l _ _ _ _ _ _) h1
  · cases h
noncomputable def D3 : Dt := also D2 25 laws_szCache_S
theorem d3 : DOk Go.Proofs.Try.prog tab D3 := d2.also mixed_ok tab_ok names_ok noLoops_ok laws_szCache_s
/-! laws_toSlot -/
noncomputable def laws_toSlot_t (a0 : Int) (a1 : Int) (a2 : List UInt8) (a3 : Bool) : Tr (Int × Int × List UInt8 × Bool) := .ok (a0, a1, a2, a3)
def laws_toSlot_mk (p : Int × Int × List UInt8 × Bool) : Res := [(true, [⟨.int .i64, .sh, TC.i (p.1)⟩, ⟨.int .i64, .sh, TC.i (p.2.1)⟩, ⟨.str, .sh, TC.s (p.2.2.1)⟩, ⟨.bool, .sh, TC.b (p.2.2.2)⟩])]
noncomputable def laws_toSlot_c (a0 : Int) (a1 : Int) (a2 : List UInt8) (a3 : Bool) : Bool := true
noncomputable def laws_toSlot_v (a0 : Int) (a1 : Int) (a2 : List UInt8) (a3 : Bool) : Int × Int × List UInt8 × Bool := (a0, a1, a2, a3)
theorem laws_toSlot_l (a0 : Int) (a1 : Int) (a2 : List UInt8) (a3 : Bool) : (laws_toSlot_c a0 a1 a2 a3) = true → (laws_toSlot_t a0 a1 a2 a3).val = some (laws_toSlot_v a0 a1 a2 a3) := by
  intro h
  skip
  unfold laws_toSlot_t laws_toSlot_v
  exact rfl
noncomputable def laws_toSlot_S : List Arg → Option (Bool × Res) := fun xs => match xs with
  | [(true, [(.int .i64, TC.i a0), (.int .i64, TC.i a1), (.str, TC.s a2), (.bool, TC.b a3)])] => some (true, laws_toSlot_mk (laws_toSlot_v a0 a1 a2 a3))
  | _ => .none
theorem laws_toSlot_e (a0 : Int) (a1 : Int) (a2 : List UInt8) (a3 : Bool) : runF tab FT D3 live 107 noLoops [(true, [(.int .i64, TC.i a0), (.int .i64, TC.i a1), (.str, TC.s a2), (.bool, TC.b a3)])] = (laws_toSlot_t a0 a1 a2 a3).run fun p => some (laws_toSlot_mk p) := by kernel_rfl
theorem laws_toSlot_s : ∀ xs r, laws_toSlot_S xs = some (true, r) → runF tab FT D3 live 107 noLoops xs = some r := by
  intro xs r h
  unfold laws_toSlot_S at h
  split at h
  · simp only [Option.some.injEq, Prod.mk.injEq] at h
    obtain ⟨h1, rfl⟩ := h
    exact fun_told (laws_toSlot_e _ _ _ _) (laws_toSlot_l _ _ _ _) rfl
  · cases h
noncomputable def D4 : Dt := also D3 107 laws_toSlot_S
theorem d4 : DOk Go.Proofs.Try.prog tab D4 := d3.also mixed_ok tab_ok names_ok noLoops_ok laws_toSlot_s
/-! laws_toSlotS -/
def laws_toSlotS_g (x : List TC) : List TC := [TC.i ((nth x 0).int), TC.i ((nth x 1).int), TC.s ((nth x 2).str), TC.b ((nth x 3).bool)]
def laws_toSlotS_z : List TC := [TC.i (0 : Int), TC.i (0 : Int), TC.s [], TC.b false]
abbrev laws_toSlotS_3_σ := List (List TC) × List (List TC) × Int
abbrev laws_toSlotS_3_ω := (List (List TC))
noncomputable def laws_toSlotS_3_step (A : List (List TC)) (X : List (List TC)) (i : Int) : Tr (laws_toSlotS_3_σ ⊕ laws_toSlotS_3_ω) := (.ite ((decide (i < (A.length : Int))) = true) (.ite ((0 : Int) ≤ i ∧ i < (A.length : Int)) (.ite ((0 : Int) ≤ i ∧ i < (X.length : Int)) (.ok (.inl (A, (X.set (i).toNat (splice (row X i) 0 [TC.i ((nth (row A i) 0).int), TC.i ((nth (row A i) 1).int), TC.s ((nth (row A i) 2).str), TC.b ((nth (row A i) 3).bool)])), (IntKind.wrap .i64 (i + (1 : Int))))))
    .no)
   .no)
  (.ok (.inr X)))
noncomputable def laws_toSlotS_3_st : laws_toSlotS_3_σ → Tr (laws_toSlotS_3_σ ⊕ laws_toSlotS_3_ω) := fun x => (laws_toSlotS_3_step (x.1) (x.2.1) (x.2.2))
noncomputable def laws_toSlotS_o3_1 (A : List (List TC)) (X : List (List TC)) (i : Int) : Bool := is (Typed tab (.slice 125) (.l A) ∧ X = List.replicate A.length laws_toSlotS_z ∧ i = 0)
noncomputable def laws_toSlotS_u3_1 (A : List (List TC)) (X : List (List TC)) (i : Int) : List (List TC) := A.map laws_toSlotS_g
noncomputable def laws_toSlotS_3_fin (A : List (List TC)) (X : List (List TC)) (i : Int) : Told laws_toSlotS_3_ω := (.leaf (laws_toSlotS_o3_1 A X i) (laws_toSlotS_u3_1 A X i))
def laws_toSlotS_3_sl (x : laws_toSlotS_3_σ) : List Slot := [⟨.val false [⟨.slice 125, .sh, TC.l (x.1)⟩], ⟨0, 0⟩⟩, ⟨.val false [⟨.slice 87, .own true, TC.l (x.2.1)⟩], ⟨0, 0⟩⟩, ⟨.val false [⟨.int .i64, .sh, TC.i (x.2.2)⟩], ⟨0, 0⟩⟩]
def laws_toSlotS_3_out : laws_toSlotS_3_ω → Ex × List Slot := (fun x => (.exit 0, [Slot.none, ⟨.val false [⟨.slice 87, .own true, TC.l x⟩], ⟨0, 0⟩⟩]))
noncomputable def laws_toSlotS_lo3 : List Slot → Option (Told (Ex × List Slot)) := fun s => match s with
  | [⟨.val false [⟨.slice 125, .sh, TC.l A⟩], ⟨0, 0⟩⟩, ⟨.val false [⟨.slice 87, .own true, TC.l X⟩], ⟨0, 0⟩⟩, ⟨.val false [⟨.int .i64, .sh, TC.i i⟩], ⟨0, 0⟩⟩] => some (((laws_toSlotS_3_fin A X i)).map laws_toSlotS_3_out)
  | _ => .none
noncomputable def laws_toSlotS_lo : LoopTeller := fun r s => bif Nat.beq r 3 then laws_toSlotS_lo3 s else .none
theorem laws_toSlotS_3_r (A : List (List TC)) (X : List (List TC)) (i : Int) (fuel : Nat) : rounds (rnd tab FT D4 live 64 laws_toSlotS_lo 0 3) leave (fuel + 1) (laws_toSlotS_3_sl (A, X, i)) = ((laws_toSlotS_3_step A X i)).run (goOn (fun s => rounds (rnd tab FT D4 live 64 laws_toSlotS_lo 0 3) leave fuel (laws_toSlotS_3_sl s)) fun w => some (laws_toSlotS_3_out w)) := by kernel_rfl
theorem laws_toSlotS_3_h (A : List (List TC)) (X : List (List TC)) (i : Int) (ow : laws_toSlotS_3_ω) : ((laws_toSlotS_3_fin A X i)).val = some ow → ∃ fuel, loopN laws_toSlotS_3_st fuel (A, X, i) = some ow := by
  intro h
  simp only [laws_toSlotS_3_fin, Told.val] at h
  split at h
  · rename_i ho
    obtain ⟨ht, rfl, rfl⟩ := is_iff.1 ho
    cases h
    have hlen : A.length ≤ 140737488351232 := by have := typed_room ht; simp only [show (tab 125).bytes = 40 from rfl] at this; omega
    have key := loopN_copy (step := laws_toSlotS_3_st) A (List.replicate A.length laws_toSlotS_z) laws_toSlotS_g (fun Y i => (A, Y, (i : Int))) (A.map laws_toSlotS_g) (by simp) (fun x hx i _ => by rw [(List.mem_replicate.1 hx).2]; exact Nat.le_refl 4) (fun Y i hi hl => ?_) ?_ A.length 0 (by omega)
    · rw [copied_zero] at key
      exact ⟨_, key⟩
    · have c2 : Typed tab (.str) (.s (nth (A.getD i []) 2).str) := typed_s (typed_cell ht (A.getD i []) (mem_getD hi) 2 (by decide))
      show (laws_toSlotS_3_step A Y (i : Int)).val = _
      unfold laws_toSlotS_3_step
      refine Tr.t (by simp; omega) ?_
      refine Tr.t (by constructor <;> omega) ?_
      refine Tr.t (by constructor <;> omega) ?_
      repeat (refine Tr.t (by first | (apply is_true; and_intros <;> (first | rfl | assumption | (first | (apply is_true; and_intros <;> (first | rfl | assumption | (first | (apply is_true; and_intros <;> (first | rfl | assumption | (first | (apply is_true; and_intros <;> (first | rfl | assumption)))))))))))) ?_)
      rw [Tr.val_ok, wrap64 (i := (i : Int) + 1) (by omega) (by omega)]; rfl
    · show (laws_toSlotS_3_step A (A.map laws_toSlotS_g) (A.length : Int)).val = _
      refine Tr.n (by simp) ?_
      rfl
  · cases h
theorem laws_toSlotS_is3 : LoopIs tab FT D4 live 64 laws_toSlotS_lo 0 3 := by
  refine loop_told (sl := laws_toSlotS_3_sl) (step := laws_toSlotS_3_st) (out := laws_toSlotS_3_out) (lor := laws_toSlotS_lo3) (fin := fun x => (laws_toSlotS_3_fin (x.1) (x.2.1) (x.2.2))) (fun _ => rfl) ?_ (fun x n => laws_toSlotS_3_r x.1 x.2.1 x.2.2 n) (fun x ow => laws_toSlotS_3_h x.1 x.2.1 x.2.2 ow)
  intro s t h
  unfold laws_toSlotS_lo3 at h
  split at h
  · cases h; exact ⟨(_, _, _), rfl, rfl⟩
  · cases h
noncomputable def laws_toSlotS_t (A : List (List TC)) : Tr (List (List TC)) := (.ite (0 ≤ (A.length : Int) ∧ (A.length : Int) ≤ (A.length : Int) ∧ (A.length : Int) * 40 ≤ 140737488355328 ∧ (A.length : Int) ≤ 140737488355328) (.ite ((laws_toSlotS_o3_1 A (List.replicate ((A.length : Int)).toNat [TC.i (0 : Int), TC.i (0 : Int), TC.s [], TC.b false]) (0 : Int)) = true) (.ok (laws_toSlotS_u3_1 A (List.replicate ((A.length : Int)).toNat [TC.i (0 : Int), TC.i (0 : Int), TC.s [], TC.b false]) (0 : Int)))
   .no)
  .no)
def laws_toSlotS_mk (p : List (List TC)) : Res := [(false, [⟨.slice 87, .own true, TC.l p⟩])]
noncomputable def laws_toSlotS_c (A : List (List TC)) : Bool := is (Typed tab (.slice 125) (.l A))
noncomputable def laws_toSlotS_v (A : List (List TC)) : List (List TC) := A.map laws_toSlotS_g
theorem laws_toSlotS_l (A : List (List TC)) : (laws_toSlotS_c A) = true → (laws_toSlotS_t A).val = some (laws_toSlotS_v A) := by
  intro h
  have ht := is_iff.1 h
  have hb := typed_room ht
  simp only [show (tab 125).bytes = 40 from rfl] at hb
  unfold laws_toSlotS_t
  refine Tr.t (by omega) ?_
  refine Tr.t (is_true ⟨ht, by rfl, rfl⟩) ?_
  rfl
noncomputable def laws_toSlotS_S : List Arg → Option (Bool × Res) := fun xs => match xs with
  | [(false, [(.slice 125, TC.l A)])] => some ((laws_toSlotS_c A), laws_toSlotS_mk (laws_toSlotS_v A))
  | _ => .none
theorem laws_toSlotS_e (A : List (List TC)) : runF tab FT D4 live 64 laws_toSlotS_lo [(false, [(.slice 125, TC.l A)])] = (laws_toSlotS_t A).run fun p => some (laws_toSlotS_mk p) := by kernel_rfl
theorem laws_toSlotS_s : ∀ xs r, laws_toSlotS_S xs = some (true, r) → runF tab FT D4 live 64 laws_toSlotS_lo xs = some r := by
  intro xs r h
  unfold laws_toSlotS_S at h
  split at h
  · simp only [Option.some.injEq, Prod.mk.injEq] at h
    obtain ⟨h1, rfl⟩ := h
    exact fun_told (laws_toSlotS_e _) (laws_toSlotS_l _) h1
  · cases h
noncomputable def D5 : Dt := also D4 64 laws_toSlotS_S
theorem d5 : DOk Go.Proofs.Try.prog tab D5 := d4.also mixed_ok tab_ok names_ok (fnLoops_one (by kernel_rfl) laws_toSlotS_is3) laws_toSlotS_s
theorem laws_toSlotS_ty {A : List (List TC)} (h : Typed tab (.slice 125) (.l A)) : Typed tab (.slice 87) (.l (A.map laws_toSlotS_g)) := by
  refine typed_map h (by decide) fun x _ _ hx => ⟨rfl, fun k hk => ?_⟩
  match k, hk with
    | 0, _ => exact typed_i (hx 0 (by decide))
    | 1, _ => exact typed_i (hx 1 (by decide))
    | 2, _ => exact typed_s (hx 2 (by decide))
    | 3, _ => exact typed_b (hx 3 (by decide))
/-! laws_toCache -/
noncomputable def laws_toCache_t (x0 : Int) (x1 : List (List TC)) (x2 : Int) (x3 : Int) (x4 : Int) : Tr (Int × List (List TC) × Int × Int × Int) := (.ite ((laws_toSlotS_c x1) = true) (.ok (x0, (laws_toSlotS_v x1), x2, x3, x4))
  .no)
def laws_toCache_mk (p : Int × List (List TC) × Int × Int × Int) : Res := [(true, [⟨.int .i64, .sh, TC.i (p.1)⟩, ⟨.slice 87, .own true, TC.l (p.2.1)⟩, ⟨.int .i64, .sh, TC.i (p.2.2.1)⟩, ⟨.int .i64, .sh, TC.i (p.2.2.2.1)⟩, ⟨.int .i64, .sh, TC.i (p.2.2.2.2)⟩])]
noncomputable def laws_toCache_c (x0 : Int) (x1 : List (List TC)) (x2 : Int) (x3 : Int) (x4 : Int) : Bool := is (Typed tab (.slice 125) (.l x1))
noncomputable def laws_toCache_v (x0 : Int) (x1 : List (List TC)) (x2 : Int) (x3 : Int) (x4 : Int) : Int × List (List TC) × Int × Int × Int := (x0, (laws_toSlotS_v x1), x2, x3, x4)
theorem laws_toCache_l (x0 : Int) (x1 : List (List TC)) (x2 : Int) (x3 : Int) (x4 : Int) : (laws_toCache_c x0 x1 x2 x3 x4) = true → (laws_toCache_t x0 x1 x2 x3 x4).val = some (laws_toCache_v x0 x1 x2 x3 x4) := by
  intro h
  have t0 := is_iff.1 h
  unfold laws_toCache_t
  repeat (refine Tr.t (by first | (apply is_true; and_intros <;> (first | rfl | assumption | (first | (apply is_true; and_intros <;> (first | rfl | assumption | (first | (apply is_true; and_intros <;> (first | rfl | assumption | (first | (apply is_true; and_intros <;> (first | rfl | assumption)))))))))))) ?_)
  rfl
noncomputable def laws_toCache_S : List Arg → Option (Bool × Res) := fun xs => match xs with
  | [(true, [(.int .i64, TC.i x0), (.slice 125, TC.l x1), (.int .i64, TC.i x2), (.int .i64, TC.i x3), (.int .i64, TC.i x4)])] => some ((laws_toCache_c x0 x1 x2 x3 x4), laws_toCache_mk (laws_toCache_v x0 x1 x2 x3 x4))
  | _ => .none
theorem laws_toCache_e (x0 : Int) (x1 : List (List TC)) (x2 : Int) (x3 : Int) (x4 : Int) : runF tab FT D5 live 27 noLoops [(true, [(.int .i64, TC.i x0), (.slice 125, TC.l x1), (.int .i64, TC.i x2), (.int .i64, TC.i x3), (.int .i64, TC.i x4)])] = (laws_toCache_t x0 x1 x2 x3 x4).run fun p => some (laws_toCache_mk p) := by kernel_rfl
theorem laws_toCache_s : ∀ xs r, laws_toCache_S xs = some (true, r) → runF tab FT D5 live 27 noLoops xs = some r := by
  intro xs r h
  unfold laws_toCache_S at h
  split at h
  · simp only [Option.some.injEq, Prod.mk.injEq] at h
    obtain ⟨h1, rfl⟩ := h
    exact fun_told (laws_toCache_e _ _ _ _ _) (laws_toCache_l _ _ _ _ _) h1
  · cases h
noncomputable def D6 : Dt := also D5 27 laws_toCache_S
theorem d6 : DOk Go.Proofs.Try.prog tab D6 := d5.also mixed_ok tab_ok names_ok noLoops_ok laws_toCache_s
/-! spec_SameCache -/
def E_87 (x y : List TC) : Bool := (((nth x 0).int == (nth y 0).int) && (((nth x 1).int == (nth y 1).int) && (((nth x 2).str == (nth y 2).str) && (((nth x 3).bool == (nth y 3).bool) && true))))
def sameCache (s : Int) (A : List (List TC)) (h m w s2 : Int) (C : List (List TC)) (h2 m2 w2 : Int) : Bool := (s == s2) && allEq E_87 A C && (h == h2) && (m == m2) && (w == w2)
noncomputable def spec_SameCache_f4 (s : Int) (A : List (List TC)) (h : Int) (m : Int) (w : Int) (s2 : Int) (C : List (List TC)) (h2 : Int) (m2 : Int) (w2 : Int) (i : Int) : (Unit) ⊕ ((Unit) ⊕ (Unit)) := (bif (!(((nth (row A i) 0).int == (nth (row C i) 0).int) && (((nth (row A i) 1).int == (nth (row C i) 1).int) && (((nth (row A i) 2).str == (nth (row C i) 2).str) && (((nth (row A i) 3).bool == (nth (row C i) 3).bool) && true))))) then (.inr (.inl ())) else (.inl ()))
noncomputable def spec_SameCache_e4 (s : Int) (A : List (List TC)) (h : Int) (m : Int) (w : Int) (s2 : Int) (C : List (List TC)) (h2 : Int) (m2 : Int) (w2 : Int) : (Unit) ⊕ (Unit) := .inr ()
noncomputable def spec_SameCache_R4 (s : Int) (A : List (List TC)) (h : Int) (m : Int) (w : Int) (s2 : Int) (C : List (List TC)) (h2 : Int) (m2 : Int) (w2 : Int) (i : Int) : (Unit) ⊕ (Unit) := iter (fun i a => (spec_SameCache_f4 s A h m w s2 C h2 m2 w2 (i : Int))) (fun a => (spec_SameCache_e4 s A h m w s2 C h2 m2 w2)) (A.length) 0 ()
abbrev spec_SameCache_4_σ := Int × List (List TC) × Int × Int × Int × Int × List (List TC) × Int × Int × Int × Int
abbrev spec_SameCache_4_ω := (Unit) ⊕ (Unit)
noncomputable def spec_SameCache_4_step (s : Int) (A : List (List TC)) (h : Int) (m : Int) (w : Int) (s2 : Int) (C : List (List TC)) (h2 : Int) (m2 : Int) (w2 : Int) (i : Int) : Tr (spec_SameCache_4_σ ⊕ spec_SameCache_4_ω) := (.ite ((decide (i < (A.length : Int))) = true) (.ite ((0 : Int) ≤ i ∧ i < (A.length : Int)) (.ite ((0 : Int) ≤ i ∧ i < (C.length : Int)) (.ite ((!(((nth (row A i) 0).int == (nth (row C i) 0).int) && (((nth (row A i) 1).int == (nth (row C i) 1).int) && (((nth (row A i) 2).str == (nth (row C i) 2).str) && (((nth (row A i) 3).bool == (nth (row C i) 3).bool) && true))))) = true) (.ok (.inr (.inl ())))
     (.ok (.inl (s, A, h, m, w, s2, C, h2, m2, w2, (IntKind.wrap .i64 (i + (1 : Int)))))))
    .no)
   .no)
  (.ok (.inr (.inr ()))))
noncomputable def spec_SameCache_4_st : spec_SameCache_4_σ → Tr (spec_SameCache_4_σ ⊕ spec_SameCache_4_ω) := fun x => (spec_SameCache_4_step (x.1) (x.2.1) (x.2.2.1) (x.2.2.2.1) (x.2.2.2.2.1) (x.2.2.2.2.2.1) (x.2.2.2.2.2.2.1) (x.2.2.2.2.2.2.2.1) (x.2.2.2.2.2.2.2.2.1) (x.2.2.2.2.2.2.2.2.2.1) (x.2.2.2.2.2.2.2.2.2.2))
noncomputable def spec_SameCache_k4_1 (s : Int) (A : List (List TC)) (h : Int) (m : Int) (w : Int) (s2 : Int) (C : List (List TC)) (h2 : Int) (m2 : Int) (w2 : Int) (i : Int) : Bool := sumIs (spec_SameCache_R4 s A h m w s2 C h2 m2 w2 i)
noncomputable def spec_SameCache_o4_2 (s : Int) (A : List (List TC)) (h : Int) (m : Int) (w : Int) (s2 : Int) (C : List (List TC)) (h2 : Int) (m2 : Int) (w2 : Int) (i : Int) : Bool := is (i = 0 ∧ Typed tab (.slice 87) (.l A) ∧ A.length = C.length)
noncomputable def spec_SameCache_o4_3 (s : Int) (A : List (List TC)) (h : Int) (m : Int) (w : Int) (s2 : Int) (C : List (List TC)) (h2 : Int) (m2 : Int) (w2 : Int) (i : Int) : Bool := is (i = 0 ∧ Typed tab (.slice 87) (.l A) ∧ A.length = C.length)
noncomputable def spec_SameCache_4_fin (s : Int) (A : List (List TC)) (h : Int) (m : Int) (w : Int) (s2 : Int) (C : List (List TC)) (h2 : Int) (m2 : Int) (w2 : Int) (i : Int) : Told spec_SameCache_4_ω := (.br (spec_SameCache_k4_1 s A h m w s2 C h2 m2 w2 i) (.leaf (spec_SameCache_o4_2 s A h m w s2 C h2 m2 w2 i) (.inl ())) (.leaf (spec_SameCache_o4_3 s A h m w s2 C h2 m2 w2 i) (.inr ())))
def spec_SameCache_4_sl (x : spec_SameCache_4_σ) : List Slot := [⟨.bx 24 [⟨.int .i64, .sh, TC.i (x.1)⟩, ⟨.slice 87, .sh, TC.l (x.2.1)⟩, ⟨.int .i64, .sh, TC.i (x.2.2.1)⟩, ⟨.int .i64, .sh, TC.i (x.2.2.2.1)⟩, ⟨.int .i64, .sh, TC.i (x.2.2.2.2.1)⟩], ⟨0, 0⟩⟩, ⟨.bx 24 [⟨.int .i64, .sh, TC.i (x.2.2.2.2.2.1)⟩, ⟨.slice 87, .sh, TC.l (x.2.2.2.2.2.2.1)⟩, ⟨.int .i64, .sh, TC.i (x.2.2.2.2.2.2.2.1)⟩, ⟨.int .i64, .sh, TC.i (x.2.2.2.2.2.2.2.2.1)⟩, ⟨.int .i64, .sh, TC.i (x.2.2.2.2.2.2.2.2.2.1)⟩], ⟨0, 0⟩⟩, ⟨.val false [⟨.int .i64, .sh, TC.i (x.2.2.2.2.2.2.2.2.2.2)⟩], ⟨0, 0⟩⟩]
def spec_SameCache_4_out : spec_SameCache_4_ω → Ex × List Slot := (Sum.elim (fun x => (.ret, [⟨.val false [⟨.bool, .sh, TC.b false⟩], ⟨0, 0⟩⟩])) (fun x => (.exit 0, [Slot.none])))
noncomputable def spec_SameCache_lo4 : List Slot → Option (Told (Ex × List Slot)) := fun s => match s with
  | [⟨.bx 24 [⟨.int .i64, .sh, TC.i s⟩, ⟨.slice 87, .sh, TC.l A⟩, ⟨.int .i64, .sh, TC.i h⟩, ⟨.int .i64, .sh, TC.i m⟩, ⟨.int .i64, .sh, TC.i w⟩], ⟨0, 0⟩⟩, ⟨.bx 24 [⟨.int .i64, .sh, TC.i s2⟩, ⟨.slice 87, .sh, TC.l C⟩, ⟨.int .i64, .sh, TC.i h2⟩, ⟨.int .i64, .sh, TC.i m2⟩, ⟨.int .i64, .sh, TC.i w2⟩], ⟨0, 0⟩⟩, ⟨.val false [⟨.int .i64, .sh, TC.i i⟩], ⟨0, 0⟩⟩] => some (((spec_SameCache_4_fin s A h m w s2 C h2 m2 w2 i)).map spec_SameCache_4_out)
  | _ => .none
noncomputable def spec_SameCache_lo : LoopTeller := fun r s => bif Nat.beq r 4 then spec_SameCache_lo4 s else .none
theorem spec_SameCache_4_r (s : Int) (A : List (List TC)) (h : Int) (m : Int) (w : Int) (s2 : Int) (C : List (List TC)) (h2 : Int) (m2 : Int) (w2 : Int) (i : Int) (fuel : Nat) : rounds (rnd tab FT D6 live 26 spec_SameCache_lo 0 4) leave (fuel + 1) (spec_SameCache_4_sl (s, A, h, m, w, s2, C, h2, m2, w2, i)) = ((spec_SameCache_4_step s A h m w s2 C h2 m2 w2 i)).run (goOn (fun s => rounds (rnd tab FT D6 live 26 spec_SameCache_lo 0 4) leave fuel (spec_SameCache_4_sl s)) fun w => some (spec_SameCache_4_out w)) := by kernel_rfl
theorem spec_SameCache_f4_eq (s : Int) (A : List (List TC)) (h m w s2 : Int) (C : List (List TC)) (h2 m2 w2 : Int) (i : Int) : spec_SameCache_f4 s A h m w s2 C h2 m2 w2 i = bif E_87 (row A i) (row C i) then Sum.inl () else Sum.inr (Sum.inl ()) := by
  unfold spec_SameCache_f4
  show (bif !(E_87 (row A i) (row C i)) then _ else _) = _
  generalize E_87 (row A i) (row C i) = p0
  cases p0 <;> rfl
theorem spec_SameCache_R4_eq (s : Int) (A : List (List TC)) (h m w s2 : Int) (C : List (List TC)) (h2 m2 w2 : Int)  : spec_SameCache_R4 s A h m w s2 C h2 m2 w2 0 = bif allI (fun i : Nat => E_87 (row A (i : Int)) (row C (i : Int))) (A.length) then Sum.inr () else (Sum.inl ()) := by
  unfold spec_SameCache_R4
  exact (iter_all (P := (fun i : Nat => E_87 (row A (i : Int)) (row C (i : Int)))) (g := fun _ a => a) (w := Sum.inl ()) fun j a _ => spec_SameCache_f4_eq s A h m w s2 C h2 m2 w2 _)
theorem spec_SameCache_4_h (s : Int) (A : List (List TC)) (h : Int) (m : Int) (w : Int) (s2 : Int) (C : List (List TC)) (h2 : Int) (m2 : Int) (w2 : Int) (i : Int) (ow : spec_SameCache_4_ω) : ((spec_SameCache_4_fin s A h m w s2 C h2 m2 w2 i)).val = some ow → ∃ fuel, loopN spec_SameCache_4_st fuel (s, A, h, m, w, s2, C, h2, m2, w2, i) = some ow := by
  refine auto_sum (R := (spec_SameCache_R4 s A h m w s2 C h2 m2 w2 i)) rfl rfl rfl ?_
  intro ho
  have ho : is (i = 0 ∧ Typed tab (.slice 87) (.l A) ∧ A.length = C.length) = true := ho.elim id id
  obtain ⟨rfl, ht, hl⟩ := is_iff.1 ho
  have hlen : A.length ≤ 140737488351232 := by have := typed_room ht; simp only [show (tab 87).bytes = 40 from rfl] at this; omega
  refine ⟨(A.length) + 1, ?_⟩
  refine iter_loop (step := spec_SameCache_4_st) (A.length) (fun i a => (spec_SameCache_f4 s A h m w s2 C h2 m2 w2 (i : Int))) (fun a => (spec_SameCache_e4 s A h m w s2 C h2 m2 w2)) (fun i a => (s, A, h, m, w, s2, C, h2, m2, w2, (i : Int))) (fun _ _ => True) trivial (fun i a hi hI => ⟨?_, fun _ _ => trivial⟩) (fun a hI => ?_)
  · show (spec_SameCache_4_step s A h m w s2 C h2 m2 w2 (i : Int)).val = _
    unfold spec_SameCache_4_step spec_SameCache_f4
    skip
    refine Tr.t (by simp; omega) ?_
    exact (Tr.t (by first | omega | (constructor <;> omega)) (Tr.t (by first | omega | (constructor <;> omega)) (Tr.bf rfl (by rw [Tr.val_ok, wrap64 (i := (i : Int) + 1) (by omega) (by omega)]; rfl))))
  · show (spec_SameCache_4_step s A h m w s2 C h2 m2 w2 (A.length : Int)).val = _
    refine Tr.n (by first | (simp; done) | (simp; omega) | omega) ?_
    rfl
theorem spec_SameCache_is4 : LoopIs tab FT D6 live 26 spec_SameCache_lo 0 4 := by
  refine loop_told (sl := spec_SameCache_4_sl) (step := spec_SameCache_4_st) (out := spec_SameCache_4_out) (lor := spec_SameCache_lo4) (fin := fun x => (spec_SameCache_4_fin (x.1) (x.2.1) (x.2.2.1) (x.2.2.2.1) (x.2.2.2.2.1) (x.2.2.2.2.2.1) (x.2.2.2.2.2.2.1) (x.2.2.2.2.2.2.2.1) (x.2.2.2.2.2.2.2.2.1) (x.2.2.2.2.2.2.2.2.2.1) (x.2.2.2.2.2.2.2.2.2.2))) (fun _ => rfl) ?_ (fun x n => spec_SameCache_4_r x.1 x.2.1 x.2.2.1 x.2.2.2.1 x.2.2.2.2.1 x.2.2.2.2.2.1 x.2.2.2.2.2.2.1 x.2.2.2.2.2.2.2.1 x.2.2.2.2.2.2.2.2.1 x.2.2.2.2.2.2.2.2.2.1 x.2.2.2.2.2.2.2.2.2.2 n) (fun x ow => spec_SameCache_4_h x.1 x.2.1 x.2.2.1 x.2.2.2.1 x.2.2.2.2.1 x.2.2.2.2.2.1 x.2.2.2.2.2.2.1 x.2.2.2.2.2.2.2.1 x.2.2.2.2.2.2.2.2.1 x.2.2.2.2.2.2.2.2.2.1 x.2.2.2.2.2.2.2.2.2.2 ow)
  intro s t h
  unfold spec_SameCache_lo4 at h
  split at h
  · cases h; exact ⟨(_, _, _, _, _, _, _, _, _, _, _), rfl, rfl⟩
  · cases h
noncomputable def spec_SameCache_t (s : Int) (A : List (List TC)) (h : Int) (m : Int) (w : Int) (s2 : Int) (C : List (List TC)) (h2 : Int) (m2 : Int) (w2 : Int) : Tr (Bool) := (.ite ((!(s == s2)) = true) (.ok false)
  (.ite ((!(h == h2)) = true) (.ok false)
   (.ite ((!(m == m2)) = true) (.ok false)
    (.ite ((!(w == w2)) = true) (.ok false)
     (.ite ((!((A.length : Int) == (C.length : Int))) = true) (.ok false)
      (.ite ((spec_SameCache_k4_1 s A h m w s2 C h2 m2 w2 (0 : Int)) = true) (.ite ((spec_SameCache_o4_2 s A h m w s2 C h2 m2 w2 (0 : Int)) = true) (.ok false)
        .no)
       (.ite ((spec_SameCache_o4_3 s A h m w s2 C h2 m2 w2 (0 : Int)) = true) (.ok true)
        .no)))))))
def spec_SameCache_mk (p : Bool) : Res := [(false, [⟨.bool, .sh, TC.b p⟩])]
noncomputable def spec_SameCache_c (s : Int) (A : List (List TC)) (h : Int) (m : Int) (w : Int) (s2 : Int) (C : List (List TC)) (h2 : Int) (m2 : Int) (w2 : Int) : Bool := (bif (!(s == s2)) then true else (bif (!(h == h2)) then true else (bif (!(m == m2)) then true else (bif (!(w == w2)) then true else (bif (!((A.length : Int) == (C.length : Int))) then true else (bif (spec_SameCache_k4_1 s A h m w s2 C h2 m2 w2 (0 : Int)) then ((spec_SameCache_o4_2 s A h m w s2 C h2 m2 w2 (0 : Int)) && true) else ((spec_SameCache_o4_3 s A h m w s2 C h2 m2 w2 (0 : Int)) && true)))))))
noncomputable def spec_SameCache_v (s : Int) (A : List (List TC)) (h : Int) (m : Int) (w : Int) (s2 : Int) (C : List (List TC)) (h2 : Int) (m2 : Int) (w2 : Int) : Bool := (bif (!(s == s2)) then false else (bif (!(h == h2)) then false else (bif (!(m == m2)) then false else (bif (!(w == w2)) then false else (bif (!((A.length : Int) == (C.length : Int))) then false else (bif (spec_SameCache_k4_1 s A h m w s2 C h2 m2 w2 (0 : Int)) then false else true))))))
theorem spec_SameCache_l (s : Int) (A : List (List TC)) (h : Int) (m : Int) (w : Int) (s2 : Int) (C : List (List TC)) (h2 : Int) (m2 : Int) (w2 : Int) : (spec_SameCache_c s A h m w s2 C h2 m2 w2) = true → (spec_SameCache_t s A h m w s2 C h2 m2 w2).val = some (spec_SameCache_v s A h m w s2 C h2 m2 w2) := by
  unfold spec_SameCache_t spec_SameCache_v spec_SameCache_c
  exact fun h => (Tr.ss h (fun h => rfl) (fun h => (Tr.ss h (fun h => rfl) (fun h => (Tr.ss h (fun h => rfl) (fun h => (Tr.ss h (fun h => rfl) (fun h => (Tr.ss h (fun h => rfl) (fun h => (Tr.ss h (fun h => (Tr.gb h fun h => rfl)) (fun h => (Tr.gb h fun h => rfl)))))))))))))
noncomputable def spec_SameCache_S : List Arg → Option (Bool × Res) := fun xs => match xs with
  | [(true, [(.int .i64, TC.i s), (.slice 87, TC.l A), (.int .i64, TC.i h), (.int .i64, TC.i m), (.int .i64, TC.i w)]), (true, [(.int .i64, TC.i s2), (.slice 87, TC.l C), (.int .i64, TC.i h2), (.int .i64, TC.i m2), (.int .i64, TC.i w2)])] => some ((spec_SameCache_c s A h m w s2 C h2 m2 w2), spec_SameCache_mk (spec_SameCache_v s A h m w s2 C h2 m2 w2))
  | _ => .none
theorem spec_SameCache_e (s : Int) (A : List (List TC)) (h : Int) (m : Int) (w : Int) (s2 : Int) (C : List (List TC)) (h2 : Int) (m2 : Int) (w2 : Int) : runF tab FT D6 live 26 spec_SameCache_lo [(true, [(.int .i64, TC.i s), (.slice 87, TC.l A), (.int .i64, TC.i h), (.int .i64, TC.i m), (.int .i64, TC.i w)]), (true, [(.int .i64, TC.i s2), (.slice 87, TC.l C), (.int .i64, TC.i h2), (.int .i64, TC.i m2), (.int .i64, TC.i w2)])] = (spec_SameCache_t s A h m w s2 C h2 m2 w2).run fun p => some (spec_SameCache_mk p) := by kernel_rfl
theorem spec_SameCache_s : ∀ xs r, spec_SameCache_S xs = some (true, r) → runF tab FT D6 live 26 spec_SameCache_lo xs = some r := by
  intro xs r h
  unfold spec_SameCache_S at h
  split at h
  · simp only [Option.some.injEq, Prod.mk.injEq] at h
    obtain ⟨h1, rfl⟩ := h
    exact fun_told (spec_SameCache_e _ _ _ _ _ _ _ _ _ _) (spec_SameCache_l _ _ _ _ _ _ _ _ _ _) h1
  · cases h
noncomputable def D7 : Dt := also D6 26 spec_SameCache_S
theorem d7 : DOk Go.Proofs.Try.prog tab D7 := d6.also mixed_ok tab_ok names_ok (fnLoops_one (by kernel_rfl) spec_SameCache_is4) spec_SameCache_s
theorem spec_SameCache_cc {s : Int} {A : List (List TC)} {h : Int} {m : Int} {w : Int} {s2 : Int} {C : List (List TC)} {h2 : Int} {m2 : Int} {w2 : Int} (hA : Typed tab (.slice 87) (.l A)) : (spec_SameCache_c s A h m w s2 C h2 m2 w2) = true := by
  unfold spec_SameCache_c
  refine bifT (fun b1 => ?_) (fun b1 => ?_)
  · skip
    rfl
  · skip
    refine bifT (fun b2 => ?_) (fun b2 => ?_)
    · skip
      rfl
    · skip
      refine bifT (fun b3 => ?_) (fun b3 => ?_)
      · skip
        rfl
      · skip
        refine bifT (fun b4 => ?_) (fun b4 => ?_)
        · skip
          rfl
        · skip
          refine bifT (fun b5 => ?_) (fun b5 => ?_)
          · skip
            rfl
          · skip
            refine bifT (fun b6 => ?_) (fun b6 => ?_)
            · skip
              refine andT (by exact is_true ⟨rfl, hA, lenEq2 b5⟩) ?_
              rfl
            · skip
              refine andT (by exact is_true ⟨rfl, hA, lenEq2 b5⟩) ?_
              rfl
theorem spec_SameCache_vv (s : Int) (A : List (List TC)) (h m w s2 : Int) (C : List (List TC)) (h2 m2 w2 : Int) : spec_SameCache_v s A h m w s2 C h2 m2 w2 = sameCache s A h m w s2 C h2 m2 w2 := by
  unfold spec_SameCache_v spec_SameCache_k4_1
  rw [spec_SameCache_R4_eq]
  unfold sameCache
  by_cases hl : A.length = C.length
  · rw [show allI (fun i : Nat => E_87 (row A (i : Int)) (row C (i : Int))) A.length = allEq E_87 A C from allI_allEq hl]
    rw [show ((A.length : Int) == (C.length : Int)) = true from by rw [hl]; simp]
    cases (s == s2) <;> cases allEq E_87 A C <;> cases (h == h2) <;> cases (m == m2) <;> cases (w == w2) <;> rfl
  · rw [allEq_ne hl, show ((A.length : Int) == (C.length : Int)) = false from by rw [beq_eq_false_iff_ne]; omega]
    cases (s == s2) <;> cases (h == h2) <;> cases (m == m2) <;> cases (w == w2) <;> rfl
/-! slices_Equal_impl_Slot_impl_Slot -/
abbrev slices_Equal_impl_Slot_impl_Slot_4_σ := List (List TC) × List (List TC) × Int × Int
abbrev slices_Equal_impl_Slot_impl_Slot_4_ω := (Unit) ⊕ (Unit)
noncomputable def slices_Equal_impl_Slot_impl_Slot_4_step (A : List (List TC)) (C : List (List TC)) (m : Int) (i : Int) : Tr (slices_Equal_impl_Slot_impl_Slot_4_σ ⊕ slices_Equal_impl_Slot_impl_Slot_4_ω) := (.ite ((decide (i < m)) = true) (.ite ((0 : Int) ≤ i ∧ i < (A.length : Int)) (.ite ((0 : Int) ≤ i ∧ i < (C.length : Int)) (.ite ((!(((nth (row A i) 0).int == (nth (row C i) 0).int) && (((nth (row A i) 1).int == (nth (row C i) 1).int) && (((nth (row A i) 2).str == (nth (row C i) 2).str) && (((nth (row A i) 3).bool == (nth (row C i) 3).bool) && true))))) = true) (.ok (.inr (.inl ())))
     (.ok (.inl (A, C, m, (IntKind.wrap .i64 (i + (1 : Int)))))))
    .no)
   .no)
  (.ok (.inr (.inr ()))))
noncomputable def slices_Equal_impl_Slot_impl_Slot_4_st : slices_Equal_impl_Slot_impl_Slot_4_σ → Tr (slices_Equal_impl_Slot_impl_Slot_4_σ ⊕ slices_Equal_impl_Slot_impl_Slot_4_ω) := fun x => (slices_Equal_impl_Slot_impl_Slot_4_step (x.1) (x.2.1) (x.2.2.1) (x.2.2.2))
noncomputable def slices_Equal_impl_Slot_impl_Slot_k4_1 (A : List (List TC)) (C : List (List TC)) (m : Int) (i : Int) : Bool := allEq E_87 A C
noncomputable def slices_Equal_impl_Slot_impl_Slot_o4_2 (A : List (List TC)) (C : List (List TC)) (m : Int) (i : Int) : Bool := is (A.length = C.length ∧ i = 0 ∧ Typed tab (.slice 87) (.l A) ∧ m = (A.length : Int))
noncomputable def slices_Equal_impl_Slot_impl_Slot_o4_3 (A : List (List TC)) (C : List (List TC)) (m : Int) (i : Int) : Bool := is (A.length = C.length ∧ i = 0 ∧ Typed tab (.slice 87) (.l A) ∧ m = (A.length : Int))
noncomputable def slices_Equal_impl_Slot_impl_Slot_4_fin (A : List (List TC)) (C : List (List TC)) (m : Int) (i : Int) : Told slices_Equal_impl_Slot_impl_Slot_4_ω := (.br (slices_Equal_impl_Slot_impl_Slot_k4_1 A C m i) (.leaf (slices_Equal_impl_Slot_impl_Slot_o4_2 A C m i) (.inr ())) (.leaf (slices_Equal_impl_Slot_impl_Slot_o4_3 A C m i) (.inl ())))
def slices_Equal_impl_Slot_impl_Slot_4_sl (x : slices_Equal_impl_Slot_impl_Slot_4_σ) : List Slot := [⟨.val false [⟨.slice 87, .sh, TC.l (x.1)⟩], ⟨0, 0⟩⟩, ⟨.val false [⟨.slice 87, .sh, TC.l (x.2.1)⟩], ⟨0, 0⟩⟩, ⟨.val false [⟨.int .i64, .sh, TC.i (x.2.2.1)⟩], ⟨0, 0⟩⟩, ⟨.val false [⟨.int .i64, .sh, TC.i (x.2.2.2)⟩], ⟨0, 0⟩⟩]
def slices_Equal_impl_Slot_impl_Slot_4_out : slices_Equal_impl_Slot_impl_Slot_4_ω → Ex × List Slot := (Sum.elim (fun x => (.ret, [⟨.val false [⟨.bool, .sh, TC.b false⟩], ⟨0, 0⟩⟩])) (fun x => (.exit 0, [Slot.none])))
noncomputable def slices_Equal_impl_Slot_impl_Slot_lo4 : List Slot → Option (Told (Ex × List Slot)) := fun s => match s with
  | [⟨.val false [⟨.slice 87, .sh, TC.l A⟩], ⟨0, 0⟩⟩, ⟨.val false [⟨.slice 87, .sh, TC.l C⟩], ⟨0, 0⟩⟩, ⟨.val false [⟨.int .i64, .sh, TC.i m⟩], ⟨0, 0⟩⟩, ⟨.val false [⟨.int .i64, .sh, TC.i i⟩], ⟨0, 0⟩⟩] => some (((slices_Equal_impl_Slot_impl_Slot_4_fin A C m i)).map slices_Equal_impl_Slot_impl_Slot_4_out)
  | _ => .none
noncomputable def slices_Equal_impl_Slot_impl_Slot_lo : LoopTeller := fun r s => bif Nat.beq r 4 then slices_Equal_impl_Slot_impl_Slot_lo4 s else .none
theorem slices_Equal_impl_Slot_impl_Slot_4_r (A : List (List TC)) (C : List (List TC)) (m : Int) (i : Int) (fuel : Nat) : rounds (rnd tab FT D7 live 65 slices_Equal_impl_Slot_impl_Slot_lo 0 4) leave (fuel + 1) (slices_Equal_impl_Slot_impl_Slot_4_sl (A, C, m, i)) = ((slices_Equal_impl_Slot_impl_Slot_4_step A C m i)).run (goOn (fun s => rounds (rnd tab FT D7 live 65 slices_Equal_impl_Slot_impl_Slot_lo 0 4) leave fuel (slices_Equal_impl_Slot_impl_Slot_4_sl s)) fun w => some (slices_Equal_impl_Slot_impl_Slot_4_out w)) := by kernel_rfl
theorem slices_Equal_impl_Slot_impl_Slot_4_h (A : List (List TC)) (C : List (List TC)) (m : Int) (i : Int) (ow : slices_Equal_impl_Slot_impl_Slot_4_ω) : ((slices_Equal_impl_Slot_impl_Slot_4_fin A C m i)).val = some ow → ∃ fuel, loopN slices_Equal_impl_Slot_impl_Slot_4_st fuel (A, C, m, i) = some ow := by
  intro h
  have key : A.length = C.length → Typed tab (.slice 87) (.l A) → loopN slices_Equal_impl_Slot_impl_Slot_4_st (A.length + 1) (A, C, (A.length : Int), 0) = some (if allEq E_87 A C = true then .inr () else .inl ()) := by
    intro hl ht
    have hlen : A.length ≤ 140737488351232 := by have := typed_room ht; simp only [show (tab 87).bytes = 40 from rfl] at this; omega
    refine loopN_allEq A C E_87 (fun i => (A, C, (A.length : Int), (i : Int))) _ _ hl (fun i hi => ?_) ?_ A.length 0 (by omega)
    · show (slices_Equal_impl_Slot_impl_Slot_4_step A C (A.length : Int) (i : Int)).val = _
      unfold slices_Equal_impl_Slot_impl_Slot_4_step
      refine Tr.t (by simp; omega) ?_
      refine Tr.t (by constructor <;> omega) ?_
      refine Tr.t (by constructor <;> omega) ?_
      rw [wrap64 (i := (i : Int) + 1) (by omega) (by omega)]
      rw [Tr.val_br]
      show (if (!(E_87 (A.getD i []) (C.getD i []))) = true then _ else _) = _
      cases E_87 (A.getD i []) (C.getD i []) <;> rfl
    · show (slices_Equal_impl_Slot_impl_Slot_4_step A C (A.length : Int) (A.length : Int)).val = _
      refine Tr.n (by simp) ?_
      rfl
  simp only [slices_Equal_impl_Slot_impl_Slot_4_fin, Told.val] at h
  cases hk : allEq E_87 A C with
  | true =>
    rw [if_pos (show slices_Equal_impl_Slot_impl_Slot_k4_1 A C m i = true from hk)] at h
    split at h
    · rename_i ho
      obtain ⟨hl, rfl, ht, rfl⟩ := is_iff.1 ho
      cases h
      refine ⟨_, (key hl ht).trans ?_⟩
      rw [hk]; rfl
    · cases h
  | false =>
    rw [if_neg (show ¬slices_Equal_impl_Slot_impl_Slot_k4_1 A C m i = true from by rw [show slices_Equal_impl_Slot_impl_Slot_k4_1 A C m i = allEq E_87 A C from rfl, hk]; simp)] at h
    split at h
    · rename_i ho
      obtain ⟨hl, rfl, ht, rfl⟩ := is_iff.1 ho
      cases h
      refine ⟨_, (key hl ht).trans ?_⟩
      rw [hk]; rfl
    · cases h
theorem slices_Equal_impl_Slot_impl_Slot_is4 : LoopIs tab FT D7 live 65 slices_Equal_impl_Slot_impl_Slot_lo 0 4 := by
  refine loop_told (sl := slices_Equal_impl_Slot_impl_Slot_4_sl) (step := slices_Equal_impl_Slot_impl_Slot_4_st) (out := slices_Equal_impl_Slot_impl_Slot_4_out) (lor := slices_Equal_impl_Slot_impl_Slot_lo4) (fin := fun x => (slices_Equal_impl_Slot_impl_Slot_4_fin (x.1) (x.2.1) (x.2.2.1) (x.2.2.2))) (fun _ => rfl) ?_ (fun x n => slices_Equal_impl_Slot_impl_Slot_4_r x.1 x.2.1 x.2.2.1 x.2.2.2 n) (fun x ow => slices_Equal_impl_Slot_impl_Slot_4_h x.1 x.2.1 x.2.2.1 x.2.2.2 ow)
  intro s t h
  unfold slices_Equal_impl_Slot_impl_Slot_lo4 at h
  split at h
  · cases h; exact ⟨(_, _, _, _), rfl, rfl⟩
  · cases h
noncomputable def slices_Equal_impl_Slot_impl_Slot_t (A : List (List TC)) (C : List (List TC)) : Tr (Bool) := (.ite ((!((A.length : Int) == (C.length : Int))) = true) (.ok false)
  (.ite ((slices_Equal_impl_Slot_impl_Slot_k4_1 A C (A.length : Int) (0 : Int)) = true) (.ite ((slices_Equal_impl_Slot_impl_Slot_o4_2 A C (A.length : Int) (0 : Int)) = true) (.ok true)
    .no)
   (.ite ((slices_Equal_impl_Slot_impl_Slot_o4_3 A C (A.length : Int) (0 : Int)) = true) (.ok false)
    .no)))
def slices_Equal_impl_Slot_impl_Slot_mk (p : Bool) : Res := [(false, [⟨.bool, .sh, TC.b p⟩])]
noncomputable def slices_Equal_impl_Slot_impl_Slot_c (A : List (List TC)) (C : List (List TC)) : Bool := is (Typed tab (.slice 87) (.l A))
noncomputable def slices_Equal_impl_Slot_impl_Slot_v (A : List (List TC)) (C : List (List TC)) : Bool := allEq E_87 A C
theorem slices_Equal_impl_Slot_impl_Slot_l (A : List (List TC)) (C : List (List TC)) : (slices_Equal_impl_Slot_impl_Slot_c A C) = true → (slices_Equal_impl_Slot_impl_Slot_t A C).val = some (slices_Equal_impl_Slot_impl_Slot_v A C) := by
  intro h
  have ht := is_iff.1 h
  unfold slices_Equal_impl_Slot_impl_Slot_t
  by_cases hl : A.length = C.length
  · refine Tr.n (by simp [hl]) ?_
    cases hk : allEq E_87 A C with
    | true =>
      refine Tr.t (show allEq E_87 A C = true from hk) ?_
      refine Tr.t (is_true ⟨hl, rfl, ht, rfl⟩) ?_
      show _ = some (allEq E_87 A C); rw [hk]; rfl
    | false =>
      refine Tr.n (show ¬allEq E_87 A C = true from by rw [hk]; simp) ?_
      refine Tr.t (is_true ⟨hl, rfl, ht, rfl⟩) ?_
      show _ = some (allEq E_87 A C); rw [hk]; rfl
  · refine Tr.t (by simp; omega) ?_
    show _ = some (allEq E_87 A C)
    rw [allEq_ne hl]
    rfl
noncomputable def slices_Equal_impl_Slot_impl_Slot_S : List Arg → Option (Bool × Res) := fun xs => match xs with
  | [(false, [(.slice 87, TC.l A)]), (false, [(.slice 87, TC.l C)])] => some ((slices_Equal_impl_Slot_impl_Slot_c A C), slices_Equal_impl_Slot_impl_Slot_mk (slices_Equal_impl_Slot_impl_Slot_v A C))
  | _ => .none
theorem slices_Equal_impl_Slot_impl_Slot_e (A : List (List TC)) (C : List (List TC)) : runF tab FT D7 live 65 slices_Equal_impl_Slot_impl_Slot_lo [(false, [(.slice 87, TC.l A)]), (false, [(.slice 87, TC.l C)])] = (slices_Equal_impl_Slot_impl_Slot_t A C).run fun p => some (slices_Equal_impl_Slot_impl_Slot_mk p) := by kernel_rfl
theorem slices_Equal_impl_Slot_impl_Slot_s : ∀ xs r, slices_Equal_impl_Slot_impl_Slot_S xs = some (true, r) → runF tab FT D7 live 65 slices_Equal_impl_Slot_impl_Slot_lo xs = some r := by
  intro xs r h
  unfold slices_Equal_impl_Slot_impl_Slot_S at h
  split at h
  · simp only [Option.some.injEq, Prod.mk.injEq] at h
    obtain ⟨h1, rfl⟩ := h
    exact fun_told (slices_Equal_impl_Slot_impl_Slot_e _ _) (slices_Equal_impl_Slot_impl_Slot_l _ _) h1
  · cases h
noncomputable def D8 : Dt := also D7 65 slices_Equal_impl_Slot_impl_Slot_S
theorem d8 : DOk Go.Proofs.Try.prog tab D8 := d7.also mixed_ok tab_ok names_ok (fnLoops_one (by kernel_rfl) slices_Equal_impl_Slot_impl_Slot_is4) slices_Equal_impl_Slot_impl_Slot_s
/-! impl_SameCache -/
noncomputable def impl_SameCache_t (s : Int) (A : List (List TC)) (h : Int) (m : Int) (w : Int) (s2 : Int) (C : List (List TC)) (h2 : Int) (m2 : Int) (w2 : Int) : Tr (Bool) := (.ite ((s == s2) = true) (.ite ((slices_Equal_impl_Slot_impl_Slot_c A C) = true) (.ite ((slices_Equal_impl_Slot_impl_Slot_v A C) = true) (.ite ((h == h2) = true) (.ite ((m == m2) = true) (.ok (w == w2))
      (.ok false))
     (.ok false))
    (.ok false))
   .no)
  (.ok false))
def impl_SameCache_mk (p : Bool) : Res := [(false, [⟨.bool, .sh, TC.b p⟩])]
noncomputable def impl_SameCache_c (s : Int) (A : List (List TC)) (h : Int) (m : Int) (w : Int) (s2 : Int) (C : List (List TC)) (h2 : Int) (m2 : Int) (w2 : Int) : Bool := (slices_Equal_impl_Slot_impl_Slot_c A C)
noncomputable def impl_SameCache_v (s : Int) (A : List (List TC)) (h : Int) (m : Int) (w : Int) (s2 : Int) (C : List (List TC)) (h2 : Int) (m2 : Int) (w2 : Int) : Bool := (bif (s == s2) then (bif (slices_Equal_impl_Slot_impl_Slot_v A C) then (bif (h == h2) then (bif (m == m2) then (w == w2) else false) else false) else false) else false)
theorem impl_SameCache_l (s : Int) (A : List (List TC)) (h : Int) (m : Int) (w : Int) (s2 : Int) (C : List (List TC)) (h2 : Int) (m2 : Int) (w2 : Int) : (impl_SameCache_c s A h m w s2 C h2 m2 w2) = true → (impl_SameCache_t s A h m w s2 C h2 m2 w2).val = some (impl_SameCache_v s A h m w s2 C h2 m2 w2) := by
  intro h
  have g0 : (slices_Equal_impl_Slot_impl_Slot_c A C) = true := h
  unfold impl_SameCache_t impl_SameCache_v
  exact (Tr.s (Tr.t g0 (Tr.s (Tr.s (Tr.s rfl rfl) rfl) rfl)) rfl)
noncomputable def impl_SameCache_S : List Arg → Option (Bool × Res) := fun xs => match xs with
  | [(true, [(.int .i64, TC.i s), (.slice 87, TC.l A), (.int .i64, TC.i h), (.int .i64, TC.i m), (.int .i64, TC.i w)]), (true, [(.int .i64, TC.i s2), (.slice 87, TC.l C), (.int .i64, TC.i h2), (.int .i64, TC.i m2), (.int .i64, TC.i w2)])] => some ((impl_SameCache_c s A h m w s2 C h2 m2 w2), impl_SameCache_mk (impl_SameCache_v s A h m w s2 C h2 m2 w2))
  | _ => .none
theorem impl_SameCache_e (s : Int) (A : List (List TC)) (h : Int) (m : Int) (w : Int) (s2 : Int) (C : List (List TC)) (h2 : Int) (m2 : Int) (w2 : Int) : runF tab FT D8 live 28 noLoops [(true, [(.int .i64, TC.i s), (.slice 87, TC.l A), (.int .i64, TC.i h), (.int .i64, TC.i m), (.int .i64, TC.i w)]), (true, [(.int .i64, TC.i s2), (.slice 87, TC.l C), (.int .i64, TC.i h2), (.int .i64, TC.i m2), (.int .i64, TC.i w2)])] = (impl_SameCache_t s A h m w s2 C h2 m2 w2).run fun p => some (impl_SameCache_mk p) := by kernel_rfl
theorem impl_SameCache_s : ∀ xs r, impl_SameCache_S xs = some (true, r) → runF tab FT D8 live 28 noLoops xs = some r := by
  intro xs r h
  unfold impl_SameCache_S at h
  split at h
  · simp only [Option.some.injEq, Prod.mk.injEq] at h
    obtain ⟨h1, rfl⟩ := h
    exact fun_told (impl_SameCache_e _ _ _ _ _ _ _ _ _ _) (impl_SameCache_l _ _ _ _ _ _ _ _ _ _) h1
  · cases h
noncomputable def D9 : Dt := also D8 28 impl_SameCache_S
theorem d9 : DOk Go.Proofs.Try.prog tab D9 := d8.also mixed_ok tab_ok names_ok noLoops_ok impl_SameCache_s
theorem impl_SameCache_vv (s : Int) (A : List (List TC)) (h m w s2 : Int) (C : List (List TC)) (h2 m2 w2 : Int) : impl_SameCache_v s A h m w s2 C h2 m2 w2 = sameCache s A h m w s2 C h2 m2 w2 := by
  unfold impl_SameCache_v sameCache
  rw [show slices_Equal_impl_Slot_impl_Slot_v A C = allEq _ A C from rfl]
  cases (s == s2) <;> cases allEq _ A C <;> cases (h == h2) <;> cases (m == m2) <;> cases (w == w2) <;> rfl
/-! laws_eqSlot -/
noncomputable def laws_eqSlot_t (x0 : Int) (x1 : Int) (x2 : List UInt8) (x3 : Bool) (y0 : Int) (y1 : Int) (y2 : List UInt8) (y3 : Bool) : Tr (Bool) := (.ite ((!(x0 == y0)) = true) (.ok false)
  (.ite ((!(x1 == y1)) = true) (.ok false)
   (.ite ((!(x2 == y2)) = true) (.ok false)
    (.ite ((!(x3 == y3)) = true) (.ok false)
     (.ok true)))))
def laws_eqSlot_mk (p : Bool) : Res := [(false, [⟨.bool, .sh, TC.b p⟩])]
noncomputable def laws_eqSlot_c (x0 : Int) (x1 : Int) (x2 : List UInt8) (x3 : Bool) (y0 : Int) (y1 : Int) (y2 : List UInt8) (y3 : Bool) : Bool := is (x0 = y0 ∧ x1 = y1 ∧ x2 = y2 ∧ x3 = y3 ∧ Typed tab (.str) (.s x2))
noncomputable def laws_eqSlot_v (x0 : Int) (x1 : Int) (x2 : List UInt8) (x3 : Bool) (y0 : Int) (y1 : Int) (y2 : List UInt8) (y3 : Bool) : Bool := true
theorem laws_eqSlot_l (x0 : Int) (x1 : Int) (x2 : List UInt8) (x3 : Bool) (y0 : Int) (y1 : Int) (y2 : List UInt8) (y3 : Bool) : (laws_eqSlot_c x0 x1 x2 x3 y0 y1 y2 y3) = true → (laws_eqSlot_t x0 x1 x2 x3 y0 y1 y2 y3).val = some (laws_eqSlot_v x0 x1 x2 x3 y0 y1 y2 y3) := by
  intro h
  obtain ⟨rfl, rfl, rfl, rfl, t0⟩ := is_iff.1 h
  unfold laws_eqSlot_t
  refine Tr.n (by simp) ?_
  refine Tr.n (by simp) ?_
  refine Tr.n (by simp) ?_
  refine Tr.n (by simp) ?_
  rfl
noncomputable def laws_eqSlot_S : List Arg → Option (Bool × Res) := fun xs => match xs with
  | [(true, [(.int .i64, TC.i x0), (.int .i64, TC.i x1), (.str, TC.s x2), (.bool, TC.b x3)]), (true, [(.int .i64, TC.i y0), (.int .i64, TC.i y1), (.str, TC.s y2), (.bool, TC.b y3)])] => some ((laws_eqSlot_c x0 x1 x2 x3 y0 y1 y2 y3), laws_eqSlot_mk (laws_eqSlot_v x0 x1 x2 x3 y0 y1 y2 y3))
  | _ => .none
theorem laws_eqSlot_e (x0 : Int) (x1 : Int) (x2 : List UInt8) (x3 : Bool) (y0 : Int) (y1 : Int) (y2 : List UInt8) (y3 : Bool) : runF tab FT D9 live 101 noLoops [(true, [(.int .i64, TC.i x0), (.int .i64, TC.i x1), (.str, TC.s x2), (.bool, TC.b x3)]), (true, [(.int .i64, TC.i y0), (.int .i64, TC.i y1), (.str, TC.s y2), (.bool, TC.b y3)])] = (laws_eqSlot_t x0 x1 x2 x3 y0 y1 y2 y3).run fun p => some (laws_eqSlot_mk p) := by kernel_rfl
theorem laws_eqSlot_s : ∀ xs r, laws_eqSlot_S xs = some (true, r) → runF tab FT D9 live 101 noLoops xs = some r := by
  intro xs r h
  unfold laws_eqSlot_S at h
  split at h
  · simp only [Option.some.injEq, Prod.mk.injEq] at h
    obtain ⟨h1, rfl⟩ := h
    exact fun_told (laws_eqSlot_e _ _ _ _ _ _ _ _) (laws_eqSlot_l _ _ _ _ _ _ _ _) h1
  · cases h
noncomputable def D10 : Dt := also D9 101 laws_eqSlot_S
theorem d10 : DOk Go.Proofs.Try.prog tab D10 := d9.also mixed_ok tab_ok names_ok noLoops_ok laws_eqSlot_s
/-! laws_eqSlotS -/
abbrev laws_eqSlotS_4_σ := List (List TC) × List (List TC) × Int
abbrev laws_eqSlotS_4_ω := (Unit) ⊕ (Unit)
noncomputable def laws_eqSlotS_4_step (A : List (List TC)) (C : List (List TC)) (i : Int) : Tr (laws_eqSlotS_4_σ ⊕ laws_eqSlotS_4_ω) := (.ite ((decide (i < (A.length : Int))) = true) (.ite ((0 : Int) ≤ i ∧ i < (A.length : Int)) (.ite ((0 : Int) ≤ i ∧ i < (C.length : Int)) (.ite ((laws_eqSlot_c ((nth (row A i) 0).int) ((nth (row A i) 1).int) ((nth (row A i) 2).str) ((nth (row A i) 3).bool) ((nth (row C i) 0).int) ((nth (row C i) 1).int) ((nth (row C i) 2).str) ((nth (row C i) 3).bool)) = true) (.ite ((!(laws_eqSlot_v ((nth (row A i) 0).int) ((nth (row A i) 1).int) ((nth (row A i) 2).str) ((nth (row A i) 3).bool) ((nth (row C i) 0).int) ((nth (row C i) 1).int) ((nth (row C i) 2).str) ((nth (row C i) 3).bool))) = true) (.ok (.inr (.inl ())))
      (.ok (.inl (A, C, (IntKind.wrap .i64 (i + (1 : Int)))))))
     .no)
    .no)
   .no)
  (.ok (.inr (.inr ()))))
noncomputable def laws_eqSlotS_4_st : laws_eqSlotS_4_σ → Tr (laws_eqSlotS_4_σ ⊕ laws_eqSlotS_4_ω) := fun x => (laws_eqSlotS_4_step (x.1) (x.2.1) (x.2.2))
noncomputable def laws_eqSlotS_o4_1 (A : List (List TC)) (C : List (List TC)) (i : Int) : Bool := is (A = C ∧ i = 0 ∧ Typed tab (.slice 87) (.l A))
noncomputable def laws_eqSlotS_4_fin (A : List (List TC)) (C : List (List TC)) (i : Int) : Told laws_eqSlotS_4_ω := (.leaf (laws_eqSlotS_o4_1 A C i) (.inr ()))
def laws_eqSlotS_4_sl (x : laws_eqSlotS_4_σ) : List Slot := [⟨.val false [⟨.slice 87, .sh, TC.l (x.1)⟩], ⟨0, 0⟩⟩, ⟨.val false [⟨.slice 87, .sh, TC.l (x.2.1)⟩], ⟨0, 0⟩⟩, ⟨.val false [⟨.int .i64, .sh, TC.i (x.2.2)⟩], ⟨0, 0⟩⟩]
def laws_eqSlotS_4_out : laws_eqSlotS_4_ω → Ex × List Slot := (Sum.elim (fun x => (.ret, [⟨.val false [⟨.bool, .sh, TC.b false⟩], ⟨0, 0⟩⟩])) (fun x => (.exit 0, [Slot.none])))
noncomputable def laws_eqSlotS_lo4 : List Slot → Option (Told (Ex × List Slot)) := fun s => match s with
  | [⟨.val false [⟨.slice 87, .sh, TC.l A⟩], ⟨0, 0⟩⟩, ⟨.val false [⟨.slice 87, .sh, TC.l C⟩], ⟨0, 0⟩⟩, ⟨.val false [⟨.int .i64, .sh, TC.i i⟩], ⟨0, 0⟩⟩] => some (((laws_eqSlotS_4_fin A C i)).map laws_eqSlotS_4_out)
  | _ => .none
noncomputable def laws_eqSlotS_lo : LoopTeller := fun r s => bif Nat.beq r 4 then laws_eqSlotS_lo4 s else .none
theorem laws_eqSlotS_4_r (A : List (List TC)) (C : List (List TC)) (i : Int) (fuel : Nat) : rounds (rnd tab FT D10 live 55 laws_eqSlotS_lo 0 4) leave (fuel + 1) (laws_eqSlotS_4_sl (A, C, i)) = ((laws_eqSlotS_4_step A C i)).run (goOn (fun s => rounds (rnd tab FT D10 live 55 laws_eqSlotS_lo 0 4) leave fuel (laws_eqSlotS_4_sl s)) fun w => some (laws_eqSlotS_4_out w)) := by kernel_rfl
theorem laws_eqSlotS_4_h (A : List (List TC)) (C : List (List TC)) (i : Int) (ow : laws_eqSlotS_4_ω) : ((laws_eqSlotS_4_fin A C i)).val = some ow → ∃ fuel, loopN laws_eqSlotS_4_st fuel (A, C, i) = some ow := by
  intro h
  simp only [laws_eqSlotS_4_fin, Told.val] at h
  split at h
  · rename_i ho
    obtain ⟨rfl, rfl, ht⟩ := is_iff.1 ho
    cases h
    have hlen : A.length ≤ 140737488351232 := by have := typed_room ht; simp only [show (tab 87).bytes = 40 from rfl] at this; omega
    refine ⟨_, loopN_run (N := A.length) (fun i => (A, A, (i : Int))) (fun i hi => ?_) ?_ A.length 0 (by omega)⟩
    · have c2 : Typed tab (.str) (.s (nth (A.getD i []) 2).str) := typed_s (typed_cell ht (A.getD i []) (mem_getD hi) 2 (by decide))
      show (laws_eqSlotS_4_step A A (i : Int)).val = _
      unfold laws_eqSlotS_4_step
      refine Tr.t (by simp; omega) ?_
      refine Tr.t (by constructor <;> omega) ?_
      refine Tr.t (by constructor <;> omega) ?_
      refine Tr.t (by first | (apply is_true; and_intros <;> (first | rfl | assumption | (apply spec_SameCache_cc <;> assumption) | (first | (apply is_true; and_intros <;> (first | rfl | assumption | (apply spec_SameCache_cc <;> assumption) | (first | (apply is_true; and_intros <;> (first | rfl | assumption | (apply spec_SameCache_cc <;> assumption) | (first | (apply is_true; and_intros <;> (first | rfl | assumption | (apply spec_SameCache_cc <;> assumption))) | (apply spec_SameCache_cc <;> assumption)))) | (apply spec_SameCache_cc <;> assumption)))) | (apply spec_SameCache_cc <;> assumption)))) | (apply spec_SameCache_cc <;> assumption)) ?_
      refine Tr.n (by simp [laws_eqSlot_v]) ?_
      rw [Tr.val_ok, wrap64 (i := (i : Int) + 1) (by omega) (by omega)]; rfl
    · show (laws_eqSlotS_4_step A A (A.length : Int)).val = _
      refine Tr.n (by simp) ?_
      rfl
  · cases h
theorem laws_eqSlotS_is4 : LoopIs tab FT D10 live 55 laws_eqSlotS_lo 0 4 := by
  refine loop_told (sl := laws_eqSlotS_4_sl) (step := laws_eqSlotS_4_st) (out := laws_eqSlotS_4_out) (lor := laws_eqSlotS_lo4) (fin := fun x => (laws_eqSlotS_4_fin (x.1) (x.2.1) (x.2.2))) (fun _ => rfl) ?_ (fun x n => laws_eqSlotS_4_r x.1 x.2.1 x.2.2 n) (fun x ow => laws_eqSlotS_4_h x.1 x.2.1 x.2.2 ow)
  intro s t h
  unfold laws_eqSlotS_lo4 at h
  split at h
  · cases h; exact ⟨(_, _, _), rfl, rfl⟩
  · cases h
noncomputable def laws_eqSlotS_t (A : List (List TC)) (C : List (List TC)) : Tr (Bool) := (.ite ((!((A.length : Int) == (C.length : Int))) = true) (.ok false)
  (.ite ((laws_eqSlotS_o4_1 A C (0 : Int)) = true) (.ok true)
   .no))
def laws_eqSlotS_mk (p : Bool) : Res := [(false, [⟨.bool, .sh, TC.b p⟩])]
noncomputable def laws_eqSlotS_c (A : List (List TC)) (C : List (List TC)) : Bool := is (A = C ∧ Typed tab (.slice 87) (.l A))
noncomputable def laws_eqSlotS_v (A : List (List TC)) (C : List (List TC)) : Bool := true
theorem laws_eqSlotS_l (A : List (List TC)) (C : List (List TC)) : (laws_eqSlotS_c A C) = true → (laws_eqSlotS_t A C).val = some (laws_eqSlotS_v A C) := by
  intro h
  obtain ⟨rfl, ht⟩ := is_iff.1 h
  unfold laws_eqSlotS_t
  refine Tr.n (by simp) ?_
  refine Tr.t (by first | (apply is_true; and_intros <;> (first | rfl | assumption | (apply spec_SameCache_cc <;> assumption) | (first | (apply is_true; and_intros <;> (first | rfl | assumption | (apply spec_SameCache_cc <;> assumption) | (first | (apply is_true; and_intros <;> (first | rfl | assumption | (apply spec_SameCache_cc <;> assumption) | (first | (apply is_true; and_intros <;> (first | rfl | assumption | (apply spec_SameCache_cc <;> assumption))) | (apply spec_SameCache_cc <;> assumption)))) | (apply spec_SameCache_cc <;> assumption)))) | (apply spec_SameCache_cc <;> assumption)))) | (apply spec_SameCache_cc <;> assumption)) ?_
  rfl
noncomputable def laws_eqSlotS_S : List Arg → Option (Bool × Res) := fun xs => match xs with
  | [(false, [(.slice 87, TC.l A)]), (false, [(.slice 87, TC.l C)])] => some ((laws_eqSlotS_c A C), laws_eqSlotS_mk (laws_eqSlotS_v A C))
  | _ => .none
theorem laws_eqSlotS_e (A : List (List TC)) (C : List (List TC)) : runF tab FT D10 live 55 laws_eqSlotS_lo [(false, [(.slice 87, TC.l A)]), (false, [(.slice 87, TC.l C)])] = (laws_eqSlotS_t A C).run fun p => some (laws_eqSlotS_mk p) := by kernel_rfl
theorem laws_eqSlotS_s : ∀ xs r, laws_eqSlotS_S xs = some (true, r) → runF tab FT D10 live 55 laws_eqSlotS_lo xs = some r := by
  intro xs r h
  unfold laws_eqSlotS_S at h
  split at h
  · simp only [Option.some.injEq, Prod.mk.injEq] at h
    obtain ⟨h1, rfl⟩ := h
    exact fun_told (laws_eqSlotS_e _ _) (laws_eqSlotS_l _ _) h1
  · cases h
noncomputable def D11 : Dt := also D10 55 laws_eqSlotS_S
theorem d11 : DOk Go.Proofs.Try.prog tab D11 := d10.also mixed_ok tab_ok names_ok (fnLoops_one (by kernel_rfl) laws_eqSlotS_is4) laws_eqSlotS_s
/-! laws_eqCache -/
noncomputable def laws_eqCache_t (x0 : Int) (x1 : List (List TC)) (x2 : Int) (x3 : Int) (x4 : Int) (y0 : Int) (y1 : List (List TC)) (y2 : Int) (y3 : Int) (y4 : Int) : Tr (Bool) := (.ite ((!(x0 == y0)) = true) (.ok false)
  (.ite ((laws_eqSlotS_c x1 y1) = true) (.ite ((!(laws_eqSlotS_v x1 y1)) = true) (.ok false)
    (.ite ((!(x2 == y2)) = true) (.ok false)
     (.ite ((!(x3 == y3)) = true) (.ok false)
      (.ite ((!(x4 == y4)) = true) (.ok false)
       (.ok true)))))
   .no))
def laws_eqCache_mk (p : Bool) : Res := [(false, [⟨.bool, .sh, TC.b p⟩])]
noncomputable def laws_eqCache_c (x0 : Int) (x1 : List (List TC)) (x2 : Int) (x3 : Int) (x4 : Int) (y0 : Int) (y1 : List (List TC)) (y2 : Int) (y3 : Int) (y4 : Int) : Bool := is (x0 = y0 ∧ x1 = y1 ∧ x2 = y2 ∧ x3 = y3 ∧ x4 = y4 ∧ Typed tab (.slice 87) (.l x1))
noncomputable def laws_eqCache_v (x0 : Int) (x1 : List (List TC)) (x2 : Int) (x3 : Int) (x4 : Int) (y0 : Int) (y1 : List (List TC)) (y2 : Int) (y3 : Int) (y4 : Int) : Bool := true
theorem laws_eqCache_l (x0 : Int) (x1 : List (List TC)) (x2 : Int) (x3 : Int) (x4 : Int) (y0 : Int) (y1 : List (List TC)) (y2 : Int) (y3 : Int) (y4 : Int) : (laws_eqCache_c x0 x1 x2 x3 x4 y0 y1 y2 y3 y4) = true → (laws_eqCache_t x0 x1 x2 x3 x4 y0 y1 y2 y3 y4).val = some (laws_eqCache_v x0 x1 x2 x3 x4 y0 y1 y2 y3 y4) := by
  intro h
  obtain ⟨rfl, rfl, rfl, rfl, rfl, t0⟩ := is_iff.1 h
  unfold laws_eqCache_t
  refine Tr.n (by simp) ?_
  refine Tr.t (by first | (apply is_true; and_intros <;> (first | rfl | assumption | (apply spec_SameCache_cc <;> assumption) | (first | (apply is_true; and_intros <;> (first | rfl | assumption | (apply spec_SameCache_cc <;> assumption) | (first | (apply is_true; and_intros <;> (first | rfl | assumption | (apply spec_SameCache_cc <;> assumption) | (first | (apply is_true; and_intros <;> (first | rfl | assumption | (apply spec_SameCache_cc <;> assumption))) | (apply spec_SameCache_cc <;> assumption)))) | (apply spec_SameCache_cc <;> assumption)))) | (apply spec_SameCache_cc <;> assumption)))) | (apply spec_SameCache_cc <;> assumption)) ?_
  refine Tr.n (by simp [laws_eqSlotS_v]) ?_
  refine Tr.n (by simp) ?_
  refine Tr.n (by simp) ?_
  refine Tr.n (by simp) ?_
  rfl
noncomputable def laws_eqCache_S : List Arg → Option (Bool × Res) := fun xs => match xs with
  | [(true, [(.int .i64, TC.i x0), (.slice 87, TC.l x1), (.int .i64, TC.i x2), (.int .i64, TC.i x3), (.int .i64, TC.i x4)]), (true, [(.int .i64, TC.i y0), (.slice 87, TC.l y1), (.int .i64, TC.i y2), (.int .i64, TC.i y3), (.int .i64, TC.i y4)])] => some ((laws_eqCache_c x0 x1 x2 x3 x4 y0 y1 y2 y3 y4), laws_eqCache_mk (laws_eqCache_v x0 x1 x2 x3 x4 y0 y1 y2 y3 y4))
  | _ => .none
theorem laws_eqCache_e (x0 : Int) (x1 : List (List TC)) (x2 : Int) (x3 : Int) (x4 : Int) (y0 : Int) (y1 : List (List TC)) (y2 : Int) (y3 : Int) (y4 : Int) : runF tab FT D11 live 17 noLoops [(true, [(.int .i64, TC.i x0), (.slice 87, TC.l x1), (.int .i64, TC.i x2), (.int .i64, TC.i x3), (.int .i64, TC.i x4)]), (true, [(.int .i64, TC.i y0), (.slice 87, TC.l y1), (.int .i64, TC.i y2), (.int .i64, TC.i y3), (.int .i64, TC.i y4)])] = (laws_eqCache_t x0 x1 x2 x3 x4 y0 y1 y2 y3 y4).run fun p => some (laws_eqCache_mk p) := by kernel_rfl
theorem laws_eqCache_s : ∀ xs r, laws_eqCache_S xs = some (true, r) → runF tab FT D11 live 17 noLoops xs = some r := by
  intro xs r h
  unfold laws_eqCache_S at h
  split at h
  · simp only [Option.some.injEq, Prod.mk.injEq] at h
    obtain ⟨h1, rfl⟩ := h
    exact fun_told (laws_eqCache_e _ _ _ _ _ _ _ _ _ _) (laws_eqCache_l _ _ _ _ _ _ _ _ _ _) h1
  · cases h
noncomputable def D12 : Dt := also D11 17 laws_eqCache_S
theorem d12 : DOk Go.Proofs.Try.prog tab D12 := d11.also mixed_ok tab_ok names_ok noLoops_ok laws_eqCache_s
/-! the law -/
noncomputable def laws_FnExactSameCache_t (x0 : Int) (x1 : List (List TC)) (x2 : Int) (x3 : Int) (x4 : Int) (x5 : Int) (x6 : List (List TC)) (x7 : Int) (x8 : Int) (x9 : Int) : Tr Bool := (.ite ((laws_szCache_c x0 x1 x2 x3 x4 (1048576 : Int)) = true) (.ite ((decide ((laws_szCache_v x0 x1 x2 x3 x4 (1048576 : Int)) < (0 : Int))) = true) (.ok true)
   (.ite ((laws_szCache_c x5 x6 x7 x8 x9 (laws_szCache_v x0 x1 x2 x3 x4 (1048576 : Int))) = true) (.ite ((decide ((laws_szCache_v x5 x6 x7 x8 x9 (laws_szCache_v x0 x1 x2 x3 x4 (1048576 : Int))) < (0 : Int))) = true) (.ok true)
     (.ite ((laws_toCache_c x0 x1 x2 x3 x4) = true) (.ite ((laws_toCache_c x5 x6 x7 x8 x9) = true) (.ite ((spec_SameCache_c ((laws_toCache_v x0 x1 x2 x3 x4).1) ((laws_toCache_v x0 x1 x2 x3 x4).2.1) ((laws_toCache_v x0 x1 x2 x3 x4).2.2.1) ((laws_toCache_v x0 x1 x2 x3 x4).2.2.2.1) ((laws_toCache_v x0 x1 x2 x3 x4).2.2.2.2) ((laws_toCache_v x5 x6 x7 x8 x9).1) ((laws_toCache_v x5 x6 x7 x8 x9).2.1) ((laws_toCache_v x5 x6 x7 x8 x9).2.2.1) ((laws_toCache_v x5 x6 x7 x8 x9).2.2.2.1) ((laws_toCache_v x5 x6 x7 x8 x9).2.2.2.2)) = true) (.ite ((laws_toCache_c x0 x1 x2 x3 x4) = true) (.ite ((laws_toCache_c x5 x6 x7 x8 x9) = true) (.ite ((impl_SameCache_c ((laws_toCache_v x0 x1 x2 x3 x4).1) ((laws_toCache_v x0 x1 x2 x3 x4).2.1) ((laws_toCache_v x0 x1 x2 x3 x4).2.2.1) ((laws_toCache_v x0 x1 x2 x3 x4).2.2.2.1) ((laws_toCache_v x0 x1 x2 x3 x4).2.2.2.2) ((laws_toCache_v x5 x6 x7 x8 x9).1) ((laws_toCache_v x5 x6 x7 x8 x9).2.1) ((laws_toCache_v x5 x6 x7 x8 x9).2.2.1) ((laws_toCache_v x5 x6 x7 x8 x9).2.2.2.1) ((laws_toCache_v x5 x6 x7 x8 x9).2.2.2.2)) = true) (.ite ((!((impl_SameCache_v ((laws_toCache_v x0 x1 x2 x3 x4).1) ((laws_toCache_v x0 x1 x2 x3 x4).2.1) ((laws_toCache_v x0 x1 x2 x3 x4).2.2.1) ((laws_toCache_v x0 x1 x2 x3 x4).2.2.2.1) ((laws_toCache_v x0 x1 x2 x3 x4).2.2.2.2) ((laws_toCache_v x5 x6 x7 x8 x9).1) ((laws_toCache_v x5 x6 x7 x8 x9).2.1) ((laws_toCache_v x5 x6 x7 x8 x9).2.2.1) ((laws_toCache_v x5 x6 x7 x8 x9).2.2.2.1) ((laws_toCache_v x5 x6 x7 x8 x9).2.2.2.2)) == (spec_SameCache_v ((laws_toCache_v x0 x1 x2 x3 x4).1) ((laws_toCache_v x0 x1 x2 x3 x4).2.1) ((laws_toCache_v x0 x1 x2 x3 x4).2.2.1) ((laws_toCache_v x0 x1 x2 x3 x4).2.2.2.1) ((laws_toCache_v x0 x1 x2 x3 x4).2.2.2.2) ((laws_toCache_v x5 x6 x7 x8 x9).1) ((laws_toCache_v x5 x6 x7 x8 x9).2.1) ((laws_toCache_v x5 x6 x7 x8 x9).2.2.1) ((laws_toCache_v x5 x6 x7 x8 x9).2.2.2.1) ((laws_toCache_v x5 x6 x7 x8 x9).2.2.2.2)))) = true) (.ok false)
            (.ite ((laws_toCache_c x0 x1 x2 x3 x4) = true) (.ite ((laws_eqCache_c ((laws_toCache_v x0 x1 x2 x3 x4).1) ((laws_toCache_v x0 x1 x2 x3 x4).2.1) ((laws_toCache_v x0 x1 x2 x3 x4).2.2.1) ((laws_toCache_v x0 x1 x2 x3 x4).2.2.2.1) ((laws_toCache_v x0 x1 x2 x3 x4).2.2.2.2) ((laws_toCache_v x0 x1 x2 x3 x4).1) ((laws_toCache_v x0 x1 x2 x3 x4).2.1) ((laws_toCache_v x0 x1 x2 x3 x4).2.2.1) ((laws_toCache_v x0 x1 x2 x3 x4).2.2.2.1) ((laws_toCache_v x0 x1 x2 x3 x4).2.2.2.2)) = true) (.ite ((!(laws_eqCache_v ((laws_toCache_v x0 x1 x2 x3 x4).1) ((laws_toCache_v x0 x1 x2 x3 x4).2.1) ((laws_toCache_v x0 x1 x2 x3 x4).2.2.1) ((laws_toCache_v x0 x1 x2 x3 x4).2.2.2.1) ((laws_toCache_v x0 x1 x2 x3 x4).2.2.2.2) ((laws_toCache_v x0 x1 x2 x3 x4).1) ((laws_toCache_v x0 x1 x2 x3 x4).2.1) ((laws_toCache_v x0 x1 x2 x3 x4).2.2.1) ((laws_toCache_v x0 x1 x2 x3 x4).2.2.2.1) ((laws_toCache_v x0 x1 x2 x3 x4).2.2.2.2))) = true) (.ok false)
               (.ite ((laws_toCache_c x5 x6 x7 x8 x9) = true) (.ite ((laws_eqCache_c ((laws_toCache_v x5 x6 x7 x8 x9).1) ((laws_toCache_v x5 x6 x7 x8 x9).2.1) ((laws_toCache_v x5 x6 x7 x8 x9).2.2.1) ((laws_toCache_v x5 x6 x7 x8 x9).2.2.2.1) ((laws_toCache_v x5 x6 x7 x8 x9).2.2.2.2) ((laws_toCache_v x5 x6 x7 x8 x9).1) ((laws_toCache_v x5 x6 x7 x8 x9).2.1) ((laws_toCache_v x5 x6 x7 x8 x9).2.2.1) ((laws_toCache_v x5 x6 x7 x8 x9).2.2.2.1) ((laws_toCache_v x5 x6 x7 x8 x9).2.2.2.2)) = true) (.ite ((!(laws_eqCache_v ((laws_toCache_v x5 x6 x7 x8 x9).1) ((laws_toCache_v x5 x6 x7 x8 x9).2.1) ((laws_toCache_v x5 x6 x7 x8 x9).2.2.1) ((laws_toCache_v x5 x6 x7 x8 x9).2.2.2.1) ((laws_toCache_v x5 x6 x7 x8 x9).2.2.2.2) ((laws_toCache_v x5 x6 x7 x8 x9).1) ((laws_toCache_v x5 x6 x7 x8 x9).2.1) ((laws_toCache_v x5 x6 x7 x8 x9).2.2.1) ((laws_toCache_v x5 x6 x7 x8 x9).2.2.2.1) ((laws_toCache_v x5 x6 x7 x8 x9).2.2.2.2))) = true) (.ok false)
                  (.ok true))
                 .no)
                .no))
              .no)
             .no))
           .no)
          .no)
         .no)
        .no)
       .no)
      .no))
    .no))
  .no)
theorem laws_FnExactSameCache_e (x0 : Int) (x1 : List (List TC)) (x2 : Int) (x3 : Int) (x4 : Int) (x5 : Int) (x6 : List (List TC)) (x7 : Int) (x8 : Int) (x9 : Int) : runF tab FT D12 live 5 noLoops [(true, [(.int .i64, TC.i x0), (.slice 125, TC.l x1), (.int .i64, TC.i x2), (.int .i64, TC.i x3), (.int .i64, TC.i x4)]), (true, [(.int .i64, TC.i x5), (.slice 125, TC.l x6), (.int .i64, TC.i x7), (.int .i64, TC.i x8), (.int .i64, TC.i x9)])] = (laws_FnExactSameCache_t x0 x1 x2 x3 x4 x5 x6 x7 x8 x9).run fun p => some [(false, [⟨.bool, .sh, .b p⟩])] := by kernel_rfl
theorem laws_FnExactSameCache_p (x0 : Int) (x1 : List (List TC)) (x2 : Int) (x3 : Int) (x4 : Int) (x5 : Int) (x6 : List (List TC)) (x7 : Int) (x8 : Int) (x9 : Int) (h0 : Typed tab (.int .i64) (.i x0)) (h1 : Typed tab (.slice 125) (.l x1)) (h2 : Typed tab (.int .i64) (.i x2)) (h3 : Typed tab (.int .i64) (.i x3)) (h4 : Typed tab (.int .i64) (.i x4)) (h5 : Typed tab (.int .i64) (.i x5)) (h6 : Typed tab (.slice 125) (.l x6)) (h7 : Typed tab (.int .i64) (.i x7)) (h8 : Typed tab (.int .i64) (.i x8)) (h9 : Typed tab (.int .i64) (.i x9)) : (laws_FnExactSameCache_t x0 x1 x2 x3 x4 x5 x6 x7 x8 x9).val = some true := by
  have t1_87 := laws_toSlotS_ty h1
  have t6_87 := laws_toSlotS_ty h6
  unfold laws_FnExactSameCache_t
  refine Tr.t (by first | exact (by first | (apply is_true; and_intros <;> (first | rfl | assumption | (apply spec_SameCache_cc <;> assumption) | (first | (apply is_true; and_intros <;> (first | rfl | assumption | (apply spec_SameCache_cc <;> assumption) | (first | (apply is_true; and_intros <;> (first | rfl | assumption | (apply spec_SameCache_cc <;> assumption) | (first | (apply is_true; and_intros <;> (first | rfl | assumption | (apply spec_SameCache_cc <;> assumption))) | (apply spec_SameCache_cc <;> assumption)))) | (apply spec_SameCache_cc <;> assumption)))) | (apply spec_SameCache_cc <;> assumption)))) | (apply spec_SameCache_cc <;> assumption)) | simp [*]) ?_
  refine Tr.y ?_
  refine Tr.t (by first | exact (by first | (apply is_true; and_intros <;> (first | rfl | assumption | (apply spec_SameCache_cc <;> assumption) | (first | (apply is_true; and_intros <;> (first | rfl | assumption | (apply spec_SameCache_cc <;> assumption) | (first | (apply is_true; and_intros <;> (first | rfl | assumption | (apply spec_SameCache_cc <;> assumption) | (first | (apply is_true; and_intros <;> (first | rfl | assumption | (apply spec_SameCache_cc <;> assumption))) | (apply spec_SameCache_cc <;> assumption)))) | (apply spec_SameCache_cc <;> assumption)))) | (apply spec_SameCache_cc <;> assumption)))) | (apply spec_SameCache_cc <;> assumption)) | simp [*]) ?_
  refine Tr.y ?_
  refine Tr.t (by first | exact (by first | (apply is_true; and_intros <;> (first | rfl | assumption | (apply spec_SameCache_cc <;> assumption) | (first | (apply is_true; and_intros <;> (first | rfl | assumption | (apply spec_SameCache_cc <;> assumption) | (first | (apply is_true; and_intros <;> (first | rfl | assumption | (apply spec_SameCache_cc <;> assumption) | (first | (apply is_true; and_intros <;> (first | rfl | assumption | (apply spec_SameCache_cc <;> assumption))) | (apply spec_SameCache_cc <;> assumption)))) | (apply spec_SameCache_cc <;> assumption)))) | (apply spec_SameCache_cc <;> assumption)))) | (apply spec_SameCache_cc <;> assumption)) | simp [*]) ?_
  refine Tr.t (by first | exact (by first | (apply is_true; and_intros <;> (first | rfl | assumption | (apply spec_SameCache_cc <;> assumption) | (first | (apply is_true; and_intros <;> (first | rfl | assumption | (apply spec_SameCache_cc <;> assumption) | (first | (apply is_true; and_intros <;> (first | rfl | assumption | (apply spec_SameCache_cc <;> assumption) | (first | (apply is_true; and_intros <;> (first | rfl | assumption | (apply spec_SameCache_cc <;> assumption))) | (apply spec_SameCache_cc <;> assumption)))) | (apply spec_SameCache_cc <;> assumption)))) | (apply spec_SameCache_cc <;> assumption)))) | (apply spec_SameCache_cc <;> assumption)) | simp [*]) ?_
  refine Tr.t (by first | exact (by first | (apply is_true; and_intros <;> (first | rfl | assumption | (apply spec_SameCache_cc <;> assumption) | (first | (apply is_true; and_intros <;> (first | rfl | assumption | (apply spec_SameCache_cc <;> assumption) | (first | (apply is_true; and_intros <;> (first | rfl | assumption | (apply spec_SameCache_cc <;> assumption) | (first | (apply is_true; and_intros <;> (first | rfl | assumption | (apply spec_SameCache_cc <;> assumption))) | (apply spec_SameCache_cc <;> assumption)))) | (apply spec_SameCache_cc <;> assumption)))) | (apply spec_SameCache_cc <;> assumption)))) | (apply spec_SameCache_cc <;> assumption)) | simp [*]) ?_
  refine Tr.t (by first | exact (by first | (apply is_true; and_intros <;> (first | rfl | assumption | (apply spec_SameCache_cc <;> assumption) | (first | (apply is_true; and_intros <;> (first | rfl | assumption | (apply spec_SameCache_cc <;> assumption) | (first | (apply is_true; and_intros <;> (first | rfl | assumption | (apply spec_SameCache_cc <;> assumption) | (first | (apply is_true; and_intros <;> (first | rfl | assumption | (apply spec_SameCache_cc <;> assumption))) | (apply spec_SameCache_cc <;> assumption)))) | (apply spec_SameCache_cc <;> assumption)))) | (apply spec_SameCache_cc <;> assumption)))) | (apply spec_SameCache_cc <;> assumption)) | simp [*]) ?_
  refine Tr.t (by first | exact (by first | (apply is_true; and_intros <;> (first | rfl | assumption | (apply spec_SameCache_cc <;> assumption) | (first | (apply is_true; and_intros <;> (first | rfl | assumption | (apply spec_SameCache_cc <;> assumption) | (first | (apply is_true; and_intros <;> (first | rfl | assumption | (apply spec_SameCache_cc <;> assumption) | (first | (apply is_true; and_intros <;> (first | rfl | assumption | (apply spec_SameCache_cc <;> assumption))) | (apply spec_SameCache_cc <;> assumption)))) | (apply spec_SameCache_cc <;> assumption)))) | (apply spec_SameCache_cc <;> assumption)))) | (apply spec_SameCache_cc <;> assumption)) | simp [*]) ?_
  refine Tr.t (by first | exact (by first | (apply is_true; and_intros <;> (first | rfl | assumption | (apply spec_SameCache_cc <;> assumption) | (first | (apply is_true; and_intros <;> (first | rfl | assumption | (apply spec_SameCache_cc <;> assumption) | (first | (apply is_true; and_intros <;> (first | rfl | assumption | (apply spec_SameCache_cc <;> assumption) | (first | (apply is_true; and_intros <;> (first | rfl | assumption | (apply spec_SameCache_cc <;> assumption))) | (apply spec_SameCache_cc <;> assumption)))) | (apply spec_SameCache_cc <;> assumption)))) | (apply spec_SameCache_cc <;> assumption)))) | (apply spec_SameCache_cc <;> assumption)) | simp [*]) ?_
  refine Tr.n (by first | (simp [laws_szSlot_v, laws_szSlotS_k5_1, laws_szSlotS_u5_2, laws_szSlotS_u5_3, laws_szSlotS_v, laws_szCache_v, laws_toSlot_v, laws_toSlotS_u3_1, laws_toSlotS_v, laws_toCache_v, spec_SameCache_k4_1, spec_SameCache_vv, slices_Equal_impl_Slot_impl_Slot_k4_1, slices_Equal_impl_Slot_impl_Slot_v, impl_SameCache_vv, laws_eqSlot_v, laws_eqSlotS_v, laws_eqCache_v]; done) | (simp only [laws_szSlot_v, laws_szSlotS_k5_1, laws_szSlotS_u5_2, laws_szSlotS_u5_3, laws_szSlotS_v, laws_szCache_v, laws_toSlot_v, laws_toSlotS_u3_1, laws_toSlotS_v, laws_toCache_v, spec_SameCache_k4_1, spec_SameCache_vv, slices_Equal_impl_Slot_impl_Slot_k4_1, slices_Equal_impl_Slot_impl_Slot_v, impl_SameCache_vv, laws_eqSlot_v, laws_eqSlotS_v, laws_eqCache_v, nth0, nth1, nth2, nth3, nth4, nth5, int_i, bool_b, str_s, list_l, cells_p, Bool.not_eq_true, bne_self_eq_false, beq_self_eq_true, Bool.not_true]; done) | (simp [laws_szSlot_v, laws_szSlotS_k5_1, laws_szSlotS_u5_2, laws_szSlotS_u5_3, laws_szSlotS_v, laws_szCache_v, laws_toSlot_v, laws_toSlotS_u3_1, laws_toSlotS_v, laws_toCache_v, spec_SameCache_k4_1, spec_SameCache_vv, slices_Equal_impl_Slot_impl_Slot_k4_1, slices_Equal_impl_Slot_impl_Slot_v, impl_SameCache_vv, laws_eqSlot_v, laws_eqSlotS_v, laws_eqCache_v, nth0, nth1, nth2, nth3, nth4, nth5, int_i, bool_b, str_s, list_l, cells_p]; done) | (simp [laws_szSlot_v, laws_szSlotS_k5_1, laws_szSlotS_u5_2, laws_szSlotS_u5_3, laws_szSlotS_v, laws_szCache_v, laws_toSlot_v, laws_toSlotS_u3_1, laws_toSlotS_v, laws_toCache_v, spec_SameCache_k4_1, spec_SameCache_vv, slices_Equal_impl_Slot_impl_Slot_k4_1, slices_Equal_impl_Slot_impl_Slot_v, impl_SameCache_vv, laws_eqSlot_v, laws_eqSlotS_v, laws_eqCache_v, nth0, nth1, nth2, nth3, nth4, nth5, int_i, bool_b, str_s, list_l, cells_p] <;> rfl)) ?_
  refine Tr.t (by first | exact (by first | (apply is_true; and_intros <;> (first | rfl | assumption | (apply spec_SameCache_cc <;> assumption) | (first | (apply is_true; and_intros <;> (first | rfl | assumption | (apply spec_SameCache_cc <;> assumption) | (first | (apply is_true; and_intros <;> (first | rfl | assumption | (apply spec_SameCache_cc <;> assumption) | (first | (apply is_true; and_intros <;> (first | rfl | assumption | (apply spec_SameCache_cc <;> assumption))) | (apply spec_SameCache_cc <;> assumption)))) | (apply spec_SameCache_cc <;> assumption)))) | (apply spec_SameCache_cc <;> assumption)))) | (apply spec_SameCache_cc <;> assumption)) | simp [*]) ?_
  refine Tr.t (by first | exact (by first | (apply is_true; and_intros <;> (first | rfl | assumption | (apply spec_SameCache_cc <;> assumption) | (first | (apply is_true; and_intros <;> (first | rfl | assumption | (apply spec_SameCache_cc <;> assumption) | (first | (apply is_true; and_intros <;> (first | rfl | assumption | (apply spec_SameCache_cc <;> assumption) | (first | (apply is_true; and_intros <;> (first | rfl | assumption | (apply spec_SameCache_cc <;> assumption))) | (apply spec_SameCache_cc <;> assumption)))) | (apply spec_SameCache_cc <;> assumption)))) | (apply spec_SameCache_cc <;> assumption)))) | (apply spec_SameCache_cc <;> assumption)) | simp [*]) ?_
  refine Tr.n (by first | (simp [laws_szSlot_v, laws_szSlotS_k5_1, laws_szSlotS_u5_2, laws_szSlotS_u5_3, laws_szSlotS_v, laws_szCache_v, laws_toSlot_v, laws_toSlotS_u3_1, laws_toSlotS_v, laws_toCache_v, spec_SameCache_k4_1, spec_SameCache_vv, slices_Equal_impl_Slot_impl_Slot_k4_1, slices_Equal_impl_Slot_impl_Slot_v, impl_SameCache_vv, laws_eqSlot_v, laws_eqSlotS_v, laws_eqCache_v]; done) | (simp only [laws_szSlot_v, laws_szSlotS_k5_1, laws_szSlotS_u5_2, laws_szSlotS_u5_3, laws_szSlotS_v, laws_szCache_v, laws_toSlot_v, laws_toSlotS_u3_1, laws_toSlotS_v, laws_toCache_v, spec_SameCache_k4_1, spec_SameCache_vv, slices_Equal_impl_Slot_impl_Slot_k4_1, slices_Equal_impl_Slot_impl_Slot_v, impl_SameCache_vv, laws_eqSlot_v, laws_eqSlotS_v, laws_eqCache_v, nth0, nth1, nth2, nth3, nth4, nth5, int_i, bool_b, str_s, list_l, cells_p, Bool.not_eq_true, bne_self_eq_false, beq_self_eq_true, Bool.not_true]; done) | (simp [laws_szSlot_v, laws_szSlotS_k5_1, laws_szSlotS_u5_2, laws_szSlotS_u5_3, laws_szSlotS_v, laws_szCache_v, laws_toSlot_v, laws_toSlotS_u3_1, laws_toSlotS_v, laws_toCache_v, spec_SameCache_k4_1, spec_SameCache_vv, slices_Equal_impl_Slot_impl_Slot_k4_1, slices_Equal_impl_Slot_impl_Slot_v, impl_SameCache_vv, laws_eqSlot_v, laws_eqSlotS_v, laws_eqCache_v, nth0, nth1, nth2, nth3, nth4, nth5, int_i, bool_b, str_s, list_l, cells_p]; done) | (simp [laws_szSlot_v, laws_szSlotS_k5_1, laws_szSlotS_u5_2, laws_szSlotS_u5_3, laws_szSlotS_v, laws_szCache_v, laws_toSlot_v, laws_toSlotS_u3_1, laws_toSlotS_v, laws_toCache_v, spec_SameCache_k4_1, spec_SameCache_vv, slices_Equal_impl_Slot_impl_Slot_k4_1, slices_Equal_impl_Slot_impl_Slot_v, impl_SameCache_vv, laws_eqSlot_v, laws_eqSlotS_v, laws_eqCache_v, nth0, nth1, nth2, nth3, nth4, nth5, int_i, bool_b, str_s, list_l, cells_p] <;> rfl)) ?_
  refine Tr.t (by first | exact (by first | (apply is_true; and_intros <;> (first | rfl | assumption | (apply spec_SameCache_cc <;> assumption) | (first | (apply is_true; and_intros <;> (first | rfl | assumption | (apply spec_SameCache_cc <;> assumption) | (first | (apply is_true; and_intros <;> (first | rfl | assumption | (apply spec_SameCache_cc <;> assumption) | (first | (apply is_true; and_intros <;> (first | rfl | assumption | (apply spec_SameCache_cc <;> assumption))) | (apply spec_SameCache_cc <;> assumption)))) | (apply spec_SameCache_cc <;> assumption)))) | (apply spec_SameCache_cc <;> assumption)))) | (apply spec_SameCache_cc <;> assumption)) | simp [*]) ?_
  refine Tr.t (by first | exact (by first | (apply is_true; and_intros <;> (first | rfl | assumption | (apply spec_SameCache_cc <;> assumption) | (first | (apply is_true; and_intros <;> (first | rfl | assumption | (apply spec_SameCache_cc <;> assumption) | (first | (apply is_true; and_intros <;> (first | rfl | assumption | (apply spec_SameCache_cc <;> assumption) | (first | (apply is_true; and_intros <;> (first | rfl | assumption | (apply spec_SameCache_cc <;> assumption))) | (apply spec_SameCache_cc <;> assumption)))) | (apply spec_SameCache_cc <;> assumption)))) | (apply spec_SameCache_cc <;> assumption)))) | (apply spec_SameCache_cc <;> assumption)) | simp [*]) ?_
  refine Tr.n (by first | (simp [laws_szSlot_v, laws_szSlotS_k5_1, laws_szSlotS_u5_2, laws_szSlotS_u5_3, laws_szSlotS_v, laws_szCache_v, laws_toSlot_v, laws_toSlotS_u3_1, laws_toSlotS_v, laws_toCache_v, spec_SameCache_k4_1, spec_SameCache_vv, slices_Equal_impl_Slot_impl_Slot_k4_1, slices_Equal_impl_Slot_impl_Slot_v, impl_SameCache_vv, laws_eqSlot_v, laws_eqSlotS_v, laws_eqCache_v]; done) | (simp only [laws_szSlot_v, laws_szSlotS_k5_1, laws_szSlotS_u5_2, laws_szSlotS_u5_3, laws_szSlotS_v, laws_szCache_v, laws_toSlot_v, laws_toSlotS_u3_1, laws_toSlotS_v, laws_toCache_v, spec_SameCache_k4_1, spec_SameCache_vv, slices_Equal_impl_Slot_impl_Slot_k4_1, slices_Equal_impl_Slot_impl_Slot_v, impl_SameCache_vv, laws_eqSlot_v, laws_eqSlotS_v, laws_eqCache_v, nth0, nth1, nth2, nth3, nth4, nth5, int_i, bool_b, str_s, list_l, cells_p, Bool.not_eq_true, bne_self_eq_false, beq_self_eq_true, Bool.not_true]; done) | (simp [laws_szSlot_v, laws_szSlotS_k5_1, laws_szSlotS_u5_2, laws_szSlotS_u5_3, laws_szSlotS_v, laws_szCache_v, laws_toSlot_v, laws_toSlotS_u3_1, laws_toSlotS_v, laws_toCache_v, spec_SameCache_k4_1, spec_SameCache_vv, slices_Equal_impl_Slot_impl_Slot_k4_1, slices_Equal_impl_Slot_impl_Slot_v, impl_SameCache_vv, laws_eqSlot_v, laws_eqSlotS_v, laws_eqCache_v, nth0, nth1, nth2, nth3, nth4, nth5, int_i, bool_b, str_s, list_l, cells_p]; done) | (simp [laws_szSlot_v, laws_szSlotS_k5_1, laws_szSlotS_u5_2, laws_szSlotS_u5_3, laws_szSlotS_v, laws_szCache_v, laws_toSlot_v, laws_toSlotS_u3_1, laws_toSlotS_v, laws_toCache_v, spec_SameCache_k4_1, spec_SameCache_vv, slices_Equal_impl_Slot_impl_Slot_k4_1, slices_Equal_impl_Slot_impl_Slot_v, impl_SameCache_vv, laws_eqSlot_v, laws_eqSlotS_v, laws_eqCache_v, nth0, nth1, nth2, nth3, nth4, nth5, int_i, bool_b, str_s, list_l, cells_p] <;> rfl)) ?_
  rfl
theorem laws_FnExactSameCache_pure : ∀ xs, ArgsTyped tab [39, 39] xs → runF tab FT D12 live 5 noLoops xs = yes := by
  intro xs h
  cases h with | cons l0 g0 h =>
  obtain ⟨z0_0, z0_1, z0_2, z0_3, z0_4, rfl⟩ := len_5 l0
  have q0 := g0 0 (by decide)
  have q0 : Typed tab (.int .i64) z0_0 := q0
  obtain ⟨y0, rfl⟩ := typed_int q0
  have q1 := g0 1 (by decide)
  have q1 : Typed tab (.slice 125) z0_1 := q1
  obtain ⟨y1, rfl⟩ := typed_slice q1
  have q2 := g0 2 (by decide)
  have q2 : Typed tab (.int .i64) z0_2 := q2
  obtain ⟨y2, rfl⟩ := typed_int q2
  have q3 := g0 3 (by decide)
  have q3 : Typed tab (.int .i64) z0_3 := q3
  obtain ⟨y3, rfl⟩ := typed_int q3
  have q4 := g0 4 (by decide)
  have q4 : Typed tab (.int .i64) z0_4 := q4
  obtain ⟨y4, rfl⟩ := typed_int q4
  cases h with | cons l1 g1 h =>
  obtain ⟨z1_0, z1_1, z1_2, z1_3, z1_4, rfl⟩ := len_5 l1
  have q5 := g1 0 (by decide)
  have q5 : Typed tab (.int .i64) z1_0 := q5
  obtain ⟨y5, rfl⟩ := typed_int q5
  have q6 := g1 1 (by decide)
  have q6 : Typed tab (.slice 125) z1_1 := q6
  obtain ⟨y6, rfl⟩ := typed_slice q6
  have q7 := g1 2 (by decide)
  have q7 : Typed tab (.int .i64) z1_2 := q7
  obtain ⟨y7, rfl⟩ := typed_int q7
  have q8 := g1 3 (by decide)
  have q8 : Typed tab (.int .i64) z1_3 := q8
  obtain ⟨y8, rfl⟩ := typed_int q8
  have q9 := g1 4 (by decide)
  have q9 : Typed tab (.int .i64) z1_4 := q9
  obtain ⟨y9, rfl⟩ := typed_int q9
  cases h
  refine (laws_FnExactSameCache_e y0 y1 y2 y3 y4 y5 y6 y7 y8 y9).trans ?_
  rw [Tr.run_eq, laws_FnExactSameCache_p y0 y1 y2 y3 y4 y5 y6 y7 y8 y9 q0 q1 q2 q3 q4 q5 q6 q7 q8 q9]
  rfl
end Go.Proofs.Ytdifjmbflnkojaa.V
