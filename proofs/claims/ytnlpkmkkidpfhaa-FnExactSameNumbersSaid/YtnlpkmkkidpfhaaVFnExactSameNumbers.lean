/- What the functions of FnExactSameNumbers answer. No condition. -/
import Derived.Test.YtnlpkmkkidpfhaaVFacts
namespace Go.Proofs.Ytnlpkmkkidpfhaa.V
open Go
set_option maxRecDepth 100000
set_option linter.unusedVariables false
set_option linter.unusedSimpArgs false
/-! laws_szInt64S -/
noncomputable def laws_szInt64S_t (a0 : List (List TC)) (a1 : Int) : Tr (Int) := (.ite ((decide ((IntKind.wrap .i64 (a1 - (a0.length : Int))) < (0 : Int))) = true) (.ok (-1 : Int))
  (.ok (IntKind.wrap .i64 (a1 - (a0.length : Int)))))
def laws_szInt64S_mk (p : Int) : Res := [(false, [⟨.int .i64, .sh, .i p⟩])]
noncomputable def laws_szInt64S_c (a0 : List (List TC)) (a1 : Int) : Bool := true
noncomputable def laws_szInt64S_v (a0 : List (List TC)) (a1 : Int) : Int := (bif (decide ((IntKind.wrap .i64 (a1 - (a0.length : Int))) < (0 : Int))) then (-1 : Int) else (IntKind.wrap .i64 (a1 - (a0.length : Int))))
theorem laws_szInt64S_l (a0 : List (List TC)) (a1 : Int) : (laws_szInt64S_c a0 a1) = true → (laws_szInt64S_t a0 a1).val = some (laws_szInt64S_v a0 a1) := by
  intro h
  skip
  unfold laws_szInt64S_t laws_szInt64S_v
  exact (Tr.s rfl rfl)
noncomputable def laws_szInt64S_S : List Arg → Option (Bool × Res) := fun xs => match xs with
  | [(false, [(.slice 2, .l a0)]), (false, [(.int .i64, .i a1)])] => some (true, laws_szInt64S_mk (laws_szInt64S_v a0 a1))
  | _ => .none
theorem laws_szInt64S_e (a0 : List (List TC)) (a1 : Int) : runF tab FT D0 live 65 noLoops [(false, [(.slice 2, .l a0)]), (false, [(.int .i64, .i a1)])] = (laws_szInt64S_t a0 a1).run fun p => some (laws_szInt64S_mk p) := by kernel_rfl
theorem laws_szInt64S_s : ∀ xs r, laws_szInt64S_S xs = some (true, r) → runF tab FT D0 live 65 noLoops xs = some r := by
  intro xs r h
  unfold laws_szInt64S_S at h
  split at h
  · simp only [Option.some.injEq, Prod.mk.injEq] at h
    obtain ⟨h1, rfl⟩ := h
    exact fun_told (laws_szInt64S_e _ _) (laws_szInt64S_l _ _) rfl
  · cases h
noncomputable def D1 : Dt := also D0 65 laws_szInt64S_S
theorem d1 : DOk Go.Proofs.Try.prog tab D1 := d0.also mixed_ok tab_ok names_ok noLoops_ok laws_szInt64S_s
/-! laws_szNumbers -/
noncomputable def laws_szNumbers_t (a0 : List (List TC)) (a1 : List (List TC)) (a2 : Int) : Tr (Int) := (.ite ((decide ((laws_szInt64S_v a0 a2) < (0 : Int))) = true) (.ok (-1 : Int))
  (.ite ((decide ((laws_szInt64S_v a1 (laws_szInt64S_v a0 a2)) < (0 : Int))) = true) (.ok (-1 : Int))
   (.ok (laws_szInt64S_v a1 (laws_szInt64S_v a0 a2)))))
def laws_szNumbers_mk (p : Int) : Res := [(false, [⟨.int .i64, .sh, .i p⟩])]
noncomputable def laws_szNumbers_c (a0 : List (List TC)) (a1 : List (List TC)) (a2 : Int) : Bool := true
noncomputable def laws_szNumbers_v (a0 : List (List TC)) (a1 : List (List TC)) (a2 : Int) : Int := (bif (decide ((laws_szInt64S_v a0 a2) < (0 : Int))) then (-1 : Int) else (bif (decide ((laws_szInt64S_v a1 (laws_szInt64S_v a0 a2)) < (0 : Int))) then (-1 : Int) else (laws_szInt64S_v a1 (laws_szInt64S_v a0 a2))))
theorem laws_szNumbers_l (a0 : List (List TC)) (a1 : List (List TC)) (a2 : Int) : (laws_szNumbers_c a0 a1 a2) = true → (laws_szNumbers_t a0 a1 a2).val = some (laws_szNumbers_v a0 a1 a2) := by
  intro h
  skip
  unfold laws_szNumbers_t laws_szNumbers_v
  exact (Tr.s rfl (Tr.s rfl rfl))
noncomputable def laws_szNumbers_S : List Arg → Option (Bool × Res) := fun xs => match xs with
  | [(true, [(.slice 2, .l a0), (.slice 2, .l a1)]), (false, [(.int .i64, .i a2)])] => some (true, laws_szNumbers_mk (laws_szNumbers_v a0 a1 a2))
  | _ => .none
theorem laws_szNumbers_e (a0 : List (List TC)) (a1 : List (List TC)) (a2 : Int) : runF tab FT D1 live 29 noLoops [(true, [(.slice 2, .l a0), (.slice 2, .l a1)]), (false, [(.int .i64, .i a2)])] = (laws_szNumbers_t a0 a1 a2).run fun p => some (laws_szNumbers_mk p) := by kernel_rfl
theorem laws_szNumbers_s : ∀ xs r, laws_szNumbers_S xs = some (true, r) → runF tab FT D1 live 29 noLoops xs = some r := by
  intro xs r h
  unfold laws_szNumbers_S at h
  split at h
  · simp only [Option.some.injEq, Prod.mk.injEq] at h
    obtain ⟨h1, rfl⟩ := h
    exact fun_told (laws_szNumbers_e _ _ _) (laws_szNumbers_l _ _ _) rfl
  · cases h
noncomputable def D2 : Dt := also D1 29 laws_szNumbers_S
theorem d2 : DOk Go.Proofs.Try.prog tab D2 := d1.also mixed_ok tab_ok names_ok noLoops_ok laws_szNumbers_s
/-! laws_toInt64S -/
def laws_toInt64S_g (x : List TC) : List TC := [.i ((nth x 0).int)]
def laws_toInt64S_z : List TC := [.i (0 : Int)]
abbrev laws_toInt64S_3_σ := List (List TC) × List (List TC) × Int
abbrev laws_toInt64S_3_ω := (List (List TC))
noncomputable def laws_toInt64S_o3_1 (A : List (List TC)) (X : List (List TC)) (i : Int) : Bool := is (Typed tab (.slice 2) (.l A) ∧ X = List.replicate A.length laws_toInt64S_z ∧ i = 0)
noncomputable def laws_toInt64S_u3_1 (A : List (List TC)) (X : List (List TC)) (i : Int) : List (List TC) := A.map laws_toInt64S_g
noncomputable def laws_toInt64S_3_fin (A : List (List TC)) (X : List (List TC)) (i : Int) : Told laws_toInt64S_3_ω := (.leaf (laws_toInt64S_o3_1 A X i) (laws_toInt64S_u3_1 A X i))
noncomputable def laws_toInt64S_3_step (A : List (List TC)) (X : List (List TC)) (i : Int) : Tr (laws_toInt64S_3_σ ⊕ laws_toInt64S_3_ω) := (.ite ((decide (i < (A.length : Int))) = true) (.ite ((0 : Int) ≤ i ∧ i < (A.length : Int)) (.ite ((0 : Int) ≤ i ∧ i < (X.length : Int)) (.ok (.inl (A, (X.set (i).toNat (splice (row X i) 0 [.i ((nth (row A i) 0).int)])), (IntKind.wrap .i64 (i + (1 : Int))))))
    .no)
   .no)
  (.ok (.inr X)))
def laws_toInt64S_3_sl (x : laws_toInt64S_3_σ) : List Slot := [⟨.val false [⟨.slice 2, .sh, .l (x.1)⟩], ⟨0, 0⟩⟩, ⟨.val false [⟨.slice 2, .own true, .l (x.2.1)⟩], ⟨0, 0⟩⟩, ⟨.val false [⟨.int .i64, .sh, .i (x.2.2)⟩], ⟨0, 0⟩⟩]
def laws_toInt64S_3_out : laws_toInt64S_3_ω → Ex × List Slot := (fun x => (.exit 0, [Slot.none, ⟨.val false [⟨.slice 2, .own true, .l x⟩], ⟨0, 0⟩⟩]))
noncomputable def laws_toInt64S_lo3 : List Slot → Option (Told (Ex × List Slot)) := fun s => match s with
  | [⟨.val false [⟨.slice 2, .sh, .l A⟩], ⟨0, 0⟩⟩, ⟨.val false [⟨.slice 2, .own true, .l X⟩], ⟨0, 0⟩⟩, ⟨.val false [⟨.int .i64, .sh, .i i⟩], ⟨0, 0⟩⟩] => some (((laws_toInt64S_3_fin A X i)).map laws_toInt64S_3_out)
  | _ => .none
noncomputable def laws_toInt64S_lo : LoopTeller := fun r s => bif Nat.beq r 3 then laws_toInt64S_lo3 s else .none
theorem laws_toInt64S_3_r (A : List (List TC)) (X : List (List TC)) (i : Int) (n : Nat) : rounds (rnd tab FT D2 live 48 laws_toInt64S_lo 0 3) leave (n + 1) (laws_toInt64S_3_sl (A, X, i)) = ((laws_toInt64S_3_step A X i)).run (goOn (fun s => rounds (rnd tab FT D2 live 48 laws_toInt64S_lo 0 3) leave n (laws_toInt64S_3_sl s)) fun w => some (laws_toInt64S_3_out w)) := by kernel_rfl
noncomputable def laws_toInt64S_3_st : laws_toInt64S_3_σ → Tr (laws_toInt64S_3_σ ⊕ laws_toInt64S_3_ω) := fun x => (laws_toInt64S_3_step (x.1) (x.2.1) (x.2.2))
theorem laws_toInt64S_3_h (A : List (List TC)) (X : List (List TC)) (i : Int) (w : laws_toInt64S_3_ω) : ((laws_toInt64S_3_fin A X i)).val = some w → ∃ n, loopN laws_toInt64S_3_st n (A, X, i) = some w := by
  intro h
  simp only [laws_toInt64S_3_fin, Told.val] at h
  split at h
  · rename_i ho
    obtain ⟨ht, rfl, rfl⟩ := is_iff.1 ho
    cases h
    have hlen : A.length ≤ 140737488351232 := by have := typed_room ht; simp only [show (tab 2).bytes = 8 from rfl] at this; omega
    have key := loopN_copy (step := laws_toInt64S_3_st) A (List.replicate A.length laws_toInt64S_z) laws_toInt64S_g (fun Y i => (A, Y, (i : Int))) (A.map laws_toInt64S_g) (by simp) (fun x hx i _ => by rw [(List.mem_replicate.1 hx).2]; exact Nat.le_refl 1) (fun Y i hi hl => ?_) ?_ A.length 0 (by omega)
    · rw [copied_zero] at key
      exact ⟨_, key⟩
    · skip
      show (laws_toInt64S_3_step A Y (i : Int)).val = _
      unfold laws_toInt64S_3_step
      refine Tr.t (by simp; omega) ?_
      refine Tr.t (by constructor <;> omega) ?_
      refine Tr.t (by constructor <;> omega) ?_
      repeat (refine Tr.t (is_true (by and_intros <;> (first | rfl | assumption | exact (is_true (by and_intros <;> (first | rfl | assumption | exact (is_true (by and_intros <;> (first | rfl | assumption | exact (is_true (by and_intros <;> (first | rfl | assumption | exact (is_true (by and_intros <;> (first | rfl | assumption))))))))))))))) ?_)
      rw [Tr.val_ok, wrap64 (by omega) (by omega)]; rfl
    · show (laws_toInt64S_3_step A (A.map laws_toInt64S_g) (A.length : Int)).val = _
      refine Tr.n (by simp) ?_
      rfl
  · cases h
theorem laws_toInt64S_is3 : LoopIs tab FT D2 live 48 laws_toInt64S_lo 0 3 := by
  refine loop_told (sl := laws_toInt64S_3_sl) (step := laws_toInt64S_3_st) (out := laws_toInt64S_3_out) (lor := laws_toInt64S_lo3) (fin := fun x => (laws_toInt64S_3_fin (x.1) (x.2.1) (x.2.2))) (fun _ => rfl) ?_ (fun x n => laws_toInt64S_3_r x.1 x.2.1 x.2.2 n) (fun x w => laws_toInt64S_3_h x.1 x.2.1 x.2.2 w)
  intro s t h
  unfold laws_toInt64S_lo3 at h
  split at h
  · cases h; exact ⟨(_, _, _), rfl, rfl⟩
  · cases h
noncomputable def laws_toInt64S_t (A : List (List TC)) : Tr (List (List TC)) := (.ite (0 ≤ (A.length : Int) ∧ (A.length : Int) ≤ (A.length : Int) ∧ (A.length : Int) * 8 ≤ 140737488355328 ∧ (A.length : Int) ≤ 140737488355328) (.ite ((laws_toInt64S_o3_1 A (List.replicate ((A.length : Int)).toNat [.i (0 : Int)]) (0 : Int)) = true) (.ok (laws_toInt64S_u3_1 A (List.replicate ((A.length : Int)).toNat [.i (0 : Int)]) (0 : Int)))
   .no)
  .no)
def laws_toInt64S_mk (p : List (List TC)) : Res := [(false, [⟨.slice 2, .own true, .l p⟩])]
noncomputable def laws_toInt64S_c (A : List (List TC)) : Bool := is (Typed tab (.slice 2) (.l A))
noncomputable def laws_toInt64S_v (A : List (List TC)) : List (List TC) := A.map laws_toInt64S_g
theorem laws_toInt64S_l (A : List (List TC)) : (laws_toInt64S_c A) = true → (laws_toInt64S_t A).val = some (laws_toInt64S_v A) := by
  intro h
  have ht := is_iff.1 h
  have hb := typed_room ht
  simp only [show (tab 2).bytes = 8 from rfl] at hb
  unfold laws_toInt64S_t
  refine Tr.t (by omega) ?_
  refine Tr.t (is_true ⟨ht, by rfl, rfl⟩) ?_
  rfl
noncomputable def laws_toInt64S_S : List Arg → Option (Bool × Res) := fun xs => match xs with
  | [(false, [(.slice 2, .l A)])] => some ((laws_toInt64S_c A), laws_toInt64S_mk (laws_toInt64S_v A))
  | _ => .none
theorem laws_toInt64S_e (A : List (List TC)) : runF tab FT D2 live 48 laws_toInt64S_lo [(false, [(.slice 2, .l A)])] = (laws_toInt64S_t A).run fun p => some (laws_toInt64S_mk p) := by kernel_rfl
theorem laws_toInt64S_s : ∀ xs r, laws_toInt64S_S xs = some (true, r) → runF tab FT D2 live 48 laws_toInt64S_lo xs = some r := by
  intro xs r h
  unfold laws_toInt64S_S at h
  split at h
  · simp only [Option.some.injEq, Prod.mk.injEq] at h
    obtain ⟨h1, rfl⟩ := h
    exact fun_told (laws_toInt64S_e _) (laws_toInt64S_l _) h1
  · cases h
noncomputable def D3 : Dt := also D2 48 laws_toInt64S_S
theorem d3 : DOk Go.Proofs.Try.prog tab D3 := d2.also mixed_ok tab_ok names_ok (fnLoops_one (by kernel_rfl) laws_toInt64S_is3) laws_toInt64S_s
theorem laws_toInt64S_ty {A : List (List TC)} (h : Typed tab (.slice 2) (.l A)) : Typed tab (.slice 2) (.l (A.map laws_toInt64S_g)) := by
  refine typed_map h (by decide) fun x _ _ hx => ⟨rfl, fun k hk => ?_⟩
  match k, hk with
    | 0, _ => exact typed_i (hx 0 (by decide))
/-! laws_toNumbers -/
noncomputable def laws_toNumbers_t (x0 : List (List TC)) (x1 : List (List TC)) : Tr (List (List TC) × List (List TC)) := (.ite ((laws_toInt64S_c x0) = true) (.ite ((laws_toInt64S_c x1) = true) (.ok ((laws_toInt64S_v x0), (laws_toInt64S_v x1)))
   .no)
  .no)
def laws_toNumbers_mk (p : List (List TC) × List (List TC)) : Res := [(true, [⟨.slice 2, .own true, .l (p.1)⟩, ⟨.slice 2, .own true, .l (p.2)⟩])]
noncomputable def laws_toNumbers_c (x0 : List (List TC)) (x1 : List (List TC)) : Bool := is (Typed tab (.slice 2) (.l x0) ∧ Typed tab (.slice 2) (.l x1))
noncomputable def laws_toNumbers_v (x0 : List (List TC)) (x1 : List (List TC)) : List (List TC) × List (List TC) := ((laws_toInt64S_v x0), (laws_toInt64S_v x1))
theorem laws_toNumbers_l (x0 : List (List TC)) (x1 : List (List TC)) : (laws_toNumbers_c x0 x1) = true → (laws_toNumbers_t x0 x1).val = some (laws_toNumbers_v x0 x1) := by
  intro h
  obtain ⟨t0, t1⟩ := is_iff.1 h
  unfold laws_toNumbers_t
  repeat (refine Tr.t (is_true (by and_intros <;> (first | rfl | assumption | exact (is_true (by and_intros <;> (first | rfl | assumption | exact (is_true (by and_intros <;> (first | rfl | assumption | exact (is_true (by and_intros <;> (first | rfl | assumption | exact (is_true (by and_intros <;> (first | rfl | assumption))))))))))))))) ?_)
  rfl
noncomputable def laws_toNumbers_S : List Arg → Option (Bool × Res) := fun xs => match xs with
  | [(true, [(.slice 2, .l x0), (.slice 2, .l x1)])] => some ((laws_toNumbers_c x0 x1), laws_toNumbers_mk (laws_toNumbers_v x0 x1))
  | _ => .none
theorem laws_toNumbers_e (x0 : List (List TC)) (x1 : List (List TC)) : runF tab FT D3 live 31 noLoops [(true, [(.slice 2, .l x0), (.slice 2, .l x1)])] = (laws_toNumbers_t x0 x1).run fun p => some (laws_toNumbers_mk p) := by kernel_rfl
theorem laws_toNumbers_s : ∀ xs r, laws_toNumbers_S xs = some (true, r) → runF tab FT D3 live 31 noLoops xs = some r := by
  intro xs r h
  unfold laws_toNumbers_S at h
  split at h
  · simp only [Option.some.injEq, Prod.mk.injEq] at h
    obtain ⟨h1, rfl⟩ := h
    exact fun_told (laws_toNumbers_e _ _) (laws_toNumbers_l _ _) h1
  · cases h
noncomputable def D4 : Dt := also D3 31 laws_toNumbers_S
theorem d4 : DOk Go.Proofs.Try.prog tab D4 := d3.also mixed_ok tab_ok names_ok noLoops_ok laws_toNumbers_s
/-! spec_l00Same -/
def E_2 (x y : List TC) : Bool := ((nth x 0).int == (nth y 0).int)
abbrev spec_l00Same_4_σ := List (List TC) × List (List TC) × Int
abbrev spec_l00Same_4_ω := (Unit) ⊕ (Unit)
noncomputable def spec_l00Same_k4_1 (A : List (List TC)) (C : List (List TC)) (i : Int) : Bool := allEq E_2 A C
noncomputable def spec_l00Same_o4_2 (A : List (List TC)) (C : List (List TC)) (i : Int) : Bool := is (A.length = C.length ∧ i = 0 ∧ Typed tab (.slice 2) (.l A))
noncomputable def spec_l00Same_u4_2 (A : List (List TC)) (C : List (List TC)) (i : Int) : Unit := ()
noncomputable def spec_l00Same_o4_3 (A : List (List TC)) (C : List (List TC)) (i : Int) : Bool := is (A.length = C.length ∧ i = 0 ∧ Typed tab (.slice 2) (.l A))
noncomputable def spec_l00Same_u4_3 (A : List (List TC)) (C : List (List TC)) (i : Int) : Unit := ()
noncomputable def spec_l00Same_4_fin (A : List (List TC)) (C : List (List TC)) (i : Int) : Told spec_l00Same_4_ω := (.br (spec_l00Same_k4_1 A C i) (.leaf (spec_l00Same_o4_2 A C i) (.inr (spec_l00Same_u4_2 A C i))) (.leaf (spec_l00Same_o4_3 A C i) (.inl (spec_l00Same_u4_3 A C i))))
noncomputable def spec_l00Same_4_step (A : List (List TC)) (C : List (List TC)) (i : Int) : Tr (spec_l00Same_4_σ ⊕ spec_l00Same_4_ω) := (.ite ((decide (i < (A.length : Int))) = true) (.ite ((0 : Int) ≤ i ∧ i < (A.length : Int)) (.ite ((0 : Int) ≤ i ∧ i < (C.length : Int)) (.ite ((!((nth (row A i) 0).int == (nth (row C i) 0).int)) = true) (.ok (.inr (.inl ())))
     (.ok (.inl (A, C, (IntKind.wrap .i64 (i + (1 : Int)))))))
    .no)
   .no)
  (.ok (.inr (.inr ()))))
def spec_l00Same_4_sl (x : spec_l00Same_4_σ) : List Slot := [⟨.val false [⟨.slice 2, .sh, .l (x.1)⟩], ⟨0, 0⟩⟩, ⟨.val false [⟨.slice 2, .sh, .l (x.2.1)⟩], ⟨0, 0⟩⟩, ⟨.val false [⟨.int .i64, .sh, .i (x.2.2)⟩], ⟨0, 0⟩⟩]
def spec_l00Same_4_out : spec_l00Same_4_ω → Ex × List Slot := (Sum.elim (fun x => (.ret, [⟨.val false [⟨.bool, .sh, .b false⟩], ⟨0, 0⟩⟩])) (fun x => (.exit 0, [Slot.none])))
noncomputable def spec_l00Same_lo4 : List Slot → Option (Told (Ex × List Slot)) := fun s => match s with
  | [⟨.val false [⟨.slice 2, .sh, .l A⟩], ⟨0, 0⟩⟩, ⟨.val false [⟨.slice 2, .sh, .l C⟩], ⟨0, 0⟩⟩, ⟨.val false [⟨.int .i64, .sh, .i i⟩], ⟨0, 0⟩⟩] => some (((spec_l00Same_4_fin A C i)).map spec_l00Same_4_out)
  | _ => .none
noncomputable def spec_l00Same_lo : LoopTeller := fun r s => bif Nat.beq r 4 then spec_l00Same_lo4 s else .none
theorem spec_l00Same_4_r (A : List (List TC)) (C : List (List TC)) (i : Int) (n : Nat) : rounds (rnd tab FT D4 live 66 spec_l00Same_lo 0 4) leave (n + 1) (spec_l00Same_4_sl (A, C, i)) = ((spec_l00Same_4_step A C i)).run (goOn (fun s => rounds (rnd tab FT D4 live 66 spec_l00Same_lo 0 4) leave n (spec_l00Same_4_sl s)) fun w => some (spec_l00Same_4_out w)) := by kernel_rfl
noncomputable def spec_l00Same_4_st : spec_l00Same_4_σ → Tr (spec_l00Same_4_σ ⊕ spec_l00Same_4_ω) := fun x => (spec_l00Same_4_step (x.1) (x.2.1) (x.2.2))
theorem spec_l00Same_4_h (A : List (List TC)) (C : List (List TC)) (i : Int) (w : spec_l00Same_4_ω) : ((spec_l00Same_4_fin A C i)).val = some w → ∃ n, loopN spec_l00Same_4_st n (A, C, i) = some w := by
  intro h
  have key : A.length = C.length → Typed tab (.slice 2) (.l A) → loopN spec_l00Same_4_st (A.length + 1) (A, C, 0) = some (if allEq E_2 A C = true then .inr () else .inl ()) := by
    intro hl ht
    have hlen : A.length ≤ 140737488351232 := by have := typed_room ht; simp only [show (tab 2).bytes = 8 from rfl] at this; omega
    refine loopN_allEq A C E_2 (fun i => (A, C, (i : Int))) _ _ hl (fun i hi => ?_) ?_ A.length 0 (by omega)
    · show (spec_l00Same_4_step A C (i : Int)).val = _
      unfold spec_l00Same_4_step
      refine Tr.t (by simp; omega) ?_
      refine Tr.t (by constructor <;> omega) ?_
      refine Tr.t (by constructor <;> omega) ?_
      rw [wrap64 (by omega) (by omega)]
      rw [Tr.val_br]
      show (if (!(E_2 (A.getD i []) (C.getD i []))) = true then _ else _) = _
      cases E_2 (A.getD i []) (C.getD i []) <;> rfl
    · show (spec_l00Same_4_step A C (A.length : Int)).val = _
      refine Tr.n (by simp) ?_
      rfl
  simp only [spec_l00Same_4_fin, Told.val] at h
  cases hk : allEq E_2 A C with
  | true =>
    rw [if_pos (show spec_l00Same_k4_1 A C i = true from hk)] at h
    split at h
    · rename_i ho
      obtain ⟨hl, rfl, ht⟩ := is_iff.1 ho
      cases h
      refine ⟨_, (key hl ht).trans ?_⟩
      rw [hk]; rfl
    · cases h
  | false =>
    rw [if_neg (show ¬spec_l00Same_k4_1 A C i = true from by rw [show spec_l00Same_k4_1 A C i = allEq E_2 A C from rfl, hk]; simp)] at h
    split at h
    · rename_i ho
      obtain ⟨hl, rfl, ht⟩ := is_iff.1 ho
      cases h
      refine ⟨_, (key hl ht).trans ?_⟩
      rw [hk]; rfl
    · cases h
theorem spec_l00Same_is4 : LoopIs tab FT D4 live 66 spec_l00Same_lo 0 4 := by
  refine loop_told (sl := spec_l00Same_4_sl) (step := spec_l00Same_4_st) (out := spec_l00Same_4_out) (lor := spec_l00Same_lo4) (fin := fun x => (spec_l00Same_4_fin (x.1) (x.2.1) (x.2.2))) (fun _ => rfl) ?_ (fun x n => spec_l00Same_4_r x.1 x.2.1 x.2.2 n) (fun x w => spec_l00Same_4_h x.1 x.2.1 x.2.2 w)
  intro s t h
  unfold spec_l00Same_lo4 at h
  split at h
  · cases h; exact ⟨(_, _, _), rfl, rfl⟩
  · cases h
noncomputable def spec_l00Same_t (A : List (List TC)) (C : List (List TC)) : Tr (Bool) := (.ite ((!((A.length : Int) == (C.length : Int))) = true) (.ok false)
  (.ite ((spec_l00Same_k4_1 A C (0 : Int)) = true) (.ite ((spec_l00Same_o4_2 A C (0 : Int)) = true) (.ok true)
    .no)
   (.ite ((spec_l00Same_o4_3 A C (0 : Int)) = true) (.ok false)
    .no)))
def spec_l00Same_mk (p : Bool) : Res := [(false, [⟨.bool, .sh, .b p⟩])]
noncomputable def spec_l00Same_c (A : List (List TC)) (C : List (List TC)) : Bool := is (Typed tab (.slice 2) (.l A))
noncomputable def spec_l00Same_v (A : List (List TC)) (C : List (List TC)) : Bool := allEq E_2 A C
theorem spec_l00Same_l (A : List (List TC)) (C : List (List TC)) : (spec_l00Same_c A C) = true → (spec_l00Same_t A C).val = some (spec_l00Same_v A C) := by
  intro h
  have ht := is_iff.1 h
  unfold spec_l00Same_t
  by_cases hl : A.length = C.length
  · refine Tr.n (by simp [hl]) ?_
    cases hk : allEq E_2 A C with
    | true =>
      refine Tr.t (show allEq E_2 A C = true from hk) ?_
      refine Tr.t (is_true ⟨hl, rfl, ht⟩) ?_
      show _ = some (allEq E_2 A C); rw [hk]; rfl
    | false =>
      refine Tr.n (show ¬allEq E_2 A C = true from by rw [hk]; simp) ?_
      refine Tr.t (is_true ⟨hl, rfl, ht⟩) ?_
      show _ = some (allEq E_2 A C); rw [hk]; rfl
  · refine Tr.t (by simp; omega) ?_
    show _ = some (allEq E_2 A C)
    rw [allEq_ne hl]
    rfl
noncomputable def spec_l00Same_S : List Arg → Option (Bool × Res) := fun xs => match xs with
  | [(false, [(.slice 2, .l A)]), (false, [(.slice 2, .l C)])] => some ((spec_l00Same_c A C), spec_l00Same_mk (spec_l00Same_v A C))
  | _ => .none
theorem spec_l00Same_e (A : List (List TC)) (C : List (List TC)) : runF tab FT D4 live 66 spec_l00Same_lo [(false, [(.slice 2, .l A)]), (false, [(.slice 2, .l C)])] = (spec_l00Same_t A C).run fun p => some (spec_l00Same_mk p) := by kernel_rfl
theorem spec_l00Same_s : ∀ xs r, spec_l00Same_S xs = some (true, r) → runF tab FT D4 live 66 spec_l00Same_lo xs = some r := by
  intro xs r h
  unfold spec_l00Same_S at h
  split at h
  · simp only [Option.some.injEq, Prod.mk.injEq] at h
    obtain ⟨h1, rfl⟩ := h
    exact fun_told (spec_l00Same_e _ _) (spec_l00Same_l _ _) h1
  · cases h
noncomputable def D5 : Dt := also D4 66 spec_l00Same_S
theorem d5 : DOk Go.Proofs.Try.prog tab D5 := d4.also mixed_ok tab_ok names_ok (fnLoops_one (by kernel_rfl) spec_l00Same_is4) spec_l00Same_s
/-! spec_SameNumbers -/
noncomputable def spec_SameNumbers_t (a0 : List (List TC)) (a1 : List (List TC)) (a2 : List (List TC)) (a3 : List (List TC)) : Tr (Bool) := (.ite ((spec_l00Same_c a0 a2) = true) (.ite ((spec_l00Same_v a0 a2) = true) (.ite ((spec_l00Same_c a1 a3) = true) (.ok (spec_l00Same_v a1 a3))
    .no)
   (.ok false))
  .no)
def spec_SameNumbers_mk (p : Bool) : Res := [(false, [⟨.bool, .sh, .b p⟩])]
noncomputable def spec_SameNumbers_c (a0 : List (List TC)) (a1 : List (List TC)) (a2 : List (List TC)) (a3 : List (List TC)) : Bool := is (((spec_l00Same_c a0 a2) = true) ∧ ((spec_l00Same_c a1 a3) = true))
noncomputable def spec_SameNumbers_v (a0 : List (List TC)) (a1 : List (List TC)) (a2 : List (List TC)) (a3 : List (List TC)) : Bool := (bif (spec_l00Same_v a0 a2) then (spec_l00Same_v a1 a3) else false)
theorem spec_SameNumbers_l (a0 : List (List TC)) (a1 : List (List TC)) (a2 : List (List TC)) (a3 : List (List TC)) : (spec_SameNumbers_c a0 a1 a2 a3) = true → (spec_SameNumbers_t a0 a1 a2 a3).val = some (spec_SameNumbers_v a0 a1 a2 a3) := by
  intro h
  obtain ⟨g0, g1⟩ := is_iff.1 h
  unfold spec_SameNumbers_t spec_SameNumbers_v
  exact (Tr.t g0 (Tr.s (Tr.t g1 rfl) rfl))
noncomputable def spec_SameNumbers_S : List Arg → Option (Bool × Res) := fun xs => match xs with
  | [(true, [(.slice 2, .l a0), (.slice 2, .l a1)]), (true, [(.slice 2, .l a2), (.slice 2, .l a3)])] => some ((spec_SameNumbers_c a0 a1 a2 a3), spec_SameNumbers_mk (spec_SameNumbers_v a0 a1 a2 a3))
  | _ => .none
theorem spec_SameNumbers_e (a0 : List (List TC)) (a1 : List (List TC)) (a2 : List (List TC)) (a3 : List (List TC)) : runF tab FT D5 live 30 noLoops [(true, [(.slice 2, .l a0), (.slice 2, .l a1)]), (true, [(.slice 2, .l a2), (.slice 2, .l a3)])] = (spec_SameNumbers_t a0 a1 a2 a3).run fun p => some (spec_SameNumbers_mk p) := by kernel_rfl
theorem spec_SameNumbers_s : ∀ xs r, spec_SameNumbers_S xs = some (true, r) → runF tab FT D5 live 30 noLoops xs = some r := by
  intro xs r h
  unfold spec_SameNumbers_S at h
  split at h
  · simp only [Option.some.injEq, Prod.mk.injEq] at h
    obtain ⟨h1, rfl⟩ := h
    exact fun_told (spec_SameNumbers_e _ _ _ _) (spec_SameNumbers_l _ _ _ _) h1
  · cases h
noncomputable def D6 : Dt := also D5 30 spec_SameNumbers_S
theorem d6 : DOk Go.Proofs.Try.prog tab D6 := d5.also mixed_ok tab_ok names_ok noLoops_ok spec_SameNumbers_s
/-! slices_Equal_int64_int64 -/
abbrev slices_Equal_int64_int64_4_σ := List (List TC) × List (List TC) × Int × Int
abbrev slices_Equal_int64_int64_4_ω := (Unit) ⊕ (Unit)
noncomputable def slices_Equal_int64_int64_k4_1 (A : List (List TC)) (C : List (List TC)) (m : Int) (i : Int) : Bool := allEq E_2 A C
noncomputable def slices_Equal_int64_int64_o4_2 (A : List (List TC)) (C : List (List TC)) (m : Int) (i : Int) : Bool := is (A.length = C.length ∧ i = 0 ∧ Typed tab (.slice 2) (.l A) ∧ m = (A.length : Int))
noncomputable def slices_Equal_int64_int64_u4_2 (A : List (List TC)) (C : List (List TC)) (m : Int) (i : Int) : Unit := ()
noncomputable def slices_Equal_int64_int64_o4_3 (A : List (List TC)) (C : List (List TC)) (m : Int) (i : Int) : Bool := is (A.length = C.length ∧ i = 0 ∧ Typed tab (.slice 2) (.l A) ∧ m = (A.length : Int))
noncomputable def slices_Equal_int64_int64_u4_3 (A : List (List TC)) (C : List (List TC)) (m : Int) (i : Int) : Unit := ()
noncomputable def slices_Equal_int64_int64_4_fin (A : List (List TC)) (C : List (List TC)) (m : Int) (i : Int) : Told slices_Equal_int64_int64_4_ω := (.br (slices_Equal_int64_int64_k4_1 A C m i) (.leaf (slices_Equal_int64_int64_o4_2 A C m i) (.inr (slices_Equal_int64_int64_u4_2 A C m i))) (.leaf (slices_Equal_int64_int64_o4_3 A C m i) (.inl (slices_Equal_int64_int64_u4_3 A C m i))))
noncomputable def slices_Equal_int64_int64_4_step (A : List (List TC)) (C : List (List TC)) (m : Int) (i : Int) : Tr (slices_Equal_int64_int64_4_σ ⊕ slices_Equal_int64_int64_4_ω) := (.ite ((decide (i < m)) = true) (.ite ((0 : Int) ≤ i ∧ i < (A.length : Int)) (.ite ((0 : Int) ≤ i ∧ i < (C.length : Int)) (.ite ((!((nth (row A i) 0).int == (nth (row C i) 0).int)) = true) (.ok (.inr (.inl ())))
     (.ok (.inl (A, C, m, (IntKind.wrap .i64 (i + (1 : Int)))))))
    .no)
   .no)
  (.ok (.inr (.inr ()))))
def slices_Equal_int64_int64_4_sl (x : slices_Equal_int64_int64_4_σ) : List Slot := [⟨.val false [⟨.slice 2, .sh, .l (x.1)⟩], ⟨0, 0⟩⟩, ⟨.val false [⟨.slice 2, .sh, .l (x.2.1)⟩], ⟨0, 0⟩⟩, ⟨.val false [⟨.int .i64, .sh, .i (x.2.2.1)⟩], ⟨0, 0⟩⟩, ⟨.val false [⟨.int .i64, .sh, .i (x.2.2.2)⟩], ⟨0, 0⟩⟩]
def slices_Equal_int64_int64_4_out : slices_Equal_int64_int64_4_ω → Ex × List Slot := (Sum.elim (fun x => (.ret, [⟨.val false [⟨.bool, .sh, .b false⟩], ⟨0, 0⟩⟩])) (fun x => (.exit 0, [Slot.none])))
noncomputable def slices_Equal_int64_int64_lo4 : List Slot → Option (Told (Ex × List Slot)) := fun s => match s with
  | [⟨.val false [⟨.slice 2, .sh, .l A⟩], ⟨0, 0⟩⟩, ⟨.val false [⟨.slice 2, .sh, .l C⟩], ⟨0, 0⟩⟩, ⟨.val false [⟨.int .i64, .sh, .i m⟩], ⟨0, 0⟩⟩, ⟨.val false [⟨.int .i64, .sh, .i i⟩], ⟨0, 0⟩⟩] => some (((slices_Equal_int64_int64_4_fin A C m i)).map slices_Equal_int64_int64_4_out)
  | _ => .none
noncomputable def slices_Equal_int64_int64_lo : LoopTeller := fun r s => bif Nat.beq r 4 then slices_Equal_int64_int64_lo4 s else .none
theorem slices_Equal_int64_int64_4_r (A : List (List TC)) (C : List (List TC)) (m : Int) (i : Int) (n : Nat) : rounds (rnd tab FT D6 live 67 slices_Equal_int64_int64_lo 0 4) leave (n + 1) (slices_Equal_int64_int64_4_sl (A, C, m, i)) = ((slices_Equal_int64_int64_4_step A C m i)).run (goOn (fun s => rounds (rnd tab FT D6 live 67 slices_Equal_int64_int64_lo 0 4) leave n (slices_Equal_int64_int64_4_sl s)) fun w => some (slices_Equal_int64_int64_4_out w)) := by kernel_rfl
noncomputable def slices_Equal_int64_int64_4_st : slices_Equal_int64_int64_4_σ → Tr (slices_Equal_int64_int64_4_σ ⊕ slices_Equal_int64_int64_4_ω) := fun x => (slices_Equal_int64_int64_4_step (x.1) (x.2.1) (x.2.2.1) (x.2.2.2))
theorem slices_Equal_int64_int64_4_h (A : List (List TC)) (C : List (List TC)) (m : Int) (i : Int) (w : slices_Equal_int64_int64_4_ω) : ((slices_Equal_int64_int64_4_fin A C m i)).val = some w → ∃ n, loopN slices_Equal_int64_int64_4_st n (A, C, m, i) = some w := by
  intro h
  have key : A.length = C.length → Typed tab (.slice 2) (.l A) → loopN slices_Equal_int64_int64_4_st (A.length + 1) (A, C, (A.length : Int), 0) = some (if allEq E_2 A C = true then .inr () else .inl ()) := by
    intro hl ht
    have hlen : A.length ≤ 140737488351232 := by have := typed_room ht; simp only [show (tab 2).bytes = 8 from rfl] at this; omega
    refine loopN_allEq A C E_2 (fun i => (A, C, (A.length : Int), (i : Int))) _ _ hl (fun i hi => ?_) ?_ A.length 0 (by omega)
    · show (slices_Equal_int64_int64_4_step A C (A.length : Int) (i : Int)).val = _
      unfold slices_Equal_int64_int64_4_step
      refine Tr.t (by simp; omega) ?_
      refine Tr.t (by constructor <;> omega) ?_
      refine Tr.t (by constructor <;> omega) ?_
      rw [wrap64 (by omega) (by omega)]
      rw [Tr.val_br]
      show (if (!(E_2 (A.getD i []) (C.getD i []))) = true then _ else _) = _
      cases E_2 (A.getD i []) (C.getD i []) <;> rfl
    · show (slices_Equal_int64_int64_4_step A C (A.length : Int) (A.length : Int)).val = _
      refine Tr.n (by simp) ?_
      rfl
  simp only [slices_Equal_int64_int64_4_fin, Told.val] at h
  cases hk : allEq E_2 A C with
  | true =>
    rw [if_pos (show slices_Equal_int64_int64_k4_1 A C m i = true from hk)] at h
    split at h
    · rename_i ho
      obtain ⟨hl, rfl, ht, rfl⟩ := is_iff.1 ho
      cases h
      refine ⟨_, (key hl ht).trans ?_⟩
      rw [hk]; rfl
    · cases h
  | false =>
    rw [if_neg (show ¬slices_Equal_int64_int64_k4_1 A C m i = true from by rw [show slices_Equal_int64_int64_k4_1 A C m i = allEq E_2 A C from rfl, hk]; simp)] at h
    split at h
    · rename_i ho
      obtain ⟨hl, rfl, ht, rfl⟩ := is_iff.1 ho
      cases h
      refine ⟨_, (key hl ht).trans ?_⟩
      rw [hk]; rfl
    · cases h
theorem slices_Equal_int64_int64_is4 : LoopIs tab FT D6 live 67 slices_Equal_int64_int64_lo 0 4 := by
  refine loop_told (sl := slices_Equal_int64_int64_4_sl) (step := slices_Equal_int64_int64_4_st) (out := slices_Equal_int64_int64_4_out) (lor := slices_Equal_int64_int64_lo4) (fin := fun x => (slices_Equal_int64_int64_4_fin (x.1) (x.2.1) (x.2.2.1) (x.2.2.2))) (fun _ => rfl) ?_ (fun x n => slices_Equal_int64_int64_4_r x.1 x.2.1 x.2.2.1 x.2.2.2 n) (fun x w => slices_Equal_int64_int64_4_h x.1 x.2.1 x.2.2.1 x.2.2.2 w)
  intro s t h
  unfold slices_Equal_int64_int64_lo4 at h
  split at h
  · cases h; exact ⟨(_, _, _, _), rfl, rfl⟩
  · cases h
noncomputable def slices_Equal_int64_int64_t (A : List (List TC)) (C : List (List TC)) : Tr (Bool) := (.ite ((!((A.length : Int) == (C.length : Int))) = true) (.ok false)
  (.ite ((slices_Equal_int64_int64_k4_1 A C (A.length : Int) (0 : Int)) = true) (.ite ((slices_Equal_int64_int64_o4_2 A C (A.length : Int) (0 : Int)) = true) (.ok true)
    .no)
   (.ite ((slices_Equal_int64_int64_o4_3 A C (A.length : Int) (0 : Int)) = true) (.ok false)
    .no)))
def slices_Equal_int64_int64_mk (p : Bool) : Res := [(false, [⟨.bool, .sh, .b p⟩])]
noncomputable def slices_Equal_int64_int64_c (A : List (List TC)) (C : List (List TC)) : Bool := is (Typed tab (.slice 2) (.l A))
noncomputable def slices_Equal_int64_int64_v (A : List (List TC)) (C : List (List TC)) : Bool := allEq E_2 A C
theorem slices_Equal_int64_int64_l (A : List (List TC)) (C : List (List TC)) : (slices_Equal_int64_int64_c A C) = true → (slices_Equal_int64_int64_t A C).val = some (slices_Equal_int64_int64_v A C) := by
  intro h
  have ht := is_iff.1 h
  unfold slices_Equal_int64_int64_t
  by_cases hl : A.length = C.length
  · refine Tr.n (by simp [hl]) ?_
    cases hk : allEq E_2 A C with
    | true =>
      refine Tr.t (show allEq E_2 A C = true from hk) ?_
      refine Tr.t (is_true ⟨hl, rfl, ht, rfl⟩) ?_
      show _ = some (allEq E_2 A C); rw [hk]; rfl
    | false =>
      refine Tr.n (show ¬allEq E_2 A C = true from by rw [hk]; simp) ?_
      refine Tr.t (is_true ⟨hl, rfl, ht, rfl⟩) ?_
      show _ = some (allEq E_2 A C); rw [hk]; rfl
  · refine Tr.t (by simp; omega) ?_
    show _ = some (allEq E_2 A C)
    rw [allEq_ne hl]
    rfl
noncomputable def slices_Equal_int64_int64_S : List Arg → Option (Bool × Res) := fun xs => match xs with
  | [(false, [(.slice 2, .l A)]), (false, [(.slice 2, .l C)])] => some ((slices_Equal_int64_int64_c A C), slices_Equal_int64_int64_mk (slices_Equal_int64_int64_v A C))
  | _ => .none
theorem slices_Equal_int64_int64_e (A : List (List TC)) (C : List (List TC)) : runF tab FT D6 live 67 slices_Equal_int64_int64_lo [(false, [(.slice 2, .l A)]), (false, [(.slice 2, .l C)])] = (slices_Equal_int64_int64_t A C).run fun p => some (slices_Equal_int64_int64_mk p) := by kernel_rfl
theorem slices_Equal_int64_int64_s : ∀ xs r, slices_Equal_int64_int64_S xs = some (true, r) → runF tab FT D6 live 67 slices_Equal_int64_int64_lo xs = some r := by
  intro xs r h
  unfold slices_Equal_int64_int64_S at h
  split at h
  · simp only [Option.some.injEq, Prod.mk.injEq] at h
    obtain ⟨h1, rfl⟩ := h
    exact fun_told (slices_Equal_int64_int64_e _ _) (slices_Equal_int64_int64_l _ _) h1
  · cases h
noncomputable def D7 : Dt := also D6 67 slices_Equal_int64_int64_S
theorem d7 : DOk Go.Proofs.Try.prog tab D7 := d6.also mixed_ok tab_ok names_ok (fnLoops_one (by kernel_rfl) slices_Equal_int64_int64_is4) slices_Equal_int64_int64_s
/-! impl_SameNumbers -/
noncomputable def impl_SameNumbers_t (a0 : List (List TC)) (a1 : List (List TC)) (a2 : List (List TC)) (a3 : List (List TC)) : Tr (Bool) := (.ite ((slices_Equal_int64_int64_c a0 a2) = true) (.ite ((slices_Equal_int64_int64_v a0 a2) = true) (.ite ((slices_Equal_int64_int64_c a1 a3) = true) (.ok (slices_Equal_int64_int64_v a1 a3))
    .no)
   (.ok false))
  .no)
def impl_SameNumbers_mk (p : Bool) : Res := [(false, [⟨.bool, .sh, .b p⟩])]
noncomputable def impl_SameNumbers_c (a0 : List (List TC)) (a1 : List (List TC)) (a2 : List (List TC)) (a3 : List (List TC)) : Bool := is (((slices_Equal_int64_int64_c a0 a2) = true) ∧ ((slices_Equal_int64_int64_c a1 a3) = true))
noncomputable def impl_SameNumbers_v (a0 : List (List TC)) (a1 : List (List TC)) (a2 : List (List TC)) (a3 : List (List TC)) : Bool := (bif (slices_Equal_int64_int64_v a0 a2) then (slices_Equal_int64_int64_v a1 a3) else false)
theorem impl_SameNumbers_l (a0 : List (List TC)) (a1 : List (List TC)) (a2 : List (List TC)) (a3 : List (List TC)) : (impl_SameNumbers_c a0 a1 a2 a3) = true → (impl_SameNumbers_t a0 a1 a2 a3).val = some (impl_SameNumbers_v a0 a1 a2 a3) := by
  intro h
  obtain ⟨g0, g1⟩ := is_iff.1 h
  unfold impl_SameNumbers_t impl_SameNumbers_v
  exact (Tr.t g0 (Tr.s (Tr.t g1 rfl) rfl))
noncomputable def impl_SameNumbers_S : List Arg → Option (Bool × Res) := fun xs => match xs with
  | [(true, [(.slice 2, .l a0), (.slice 2, .l a1)]), (true, [(.slice 2, .l a2), (.slice 2, .l a3)])] => some ((impl_SameNumbers_c a0 a1 a2 a3), impl_SameNumbers_mk (impl_SameNumbers_v a0 a1 a2 a3))
  | _ => .none
theorem impl_SameNumbers_e (a0 : List (List TC)) (a1 : List (List TC)) (a2 : List (List TC)) (a3 : List (List TC)) : runF tab FT D7 live 32 noLoops [(true, [(.slice 2, .l a0), (.slice 2, .l a1)]), (true, [(.slice 2, .l a2), (.slice 2, .l a3)])] = (impl_SameNumbers_t a0 a1 a2 a3).run fun p => some (impl_SameNumbers_mk p) := by kernel_rfl
theorem impl_SameNumbers_s : ∀ xs r, impl_SameNumbers_S xs = some (true, r) → runF tab FT D7 live 32 noLoops xs = some r := by
  intro xs r h
  unfold impl_SameNumbers_S at h
  split at h
  · simp only [Option.some.injEq, Prod.mk.injEq] at h
    obtain ⟨h1, rfl⟩ := h
    exact fun_told (impl_SameNumbers_e _ _ _ _) (impl_SameNumbers_l _ _ _ _) h1
  · cases h
noncomputable def D8 : Dt := also D7 32 impl_SameNumbers_S
theorem d8 : DOk Go.Proofs.Try.prog tab D8 := d7.also mixed_ok tab_ok names_ok noLoops_ok impl_SameNumbers_s
/-! laws_eqInt64S -/
abbrev laws_eqInt64S_4_σ := List (List TC) × List (List TC) × Int
abbrev laws_eqInt64S_4_ω := (Unit) ⊕ (Unit)
noncomputable def laws_eqInt64S_o4_1 (A : List (List TC)) (C : List (List TC)) (i : Int) : Bool := is (A = C ∧ i = 0 ∧ Typed tab (.slice 2) (.l A))
noncomputable def laws_eqInt64S_u4_1 (A : List (List TC)) (C : List (List TC)) (i : Int) : Unit := ()
noncomputable def laws_eqInt64S_4_fin (A : List (List TC)) (C : List (List TC)) (i : Int) : Told laws_eqInt64S_4_ω := (.leaf (laws_eqInt64S_o4_1 A C i) (.inr (laws_eqInt64S_u4_1 A C i)))
noncomputable def laws_eqInt64S_4_step (A : List (List TC)) (C : List (List TC)) (i : Int) : Tr (laws_eqInt64S_4_σ ⊕ laws_eqInt64S_4_ω) := (.ite ((decide (i < (A.length : Int))) = true) (.ite ((0 : Int) ≤ i ∧ i < (A.length : Int)) (.ite ((0 : Int) ≤ i ∧ i < (C.length : Int)) (.ite ((!((nth (row A i) 0).int == (nth (row C i) 0).int)) = true) (.ok (.inr (.inl ())))
     (.ok (.inl (A, C, (IntKind.wrap .i64 (i + (1 : Int)))))))
    .no)
   .no)
  (.ok (.inr (.inr ()))))
def laws_eqInt64S_4_sl (x : laws_eqInt64S_4_σ) : List Slot := [⟨.val false [⟨.slice 2, .sh, .l (x.1)⟩], ⟨0, 0⟩⟩, ⟨.val false [⟨.slice 2, .sh, .l (x.2.1)⟩], ⟨0, 0⟩⟩, ⟨.val false [⟨.int .i64, .sh, .i (x.2.2)⟩], ⟨0, 0⟩⟩]
def laws_eqInt64S_4_out : laws_eqInt64S_4_ω → Ex × List Slot := (Sum.elim (fun x => (.ret, [⟨.val false [⟨.bool, .sh, .b false⟩], ⟨0, 0⟩⟩])) (fun x => (.exit 0, [Slot.none])))
noncomputable def laws_eqInt64S_lo4 : List Slot → Option (Told (Ex × List Slot)) := fun s => match s with
  | [⟨.val false [⟨.slice 2, .sh, .l A⟩], ⟨0, 0⟩⟩, ⟨.val false [⟨.slice 2, .sh, .l C⟩], ⟨0, 0⟩⟩, ⟨.val false [⟨.int .i64, .sh, .i i⟩], ⟨0, 0⟩⟩] => some (((laws_eqInt64S_4_fin A C i)).map laws_eqInt64S_4_out)
  | _ => .none
noncomputable def laws_eqInt64S_lo : LoopTeller := fun r s => bif Nat.beq r 4 then laws_eqInt64S_lo4 s else .none
theorem laws_eqInt64S_4_r (A : List (List TC)) (C : List (List TC)) (i : Int) (n : Nat) : rounds (rnd tab FT D8 live 50 laws_eqInt64S_lo 0 4) leave (n + 1) (laws_eqInt64S_4_sl (A, C, i)) = ((laws_eqInt64S_4_step A C i)).run (goOn (fun s => rounds (rnd tab FT D8 live 50 laws_eqInt64S_lo 0 4) leave n (laws_eqInt64S_4_sl s)) fun w => some (laws_eqInt64S_4_out w)) := by kernel_rfl
noncomputable def laws_eqInt64S_4_st : laws_eqInt64S_4_σ → Tr (laws_eqInt64S_4_σ ⊕ laws_eqInt64S_4_ω) := fun x => (laws_eqInt64S_4_step (x.1) (x.2.1) (x.2.2))
theorem laws_eqInt64S_4_h (A : List (List TC)) (C : List (List TC)) (i : Int) (w : laws_eqInt64S_4_ω) : ((laws_eqInt64S_4_fin A C i)).val = some w → ∃ n, loopN laws_eqInt64S_4_st n (A, C, i) = some w := by
  intro h
  simp only [laws_eqInt64S_4_fin, Told.val] at h
  split at h
  · rename_i ho
    obtain ⟨rfl, rfl, ht⟩ := is_iff.1 ho
    cases h
    have hlen : A.length ≤ 140737488351232 := by have := typed_room ht; simp only [show (tab 2).bytes = 8 from rfl] at this; omega
    refine ⟨_, loopN_run (N := A.length) (fun i => (A, A, (i : Int))) (fun i hi => ?_) ?_ A.length 0 (by omega)⟩
    · skip
      show (laws_eqInt64S_4_step A A (i : Int)).val = _
      unfold laws_eqInt64S_4_step
      refine Tr.t (by simp; omega) ?_
      refine Tr.t (by constructor <;> omega) ?_
      refine Tr.t (by constructor <;> omega) ?_
      refine Tr.n (by simp) ?_
      rw [Tr.val_ok, wrap64 (by omega) (by omega)]; rfl
    · show (laws_eqInt64S_4_step A A (A.length : Int)).val = _
      refine Tr.n (by simp) ?_
      rfl
  · cases h
theorem laws_eqInt64S_is4 : LoopIs tab FT D8 live 50 laws_eqInt64S_lo 0 4 := by
  refine loop_told (sl := laws_eqInt64S_4_sl) (step := laws_eqInt64S_4_st) (out := laws_eqInt64S_4_out) (lor := laws_eqInt64S_lo4) (fin := fun x => (laws_eqInt64S_4_fin (x.1) (x.2.1) (x.2.2))) (fun _ => rfl) ?_ (fun x n => laws_eqInt64S_4_r x.1 x.2.1 x.2.2 n) (fun x w => laws_eqInt64S_4_h x.1 x.2.1 x.2.2 w)
  intro s t h
  unfold laws_eqInt64S_lo4 at h
  split at h
  · cases h; exact ⟨(_, _, _), rfl, rfl⟩
  · cases h
noncomputable def laws_eqInt64S_t (A : List (List TC)) (C : List (List TC)) : Tr (Bool) := (.ite ((!((A.length : Int) == (C.length : Int))) = true) (.ok false)
  (.ite ((laws_eqInt64S_o4_1 A C (0 : Int)) = true) (.ok true)
   .no))
def laws_eqInt64S_mk (p : Bool) : Res := [(false, [⟨.bool, .sh, .b p⟩])]
noncomputable def laws_eqInt64S_c (A : List (List TC)) (C : List (List TC)) : Bool := is (A = C ∧ Typed tab (.slice 2) (.l A))
noncomputable def laws_eqInt64S_v (A : List (List TC)) (C : List (List TC)) : Bool := true
theorem laws_eqInt64S_l (A : List (List TC)) (C : List (List TC)) : (laws_eqInt64S_c A C) = true → (laws_eqInt64S_t A C).val = some (laws_eqInt64S_v A C) := by
  intro h
  obtain ⟨rfl, ht⟩ := is_iff.1 h
  unfold laws_eqInt64S_t
  refine Tr.n (by simp) ?_
  refine Tr.t (is_true (by and_intros <;> (first | rfl | assumption | exact (is_true (by and_intros <;> (first | rfl | assumption | exact (is_true (by and_intros <;> (first | rfl | assumption | exact (is_true (by and_intros <;> (first | rfl | assumption | exact (is_true (by and_intros <;> (first | rfl | assumption))))))))))))))) ?_
  rfl
noncomputable def laws_eqInt64S_S : List Arg → Option (Bool × Res) := fun xs => match xs with
  | [(false, [(.slice 2, .l A)]), (false, [(.slice 2, .l C)])] => some ((laws_eqInt64S_c A C), laws_eqInt64S_mk (laws_eqInt64S_v A C))
  | _ => .none
theorem laws_eqInt64S_e (A : List (List TC)) (C : List (List TC)) : runF tab FT D8 live 50 laws_eqInt64S_lo [(false, [(.slice 2, .l A)]), (false, [(.slice 2, .l C)])] = (laws_eqInt64S_t A C).run fun p => some (laws_eqInt64S_mk p) := by kernel_rfl
theorem laws_eqInt64S_s : ∀ xs r, laws_eqInt64S_S xs = some (true, r) → runF tab FT D8 live 50 laws_eqInt64S_lo xs = some r := by
  intro xs r h
  unfold laws_eqInt64S_S at h
  split at h
  · simp only [Option.some.injEq, Prod.mk.injEq] at h
    obtain ⟨h1, rfl⟩ := h
    exact fun_told (laws_eqInt64S_e _ _) (laws_eqInt64S_l _ _) h1
  · cases h
noncomputable def D9 : Dt := also D8 50 laws_eqInt64S_S
theorem d9 : DOk Go.Proofs.Try.prog tab D9 := d8.also mixed_ok tab_ok names_ok (fnLoops_one (by kernel_rfl) laws_eqInt64S_is4) laws_eqInt64S_s
/-! laws_eqNumbers -/
noncomputable def laws_eqNumbers_t (x0 : List (List TC)) (x1 : List (List TC)) (y0 : List (List TC)) (y1 : List (List TC)) : Tr (Bool) := (.ite ((laws_eqInt64S_c x0 y0) = true) (.ite ((!(laws_eqInt64S_v x0 y0)) = true) (.ok false)
   (.ite ((laws_eqInt64S_c x1 y1) = true) (.ite ((!(laws_eqInt64S_v x1 y1)) = true) (.ok false)
     (.ok true))
    .no))
  .no)
def laws_eqNumbers_mk (p : Bool) : Res := [(false, [⟨.bool, .sh, .b p⟩])]
noncomputable def laws_eqNumbers_c (x0 : List (List TC)) (x1 : List (List TC)) (y0 : List (List TC)) (y1 : List (List TC)) : Bool := is (x0 = y0 ∧ x1 = y1 ∧ Typed tab (.slice 2) (.l x0) ∧ Typed tab (.slice 2) (.l x1))
noncomputable def laws_eqNumbers_v (x0 : List (List TC)) (x1 : List (List TC)) (y0 : List (List TC)) (y1 : List (List TC)) : Bool := true
theorem laws_eqNumbers_l (x0 : List (List TC)) (x1 : List (List TC)) (y0 : List (List TC)) (y1 : List (List TC)) : (laws_eqNumbers_c x0 x1 y0 y1) = true → (laws_eqNumbers_t x0 x1 y0 y1).val = some (laws_eqNumbers_v x0 x1 y0 y1) := by
  intro h
  obtain ⟨rfl, rfl, t0, t1⟩ := is_iff.1 h
  unfold laws_eqNumbers_t
  refine Tr.t (is_true (by and_intros <;> (first | rfl | assumption | exact (is_true (by and_intros <;> (first | rfl | assumption | exact (is_true (by and_intros <;> (first | rfl | assumption | exact (is_true (by and_intros <;> (first | rfl | assumption | exact (is_true (by and_intros <;> (first | rfl | assumption))))))))))))))) ?_
  refine Tr.n (by simp [laws_eqInt64S_v]) ?_
  refine Tr.t (is_true (by and_intros <;> (first | rfl | assumption | exact (is_true (by and_intros <;> (first | rfl | assumption | exact (is_true (by and_intros <;> (first | rfl | assumption | exact (is_true (by and_intros <;> (first | rfl | assumption | exact (is_true (by and_intros <;> (first | rfl | assumption))))))))))))))) ?_
  refine Tr.n (by simp [laws_eqInt64S_v]) ?_
  rfl
noncomputable def laws_eqNumbers_S : List Arg → Option (Bool × Res) := fun xs => match xs with
  | [(true, [(.slice 2, .l x0), (.slice 2, .l x1)]), (true, [(.slice 2, .l y0), (.slice 2, .l y1)])] => some ((laws_eqNumbers_c x0 x1 y0 y1), laws_eqNumbers_mk (laws_eqNumbers_v x0 x1 y0 y1))
  | _ => .none
theorem laws_eqNumbers_e (x0 : List (List TC)) (x1 : List (List TC)) (y0 : List (List TC)) (y1 : List (List TC)) : runF tab FT D9 live 33 noLoops [(true, [(.slice 2, .l x0), (.slice 2, .l x1)]), (true, [(.slice 2, .l y0), (.slice 2, .l y1)])] = (laws_eqNumbers_t x0 x1 y0 y1).run fun p => some (laws_eqNumbers_mk p) := by kernel_rfl
theorem laws_eqNumbers_s : ∀ xs r, laws_eqNumbers_S xs = some (true, r) → runF tab FT D9 live 33 noLoops xs = some r := by
  intro xs r h
  unfold laws_eqNumbers_S at h
  split at h
  · simp only [Option.some.injEq, Prod.mk.injEq] at h
    obtain ⟨h1, rfl⟩ := h
    exact fun_told (laws_eqNumbers_e _ _ _ _) (laws_eqNumbers_l _ _ _ _) h1
  · cases h
noncomputable def D10 : Dt := also D9 33 laws_eqNumbers_S
theorem d10 : DOk Go.Proofs.Try.prog tab D10 := d9.also mixed_ok tab_ok names_ok noLoops_ok laws_eqNumbers_s
/-! the law -/
noncomputable def laws_FnExactSameNumbers_t (x0 : List (List TC)) (x1 : List (List TC)) (x2 : List (List TC)) (x3 : List (List TC)) : Tr Bool := (.ite ((decide ((laws_szNumbers_v x0 x1 (1048576 : Int)) < (0 : Int))) = true) (.ok true)
  (.ite ((decide ((laws_szNumbers_v x2 x3 (laws_szNumbers_v x0 x1 (1048576 : Int))) < (0 : Int))) = true) (.ok true)
   (.ite ((laws_toNumbers_c x0 x1) = true) (.ite ((laws_toNumbers_c x2 x3) = true) (.ite ((spec_SameNumbers_c ((laws_toNumbers_v x0 x1).1) ((laws_toNumbers_v x0 x1).2) ((laws_toNumbers_v x2 x3).1) ((laws_toNumbers_v x2 x3).2)) = true) (.ite ((laws_toNumbers_c x0 x1) = true) (.ite ((laws_toNumbers_c x2 x3) = true) (.ite ((impl_SameNumbers_c ((laws_toNumbers_v x0 x1).1) ((laws_toNumbers_v x0 x1).2) ((laws_toNumbers_v x2 x3).1) ((laws_toNumbers_v x2 x3).2)) = true) (.ite ((!((impl_SameNumbers_v ((laws_toNumbers_v x0 x1).1) ((laws_toNumbers_v x0 x1).2) ((laws_toNumbers_v x2 x3).1) ((laws_toNumbers_v x2 x3).2)) == (spec_SameNumbers_v ((laws_toNumbers_v x0 x1).1) ((laws_toNumbers_v x0 x1).2) ((laws_toNumbers_v x2 x3).1) ((laws_toNumbers_v x2 x3).2)))) = true) (.ok false)
          (.ite ((laws_toNumbers_c x0 x1) = true) (.ite ((laws_eqNumbers_c ((laws_toNumbers_v x0 x1).1) ((laws_toNumbers_v x0 x1).2) ((laws_toNumbers_v x0 x1).1) ((laws_toNumbers_v x0 x1).2)) = true) (.ite ((!(laws_eqNumbers_v ((laws_toNumbers_v x0 x1).1) ((laws_toNumbers_v x0 x1).2) ((laws_toNumbers_v x0 x1).1) ((laws_toNumbers_v x0 x1).2))) = true) (.ok false)
             (.ite ((laws_toNumbers_c x2 x3) = true) (.ite ((laws_eqNumbers_c ((laws_toNumbers_v x2 x3).1) ((laws_toNumbers_v x2 x3).2) ((laws_toNumbers_v x2 x3).1) ((laws_toNumbers_v x2 x3).2)) = true) (.ite ((!(laws_eqNumbers_v ((laws_toNumbers_v x2 x3).1) ((laws_toNumbers_v x2 x3).2) ((laws_toNumbers_v x2 x3).1) ((laws_toNumbers_v x2 x3).2))) = true) (.ok false)
                (.ok true))
               .no)
              .no))
            .no)
           .no))
         .no)
        .no)
       .no)
      .no)
     .no)
    .no)))
theorem laws_FnExactSameNumbers_e (x0 : List (List TC)) (x1 : List (List TC)) (x2 : List (List TC)) (x3 : List (List TC)) : runF tab FT D10 live 8 noLoops [(true, [(.slice 2, .l x0), (.slice 2, .l x1)]), (true, [(.slice 2, .l x2), (.slice 2, .l x3)])] = (laws_FnExactSameNumbers_t x0 x1 x2 x3).run fun p => some [(false, [⟨.bool, .sh, .b p⟩])] := by kernel_rfl
theorem laws_FnExactSameNumbers_p (x0 : List (List TC)) (x1 : List (List TC)) (x2 : List (List TC)) (x3 : List (List TC)) (h0 : Typed tab (.slice 2) (.l x0)) (h1 : Typed tab (.slice 2) (.l x1)) (h2 : Typed tab (.slice 2) (.l x2)) (h3 : Typed tab (.slice 2) (.l x3)) : (laws_FnExactSameNumbers_t x0 x1 x2 x3).val = some true := by
  have t0_2 := laws_toInt64S_ty h0
  have t1_2 := laws_toInt64S_ty h1
  have t2_2 := laws_toInt64S_ty h2
  have t3_2 := laws_toInt64S_ty h3
  unfold laws_FnExactSameNumbers_t
  refine Tr.y ?_
  refine Tr.y ?_
  refine Tr.t (by first | exact (is_true (by and_intros <;> (first | rfl | assumption | exact (is_true (by and_intros <;> (first | rfl | assumption | exact (is_true (by and_intros <;> (first | rfl | assumption | exact (is_true (by and_intros <;> (first | rfl | assumption | exact (is_true (by and_intros <;> (first | rfl | assumption))))))))))))))) | simp [*]) ?_
  refine Tr.t (by first | exact (is_true (by and_intros <;> (first | rfl | assumption | exact (is_true (by and_intros <;> (first | rfl | assumption | exact (is_true (by and_intros <;> (first | rfl | assumption | exact (is_true (by and_intros <;> (first | rfl | assumption | exact (is_true (by and_intros <;> (first | rfl | assumption))))))))))))))) | simp [*]) ?_
  refine Tr.t (by first | exact (is_true (by and_intros <;> (first | rfl | assumption | exact (is_true (by and_intros <;> (first | rfl | assumption | exact (is_true (by and_intros <;> (first | rfl | assumption | exact (is_true (by and_intros <;> (first | rfl | assumption | exact (is_true (by and_intros <;> (first | rfl | assumption))))))))))))))) | simp [*]) ?_
  refine Tr.t (by first | exact (is_true (by and_intros <;> (first | rfl | assumption | exact (is_true (by and_intros <;> (first | rfl | assumption | exact (is_true (by and_intros <;> (first | rfl | assumption | exact (is_true (by and_intros <;> (first | rfl | assumption | exact (is_true (by and_intros <;> (first | rfl | assumption))))))))))))))) | simp [*]) ?_
  refine Tr.t (by first | exact (is_true (by and_intros <;> (first | rfl | assumption | exact (is_true (by and_intros <;> (first | rfl | assumption | exact (is_true (by and_intros <;> (first | rfl | assumption | exact (is_true (by and_intros <;> (first | rfl | assumption | exact (is_true (by and_intros <;> (first | rfl | assumption))))))))))))))) | simp [*]) ?_
  refine Tr.t (by first | exact (is_true (by and_intros <;> (first | rfl | assumption | exact (is_true (by and_intros <;> (first | rfl | assumption | exact (is_true (by and_intros <;> (first | rfl | assumption | exact (is_true (by and_intros <;> (first | rfl | assumption | exact (is_true (by and_intros <;> (first | rfl | assumption))))))))))))))) | simp [*]) ?_
  refine Tr.n (by simp [laws_szInt64S_v, laws_szNumbers_v, laws_toInt64S_v, laws_toNumbers_v, spec_l00Same_v, spec_SameNumbers_v, slices_Equal_int64_int64_v, impl_SameNumbers_v, laws_eqInt64S_v, laws_eqNumbers_v]) ?_
  refine Tr.t (by first | exact (is_true (by and_intros <;> (first | rfl | assumption | exact (is_true (by and_intros <;> (first | rfl | assumption | exact (is_true (by and_intros <;> (first | rfl | assumption | exact (is_true (by and_intros <;> (first | rfl | assumption | exact (is_true (by and_intros <;> (first | rfl | assumption))))))))))))))) | simp [*]) ?_
  refine Tr.t (by first | exact (is_true (by and_intros <;> (first | rfl | assumption | exact (is_true (by and_intros <;> (first | rfl | assumption | exact (is_true (by and_intros <;> (first | rfl | assumption | exact (is_true (by and_intros <;> (first | rfl | assumption | exact (is_true (by and_intros <;> (first | rfl | assumption))))))))))))))) | simp [*]) ?_
  refine Tr.n (by simp [laws_szInt64S_v, laws_szNumbers_v, laws_toInt64S_v, laws_toNumbers_v, spec_l00Same_v, spec_SameNumbers_v, slices_Equal_int64_int64_v, impl_SameNumbers_v, laws_eqInt64S_v, laws_eqNumbers_v]) ?_
  refine Tr.t (by first | exact (is_true (by and_intros <;> (first | rfl | assumption | exact (is_true (by and_intros <;> (first | rfl | assumption | exact (is_true (by and_intros <;> (first | rfl | assumption | exact (is_true (by and_intros <;> (first | rfl | assumption | exact (is_true (by and_intros <;> (first | rfl | assumption))))))))))))))) | simp [*]) ?_
  refine Tr.t (by first | exact (is_true (by and_intros <;> (first | rfl | assumption | exact (is_true (by and_intros <;> (first | rfl | assumption | exact (is_true (by and_intros <;> (first | rfl | assumption | exact (is_true (by and_intros <;> (first | rfl | assumption | exact (is_true (by and_intros <;> (first | rfl | assumption))))))))))))))) | simp [*]) ?_
  refine Tr.n (by simp [laws_szInt64S_v, laws_szNumbers_v, laws_toInt64S_v, laws_toNumbers_v, spec_l00Same_v, spec_SameNumbers_v, slices_Equal_int64_int64_v, impl_SameNumbers_v, laws_eqInt64S_v, laws_eqNumbers_v]) ?_
  rfl
theorem laws_FnExactSameNumbers_pure : ∀ xs, ArgsTyped tab [40, 40] xs → runF tab FT D10 live 8 noLoops xs = yes := by
  intro xs h
  cases h with | cons l0 g0 h =>
  obtain ⟨z0_0, z0_1, rfl⟩ := len_2 l0
  have q0 := g0 0 (by decide)
  have q0 : Typed tab (.slice 2) z0_0 := q0
  obtain ⟨y0, rfl⟩ := typed_slice q0
  have q1 := g0 1 (by decide)
  have q1 : Typed tab (.slice 2) z0_1 := q1
  obtain ⟨y1, rfl⟩ := typed_slice q1
  cases h with | cons l1 g1 h =>
  obtain ⟨z1_0, z1_1, rfl⟩ := len_2 l1
  have q2 := g1 0 (by decide)
  have q2 : Typed tab (.slice 2) z1_0 := q2
  obtain ⟨y2, rfl⟩ := typed_slice q2
  have q3 := g1 1 (by decide)
  have q3 : Typed tab (.slice 2) z1_1 := q3
  obtain ⟨y3, rfl⟩ := typed_slice q3
  cases h
  refine (laws_FnExactSameNumbers_e y0 y1 y2 y3).trans ?_
  rw [Tr.run_eq, laws_FnExactSameNumbers_p y0 y1 y2 y3 q0 q1 q2 q3]
  rfl
end Go.Proofs.Ytnlpkmkkidpfhaa.V
