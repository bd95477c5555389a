/- What the functions of FnExactEncodeHeap answer. No condition. -/
import Derived.Test.YtdifjmbflnkojaaVFacts
namespace Go.Proofs.Ytdifjmbflnkojaa.V
open Go
set_option maxRecDepth 100000
set_option linter.unusedVariables false
set_option linter.unusedSimpArgs false
/-! laws_szStringS -/
abbrev laws_szStringS_5_σ := List (List TC) × Int × Int
abbrev laws_szStringS_5_ω := (Int) ⊕ (Int)
noncomputable def laws_szStringS_5_step (A : List (List TC)) (left : Int) (i : Int) : Tr (laws_szStringS_5_σ ⊕ laws_szStringS_5_ω) := (.ite ((decide (i < (A.length : Int))) = true) (.ite ((0 : Int) ≤ i ∧ i < (A.length : Int)) (.ite ((decide ((IntKind.wrap .i64 (left - (((nth (row A i) 0).str).length : Int))) < (0 : Int))) = true) (.ok (.inr (.inl (IntKind.wrap .i64 (left - (((nth (row A i) 0).str).length : Int))))))
    (.ok (.inl (A, (IntKind.wrap .i64 (left - (((nth (row A i) 0).str).length : Int))), (IntKind.wrap .i64 (i + (1 : Int)))))))
   .no)
  (.ok (.inr (.inr left))))
noncomputable def laws_szStringS_5_st : laws_szStringS_5_σ → Tr (laws_szStringS_5_σ ⊕ laws_szStringS_5_ω) := fun x => (laws_szStringS_5_step (x.1) (x.2.1) (x.2.2))
noncomputable def laws_szStringS_k5_1 (A : List (List TC)) (left : Int) (i : Int) : Bool := isL (loopN laws_szStringS_5_st (A.length + 1) (A, left, i))
noncomputable def laws_szStringS_o5_2 (A : List (List TC)) (left : Int) (i : Int) : Bool := is (i = 0 ∧ Typed tab (.slice 9) (.l A))
noncomputable def laws_szStringS_u5_2 (A : List (List TC)) (left : Int) (i : Int) : Int := getL (loopN laws_szStringS_5_st (A.length + 1) (A, left, i))
noncomputable def laws_szStringS_o5_3 (A : List (List TC)) (left : Int) (i : Int) : Bool := is (i = 0 ∧ Typed tab (.slice 9) (.l A))
noncomputable def laws_szStringS_u5_3 (A : List (List TC)) (left : Int) (i : Int) : Int := getR (loopN laws_szStringS_5_st (A.length + 1) (A, left, i))
noncomputable def laws_szStringS_5_fin (A : List (List TC)) (left : Int) (i : Int) : Told laws_szStringS_5_ω := (.br (laws_szStringS_k5_1 A left i) (.leaf (laws_szStringS_o5_2 A left i) (.inl (laws_szStringS_u5_2 A left i))) (.leaf (laws_szStringS_o5_3 A left i) (.inr (laws_szStringS_u5_3 A left i))))
def laws_szStringS_5_sl (x : laws_szStringS_5_σ) : List Slot := [⟨.val false [⟨.slice 9, .sh, TC.l (x.1)⟩], ⟨0, 0⟩⟩, ⟨.val false [⟨.int .i64, .sh, TC.i (x.2.1)⟩], ⟨0, 0⟩⟩, ⟨.val false [⟨.int .i64, .sh, TC.i (x.2.2)⟩], ⟨0, 0⟩⟩]
def laws_szStringS_5_out : laws_szStringS_5_ω → Ex × List Slot := (Sum.elim (fun x => (.ret, [⟨.val false [⟨.int .i64, .sh, TC.i x⟩], ⟨0, 0⟩⟩, ⟨.val false [⟨.int .i64, .sh, TC.i (-1 : Int)⟩], ⟨0, 0⟩⟩])) (fun x => (.exit 0, [⟨.val false [⟨.int .i64, .sh, TC.i x⟩], ⟨0, 0⟩⟩, Slot.none])))
noncomputable def laws_szStringS_lo5 : List Slot → Option (Told (Ex × List Slot)) := fun s => match s with
  | [⟨.val false [⟨.slice 9, .sh, TC.l A⟩], ⟨0, 0⟩⟩, ⟨.val false [⟨.int .i64, .sh, TC.i left⟩], ⟨0, 0⟩⟩, ⟨.val false [⟨.int .i64, .sh, TC.i i⟩], ⟨0, 0⟩⟩] => some (((laws_szStringS_5_fin A left i)).map laws_szStringS_5_out)
  | _ => .none
noncomputable def laws_szStringS_lo : LoopTeller := fun r s => bif Nat.beq r 5 then laws_szStringS_lo5 s else .none
theorem laws_szStringS_5_r (A : List (List TC)) (left : Int) (i : Int) (fuel : Nat) : rounds (rnd tab FT D0 live 66 laws_szStringS_lo 0 5) leave (fuel + 1) (laws_szStringS_5_sl (A, left, i)) = ((laws_szStringS_5_step A left i)).run (goOn (fun s => rounds (rnd tab FT D0 live 66 laws_szStringS_lo 0 5) leave fuel (laws_szStringS_5_sl s)) fun w => some (laws_szStringS_5_out w)) := by kernel_rfl
theorem laws_szStringS_5_h (A : List (List TC)) (left : Int) (i : Int) (ow : laws_szStringS_5_ω) : ((laws_szStringS_5_fin A left i)).val = some ow → ∃ fuel, loopN laws_szStringS_5_st fuel (A, left, i) = some ow := by
  refine auto_two (N := A.length + 1) rfl rfl rfl ?_
  intro ho
  have ho : is (i = 0 ∧ Typed tab (.slice 9) (.l A)) = true := ho.elim id id
  obtain ⟨rfl, ht⟩ := is_iff.1 ho
  have hlen : A.length ≤ 140737488351232 := by have := typed_room ht; simp only [show (tab 9).bytes = 16 from rfl] at this; omega
  refine loopN_ends (step := laws_szStringS_5_st) (N := A.length) (fun i a => (A, a, (i : Int))) (fun i a hi => ?_) (fun a => ?_) A.length 0 left (by omega)
  · show (∃ a', (laws_szStringS_5_step A a (i : Int)).val = _) ∨ ∃ w, (laws_szStringS_5_step A a (i : Int)).val = _
    have c0 : Typed tab (.str) (.s (nth (A.getD i []) 0).str) := typed_s (typed_cell ht (A.getD i []) (mem_getD hi) 0 (by decide))
    cases hneg : ((decide ((IntKind.wrap .i64 (a - (((nth (row A i) 0).str).length : Int))) < (0 : Int))))
    · apply Or.inl
      apply Exists.intro
      · unfold laws_szStringS_5_step
        refine Tr.t (by simp; omega) ?_
        refine Tr.t (by first | omega | (constructor <;> omega)) ?_
        refine Tr.n (by rw [hneg]; simp) ?_
        rw [Tr.val_ok, wrap64 (i := (i : Int) + 1) (by omega) (by omega)]; rfl
    · apply Or.inr
      apply Exists.intro
      · unfold laws_szStringS_5_step
        refine Tr.t (by simp; omega) ?_
        refine Tr.t (by first | omega | (constructor <;> omega)) ?_
        refine Tr.t hneg ?_
        rfl
  · apply Exists.intro
    · show (laws_szStringS_5_step A a (A.length : Int)).val = _
      refine Tr.n (by simp) ?_
      rfl
theorem laws_szStringS_is5 : LoopIs tab FT D0 live 66 laws_szStringS_lo 0 5 := by
  refine loop_told (sl := laws_szStringS_5_sl) (step := laws_szStringS_5_st) (out := laws_szStringS_5_out) (lor := laws_szStringS_lo5) (fin := fun x => (laws_szStringS_5_fin (x.1) (x.2.1) (x.2.2))) (fun _ => rfl) ?_ (fun x n => laws_szStringS_5_r x.1 x.2.1 x.2.2 n) (fun x ow => laws_szStringS_5_h x.1 x.2.1 x.2.2 ow)
  intro s t h
  unfold laws_szStringS_lo5 at h
  split at h
  · cases h; exact ⟨(_, _, _), rfl, rfl⟩
  · cases h
noncomputable def laws_szStringS_t (A : List (List TC)) (left : Int) : Tr (Int) := (.ite ((decide ((IntKind.wrap .i64 (left - (A.length : Int))) < (0 : Int))) = true) (.ok (-1 : Int))
  (.ite ((laws_szStringS_k5_1 A (IntKind.wrap .i64 (left - (A.length : Int))) (0 : Int)) = true) (.ite ((laws_szStringS_o5_2 A (IntKind.wrap .i64 (left - (A.length : Int))) (0 : Int)) = true) (.ok (-1 : Int))
    .no)
   (.ite ((laws_szStringS_o5_3 A (IntKind.wrap .i64 (left - (A.length : Int))) (0 : Int)) = true) (.ok (laws_szStringS_u5_3 A (IntKind.wrap .i64 (left - (A.length : Int))) (0 : Int)))
    .no)))
def laws_szStringS_mk (p : Int) : Res := [(false, [⟨.int .i64, .sh, TC.i p⟩])]
noncomputable def laws_szStringS_c (A : List (List TC)) (left : Int) : Bool := is (((laws_szStringS_o5_2 A (IntKind.wrap .i64 (left - (A.length : Int))) (0 : Int)) = true) ∧ ((laws_szStringS_o5_3 A (IntKind.wrap .i64 (left - (A.length : Int))) (0 : Int)) = true))
noncomputable def laws_szStringS_v (A : List (List TC)) (left : Int) : Int := (bif (decide ((IntKind.wrap .i64 (left - (A.length : Int))) < (0 : Int))) then (-1 : Int) else (bif (laws_szStringS_k5_1 A (IntKind.wrap .i64 (left - (A.length : Int))) (0 : Int)) then (-1 : Int) else (laws_szStringS_u5_3 A (IntKind.wrap .i64 (left - (A.length : Int))) (0 : Int))))
theorem laws_szStringS_l (A : List (List TC)) (left : Int) : (laws_szStringS_c A left) = true → (laws_szStringS_t A left).val = some (laws_szStringS_v A left) := by
  intro h
  obtain ⟨g0, g1⟩ := is_iff.1 h
  unfold laws_szStringS_t laws_szStringS_v
  exact (Tr.s rfl (Tr.s (Tr.t g0 rfl) (Tr.t g1 rfl)))
noncomputable def laws_szStringS_S : List Arg → Option (Bool × Res) := fun xs => match xs with
  | [(false, [(.slice 9, TC.l A)]), (false, [(.int .i64, TC.i left)])] => some ((laws_szStringS_c A left), laws_szStringS_mk (laws_szStringS_v A left))
  | _ => .none
theorem laws_szStringS_e (A : List (List TC)) (left : Int) : runF tab FT D0 live 66 laws_szStringS_lo [(false, [(.slice 9, TC.l A)]), (false, [(.int .i64, TC.i left)])] = (laws_szStringS_t A left).run fun p => some (laws_szStringS_mk p) := by kernel_rfl
theorem laws_szStringS_s : ∀ xs r, laws_szStringS_S xs = some (true, r) → runF tab FT D0 live 66 laws_szStringS_lo xs = some r := by
  intro xs r h
  unfold laws_szStringS_S at h
  split at h
  · simp only [Option.some.injEq, Prod.mk.injEq] at h
    obtain ⟨h1, rfl⟩ := h
    exact fun_told (laws_szStringS_e _ _) (laws_szStringS_l _ _) h1
  · cases h
noncomputable def D1 : Dt := also D0 66 laws_szStringS_S
theorem d1 : DOk Go.Proofs.Try.prog tab D1 := d0.also mixed_ok tab_ok names_ok (fnLoops_one (by kernel_rfl) laws_szStringS_is5) laws_szStringS_s
/-! laws_szNameHeap -/
noncomputable def laws_szNameHeap_t (a0 : List (List TC)) (a1 : Int) : Tr (Int) := (.ite ((laws_szStringS_c a0 a1) = true) (.ite ((decide ((laws_szStringS_v a0 a1) < (0 : Int))) = true) (.ok (-1 : Int))
   (.ok (laws_szStringS_v a0 a1)))
  .no)
def laws_szNameHeap_mk (p : Int) : Res := [(false, [⟨.int .i64, .sh, TC.i p⟩])]
noncomputable def laws_szNameHeap_c (a0 : List (List TC)) (a1 : Int) : Bool := (laws_szStringS_c a0 a1)
noncomputable def laws_szNameHeap_v (a0 : List (List TC)) (a1 : Int) : Int := (bif (decide ((laws_szStringS_v a0 a1) < (0 : Int))) then (-1 : Int) else (laws_szStringS_v a0 a1))
theorem laws_szNameHeap_l (a0 : List (List TC)) (a1 : Int) : (laws_szNameHeap_c a0 a1) = true → (laws_szNameHeap_t a0 a1).val = some (laws_szNameHeap_v a0 a1) := by
  intro h
  have g0 : (laws_szStringS_c a0 a1) = true := h
  unfold laws_szNameHeap_t laws_szNameHeap_v
  exact (Tr.t g0 (Tr.s rfl rfl))
noncomputable def laws_szNameHeap_S : List Arg → Option (Bool × Res) := fun xs => match xs with
  | [(true, [(.slice 9, TC.l a0)]), (false, [(.int .i64, TC.i a1)])] => some ((laws_szNameHeap_c a0 a1), laws_szNameHeap_mk (laws_szNameHeap_v a0 a1))
  | _ => .none
theorem laws_szNameHeap_e (a0 : List (List TC)) (a1 : Int) : runF tab FT D1 live 29 noLoops [(true, [(.slice 9, TC.l a0)]), (false, [(.int .i64, TC.i a1)])] = (laws_szNameHeap_t a0 a1).run fun p => some (laws_szNameHeap_mk p) := by kernel_rfl
theorem laws_szNameHeap_s : ∀ xs r, laws_szNameHeap_S xs = some (true, r) → runF tab FT D1 live 29 noLoops xs = some r := by
  intro xs r h
  unfold laws_szNameHeap_S at h
  split at h
  · simp only [Option.some.injEq, Prod.mk.injEq] at h
    obtain ⟨h1, rfl⟩ := h
    exact fun_told (laws_szNameHeap_e _ _) (laws_szNameHeap_l _ _) h1
  · cases h
noncomputable def D2 : Dt := also D1 29 laws_szNameHeap_S
theorem d2 : DOk Go.Proofs.Try.prog tab D2 := d1.also mixed_ok tab_ok names_ok noLoops_ok laws_szNameHeap_s
/-! laws_toStringS -/
def laws_toStringS_g (x : List TC) : List TC := [TC.s ((nth x 0).str)]
def laws_toStringS_z : List TC := [TC.s []]
abbrev laws_toStringS_3_σ := List (List TC) × List (List TC) × Int
abbrev laws_toStringS_3_ω := (List (List TC))
noncomputable def laws_toStringS_3_step (A : List (List TC)) (X : List (List TC)) (i : Int) : Tr (laws_toStringS_3_σ ⊕ laws_toStringS_3_ω) := (.ite ((decide (i < (A.length : Int))) = true) (.ite ((0 : Int) ≤ i ∧ i < (A.length : Int)) (.ite ((0 : Int) ≤ i ∧ i < (X.length : Int)) (.ok (.inl (A, (X.set (i).toNat (splice (row X i) 0 [TC.s ((nth (row A i) 0).str)])), (IntKind.wrap .i64 (i + (1 : Int))))))
    .no)
   .no)
  (.ok (.inr X)))
noncomputable def laws_toStringS_3_st : laws_toStringS_3_σ → Tr (laws_toStringS_3_σ ⊕ laws_toStringS_3_ω) := fun x => (laws_toStringS_3_step (x.1) (x.2.1) (x.2.2))
noncomputable def laws_toStringS_o3_1 (A : List (List TC)) (X : List (List TC)) (i : Int) : Bool := is (Typed tab (.slice 9) (.l A) ∧ X = List.replicate A.length laws_toStringS_z ∧ i = 0)
noncomputable def laws_toStringS_u3_1 (A : List (List TC)) (X : List (List TC)) (i : Int) : List (List TC) := A.map laws_toStringS_g
noncomputable def laws_toStringS_3_fin (A : List (List TC)) (X : List (List TC)) (i : Int) : Told laws_toStringS_3_ω := (.leaf (laws_toStringS_o3_1 A X i) (laws_toStringS_u3_1 A X i))
def laws_toStringS_3_sl (x : laws_toStringS_3_σ) : List Slot := [⟨.val false [⟨.slice 9, .sh, TC.l (x.1)⟩], ⟨0, 0⟩⟩, ⟨.val false [⟨.slice 9, .own true, TC.l (x.2.1)⟩], ⟨0, 0⟩⟩, ⟨.val false [⟨.int .i64, .sh, TC.i (x.2.2)⟩], ⟨0, 0⟩⟩]
def laws_toStringS_3_out : laws_toStringS_3_ω → Ex × List Slot := (fun x => (.exit 0, [Slot.none, ⟨.val false [⟨.slice 9, .own true, TC.l x⟩], ⟨0, 0⟩⟩]))
noncomputable def laws_toStringS_lo3 : List Slot → Option (Told (Ex × List Slot)) := fun s => match s with
  | [⟨.val false [⟨.slice 9, .sh, TC.l A⟩], ⟨0, 0⟩⟩, ⟨.val false [⟨.slice 9, .own true, TC.l X⟩], ⟨0, 0⟩⟩, ⟨.val false [⟨.int .i64, .sh, TC.i i⟩], ⟨0, 0⟩⟩] => some (((laws_toStringS_3_fin A X i)).map laws_toStringS_3_out)
  | _ => .none
noncomputable def laws_toStringS_lo : LoopTeller := fun r s => bif Nat.beq r 3 then laws_toStringS_lo3 s else .none
theorem laws_toStringS_3_r (A : List (List TC)) (X : List (List TC)) (i : Int) (fuel : Nat) : rounds (rnd tab FT D2 live 68 laws_toStringS_lo 0 3) leave (fuel + 1) (laws_toStringS_3_sl (A, X, i)) = ((laws_toStringS_3_step A X i)).run (goOn (fun s => rounds (rnd tab FT D2 live 68 laws_toStringS_lo 0 3) leave fuel (laws_toStringS_3_sl s)) fun w => some (laws_toStringS_3_out w)) := by kernel_rfl
theorem laws_toStringS_3_h (A : List (List TC)) (X : List (List TC)) (i : Int) (ow : laws_toStringS_3_ω) : ((laws_toStringS_3_fin A X i)).val = some ow → ∃ fuel, loopN laws_toStringS_3_st fuel (A, X, i) = some ow := by
  intro h
  simp only [laws_toStringS_3_fin, Told.val] at h
  split at h
  · rename_i ho
    obtain ⟨ht, rfl, rfl⟩ := is_iff.1 ho
    cases h
    have hlen : A.length ≤ 140737488351232 := by have := typed_room ht; simp only [show (tab 9).bytes = 16 from rfl] at this; omega
    have key := loopN_copy (step := laws_toStringS_3_st) A (List.replicate A.length laws_toStringS_z) laws_toStringS_g (fun Y i => (A, Y, (i : Int))) (A.map laws_toStringS_g) (by simp) (fun x hx i _ => by rw [(List.mem_replicate.1 hx).2]; exact Nat.le_refl 1) (fun Y i hi hl => ?_) ?_ A.length 0 (by omega)
    · rw [copied_zero] at key
      exact ⟨_, key⟩
    · have c0 : Typed tab (.str) (.s (nth (A.getD i []) 0).str) := typed_s (typed_cell ht (A.getD i []) (mem_getD hi) 0 (by decide))
      show (laws_toStringS_3_step A Y (i : Int)).val = _
      unfold laws_toStringS_3_step
      refine Tr.t (by simp; omega) ?_
      refine Tr.t (by constructor <;> omega) ?_
      refine Tr.t (by constructor <;> omega) ?_
      repeat (refine Tr.t (by first | (apply is_true; and_intros <;> (first | rfl | assumption | (first | (apply is_true; and_intros <;> (first | rfl | assumption | (first | (apply is_true; and_intros <;> (first | rfl | assumption | (first | (apply is_true; and_intros <;> (first | rfl | assumption)))))))))))) ?_)
      rw [Tr.val_ok, wrap64 (i := (i : Int) + 1) (by omega) (by omega)]; rfl
    · show (laws_toStringS_3_step A (A.map laws_toStringS_g) (A.length : Int)).val = _
      refine Tr.n (by simp) ?_
      rfl
  · cases h
theorem laws_toStringS_is3 : LoopIs tab FT D2 live 68 laws_toStringS_lo 0 3 := by
  refine loop_told (sl := laws_toStringS_3_sl) (step := laws_toStringS_3_st) (out := laws_toStringS_3_out) (lor := laws_toStringS_lo3) (fin := fun x => (laws_toStringS_3_fin (x.1) (x.2.1) (x.2.2))) (fun _ => rfl) ?_ (fun x n => laws_toStringS_3_r x.1 x.2.1 x.2.2 n) (fun x ow => laws_toStringS_3_h x.1 x.2.1 x.2.2 ow)
  intro s t h
  unfold laws_toStringS_lo3 at h
  split at h
  · cases h; exact ⟨(_, _, _), rfl, rfl⟩
  · cases h
noncomputable def laws_toStringS_t (A : List (List TC)) : Tr (List (List TC)) := (.ite (0 ≤ (A.length : Int) ∧ (A.length : Int) ≤ (A.length : Int) ∧ (A.length : Int) * 16 ≤ 140737488355328 ∧ (A.length : Int) ≤ 140737488355328) (.ite ((laws_toStringS_o3_1 A (List.replicate ((A.length : Int)).toNat [TC.s []]) (0 : Int)) = true) (.ok (laws_toStringS_u3_1 A (List.replicate ((A.length : Int)).toNat [TC.s []]) (0 : Int)))
   .no)
  .no)
def laws_toStringS_mk (p : List (List TC)) : Res := [(false, [⟨.slice 9, .own true, TC.l p⟩])]
noncomputable def laws_toStringS_c (A : List (List TC)) : Bool := is (Typed tab (.slice 9) (.l A))
noncomputable def laws_toStringS_v (A : List (List TC)) : List (List TC) := A.map laws_toStringS_g
theorem laws_toStringS_l (A : List (List TC)) : (laws_toStringS_c A) = true → (laws_toStringS_t A).val = some (laws_toStringS_v A) := by
  intro h
  have ht := is_iff.1 h
  have hb := typed_room ht
  simp only [show (tab 9).bytes = 16 from rfl] at hb
  unfold laws_toStringS_t
  refine Tr.t (by omega) ?_
  refine Tr.t (is_true ⟨ht, by rfl, rfl⟩) ?_
  rfl
noncomputable def laws_toStringS_S : List Arg → Option (Bool × Res) := fun xs => match xs with
  | [(false, [(.slice 9, TC.l A)])] => some ((laws_toStringS_c A), laws_toStringS_mk (laws_toStringS_v A))
  | _ => .none
theorem laws_toStringS_e (A : List (List TC)) : runF tab FT D2 live 68 laws_toStringS_lo [(false, [(.slice 9, TC.l A)])] = (laws_toStringS_t A).run fun p => some (laws_toStringS_mk p) := by kernel_rfl
theorem laws_toStringS_s : ∀ xs r, laws_toStringS_S xs = some (true, r) → runF tab FT D2 live 68 laws_toStringS_lo xs = some r := by
  intro xs r h
  unfold laws_toStringS_S at h
  split at h
  · simp only [Option.some.injEq, Prod.mk.injEq] at h
    obtain ⟨h1, rfl⟩ := h
    exact fun_told (laws_toStringS_e _) (laws_toStringS_l _) h1
  · cases h
noncomputable def D3 : Dt := also D2 68 laws_toStringS_S
theorem d3 : DOk Go.Proofs.Try.prog tab D3 := d2.also mixed_ok tab_ok names_ok (fnLoops_one (by kernel_rfl) laws_toStringS_is3) laws_toStringS_s
theorem laws_toStringS_ty {A : List (List TC)} (h : Typed tab (.slice 9) (.l A)) : Typed tab (.slice 9) (.l (A.map laws_toStringS_g)) := by
  refine typed_map h (by decide) fun x _ _ hx => ⟨rfl, fun k hk => ?_⟩
  match k, hk with
    | 0, _ => exact typed_s (hx 0 (by decide))
/-! laws_toNameHeap -/
noncomputable def laws_toNameHeap_t (x0 : List (List TC)) : Tr (List (List TC)) := (.ite ((laws_toStringS_c x0) = true) (.ok (laws_toStringS_v x0))
  .no)
def laws_toNameHeap_mk (p : List (List TC)) : Res := [(true, [⟨.slice 9, .own true, TC.l p⟩])]
noncomputable def laws_toNameHeap_c (x0 : List (List TC)) : Bool := is (Typed tab (.slice 9) (.l x0))
noncomputable def laws_toNameHeap_v (x0 : List (List TC)) : List (List TC) := (laws_toStringS_v x0)
theorem laws_toNameHeap_l (x0 : List (List TC)) : (laws_toNameHeap_c x0) = true → (laws_toNameHeap_t x0).val = some (laws_toNameHeap_v x0) := by
  intro h
  have t0 := is_iff.1 h
  unfold laws_toNameHeap_t
  repeat (refine Tr.t (by first | (apply is_true; and_intros <;> (first | rfl | assumption | (first | (apply is_true; and_intros <;> (first | rfl | assumption | (first | (apply is_true; and_intros <;> (first | rfl | assumption | (first | (apply is_true; and_intros <;> (first | rfl | assumption)))))))))))) ?_)
  rfl
noncomputable def laws_toNameHeap_S : List Arg → Option (Bool × Res) := fun xs => match xs with
  | [(true, [(.slice 9, TC.l x0)])] => some ((laws_toNameHeap_c x0), laws_toNameHeap_mk (laws_toNameHeap_v x0))
  | _ => .none
theorem laws_toNameHeap_e (x0 : List (List TC)) : runF tab FT D3 live 31 noLoops [(true, [(.slice 9, TC.l x0)])] = (laws_toNameHeap_t x0).run fun p => some (laws_toNameHeap_mk p) := by kernel_rfl
theorem laws_toNameHeap_s : ∀ xs r, laws_toNameHeap_S xs = some (true, r) → runF tab FT D3 live 31 noLoops xs = some r := by
  intro xs r h
  unfold laws_toNameHeap_S at h
  split at h
  · simp only [Option.some.injEq, Prod.mk.injEq] at h
    obtain ⟨h1, rfl⟩ := h
    exact fun_told (laws_toNameHeap_e _) (laws_toNameHeap_l _) h1
  · cases h
noncomputable def D4 : Dt := also D3 31 laws_toNameHeap_S
theorem d4 : DOk Go.Proofs.Try.prog tab D4 := d3.also mixed_ok tab_ok names_ok noLoops_ok laws_toNameHeap_s
/-! spec_l01Letter -/
noncomputable def spec_l01Letter_t (a0 : Int) : Tr (Bool) := (.ite ((decide (a0 ≥ (65 : Int))) = true) (.ite ((decide (a0 ≤ (90 : Int))) = true) (.ok true)
   (.ite ((decide (a0 ≥ (97 : Int))) = true) (.ok (decide (a0 ≤ (122 : Int))))
    (.ok false)))
  (.ite ((decide (a0 ≥ (97 : Int))) = true) (.ok (decide (a0 ≤ (122 : Int))))
   (.ok false)))
def spec_l01Letter_mk (p : Bool) : Res := [(false, [⟨.bool, .sh, TC.b p⟩])]
noncomputable def spec_l01Letter_c (a0 : Int) : Bool := true
noncomputable def spec_l01Letter_v (a0 : Int) : Bool := (bif (decide (a0 ≥ (65 : Int))) then (bif (decide (a0 ≤ (90 : Int))) then true else (bif (decide (a0 ≥ (97 : Int))) then (decide (a0 ≤ (122 : Int))) else false)) else (bif (decide (a0 ≥ (97 : Int))) then (decide (a0 ≤ (122 : Int))) else false))
theorem spec_l01Letter_l (a0 : Int) : (spec_l01Letter_c a0) = true → (spec_l01Letter_t a0).val = some (spec_l01Letter_v a0) := by
  intro h
  skip
  unfold spec_l01Letter_t spec_l01Letter_v
  exact (Tr.s (Tr.s rfl (Tr.s rfl rfl)) (Tr.s rfl rfl))
noncomputable def spec_l01Letter_S : List Arg → Option (Bool × Res) := fun xs => match xs with
  | [(false, [(.int .u8, TC.i a0)])] => some (true, spec_l01Letter_mk (spec_l01Letter_v a0))
  | _ => .none
theorem spec_l01Letter_e (a0 : Int) : runF tab FT D4 live 138 noLoops [(false, [(.int .u8, TC.i a0)])] = (spec_l01Letter_t a0).run fun p => some (spec_l01Letter_mk p) := by kernel_rfl
theorem spec_l01Letter_s : ∀ xs r, spec_l01Letter_S xs = some (true, r) → runF tab FT D4 live 138 noLoops xs = some r := by
  intro xs r h
  unfold spec_l01Letter_S at h
  split at h
  · simp only [Option.some.injEq, Prod.mk.injEq] at h
    obtain ⟨h1, rfl⟩ := h
    exact fun_told (spec_l01Letter_e _) (spec_l01Letter_l _) rfl
  · cases h
noncomputable def D5 : Dt := also D4 138 spec_l01Letter_S
theorem d5 : DOk Go.Proofs.Try.prog tab D5 := d4.also mixed_ok tab_ok names_ok noLoops_ok spec_l01Letter_s
def letterB (c : Int) : Bool := (decide (c ≥ 65) && decide (c ≤ 90)) || (decide (c ≥ 97) && decide (c ≤ 122))
def nameB (i : Int) (c : Int) : Bool := letterB c || (!(i == 0) && ((decide (c ≥ 48) && decide (c ≤ 57)) || c == 95))
def nameOk (s : List UInt8) : Bool := decide ((s.length : Int) ≥ 1) && decide ((s.length : Int) ≤ 12) && allI (fun i : Nat => nameB (i : Int) ((s.getD ((i : Int)).toNat 0).toNat : Int)) s.length
theorem dlt {a b : Int} : decide (a < b) = !decide (a ≥ b) := by rw [← decide_not]; simp
theorem dgt {a b : Int} : decide (a > b) = !decide (a ≤ b) := by rw [← decide_not]; simp
/-! spec_IsName -/
noncomputable def spec_IsName_f4 (s : List UInt8) (i : Int) : (Unit) ⊕ ((Unit) ⊕ (Unit)) := (bif (!(spec_l01Letter_v ((s.getD (i).toNat 0).toNat : Int))) then (bif (decide (((s.getD (i).toNat 0).toNat : Int) ≥ (48 : Int))) then (bif (!(decide (((s.getD (i).toNat 0).toNat : Int) ≤ (57 : Int)))) then (bif (!(((s.getD (i).toNat 0).toNat : Int) == (95 : Int))) then (.inr (.inl ())) else (.inl ())) else (.inl ())) else (bif (!(((s.getD (i).toNat 0).toNat : Int) == (95 : Int))) then (.inr (.inl ())) else (.inl ()))) else (.inl ()))
noncomputable def spec_IsName_e4 (s : List UInt8) : (Unit) ⊕ (Unit) := .inr ()
noncomputable def spec_IsName_R4 (s : List UInt8) (i : Int) : (Unit) ⊕ (Unit) := iter (fun i a => (spec_IsName_f4 s ((i + 1 : Nat) : Int))) (fun a => (spec_IsName_e4 s)) (s.length - 1) 0 ()
abbrev spec_IsName_4_σ := List UInt8 × Int
abbrev spec_IsName_4_ω := (Unit) ⊕ (Unit)
noncomputable def spec_IsName_4_step (s : List UInt8) (i : Int) : Tr (spec_IsName_4_σ ⊕ spec_IsName_4_ω) := (.ite ((decide (i < (s.length : Int))) = true) (.ite ((0 : Int) ≤ i ∧ i < (s.length : Int)) (.ite ((!(spec_l01Letter_v ((s.getD (i).toNat 0).toNat : Int))) = true) (.ite ((0 : Int) ≤ i ∧ i < (s.length : Int)) (.ite ((decide (((s.getD (i).toNat 0).toNat : Int) ≥ (48 : Int))) = true) (.ite ((0 : Int) ≤ i ∧ i < (s.length : Int)) (.ite ((!(decide (((s.getD (i).toNat 0).toNat : Int) ≤ (57 : Int)))) = true) (.ite ((0 : Int) ≤ i ∧ i < (s.length : Int)) (.ite ((!(((s.getD (i).toNat 0).toNat : Int) == (95 : Int))) = true) (.ok (.inr (.inl ())))
          (.ok (.inl (s, (IntKind.wrap .i64 (i + (1 : Int)))))))
         .no)
        (.ok (.inl (s, (IntKind.wrap .i64 (i + (1 : Int)))))))
       .no)
      (.ite ((0 : Int) ≤ i ∧ i < (s.length : Int)) (.ite ((!(((s.getD (i).toNat 0).toNat : Int) == (95 : Int))) = true) (.ok (.inr (.inl ())))
        (.ok (.inl (s, (IntKind.wrap .i64 (i + (1 : Int)))))))
       .no))
     .no)
    (.ok (.inl (s, (IntKind.wrap .i64 (i + (1 : Int)))))))
   .no)
  (.ok (.inr (.inr ()))))
noncomputable def spec_IsName_4_st : spec_IsName_4_σ → Tr (spec_IsName_4_σ ⊕ spec_IsName_4_ω) := fun x => (spec_IsName_4_step (x.1) (x.2))
noncomputable def spec_IsName_k4_1 (s : List UInt8) (i : Int) : Bool := sumIs (spec_IsName_R4 s i)
noncomputable def spec_IsName_o4_2 (s : List UInt8) (i : Int) : Bool := is (i = 1 ∧ s.length ≤ 140737488355328)
noncomputable def spec_IsName_o4_3 (s : List UInt8) (i : Int) : Bool := is (i = 1 ∧ s.length ≤ 140737488355328)
noncomputable def spec_IsName_4_fin (s : List UInt8) (i : Int) : Told spec_IsName_4_ω := (.br (spec_IsName_k4_1 s i) (.leaf (spec_IsName_o4_2 s i) (.inl ())) (.leaf (spec_IsName_o4_3 s i) (.inr ())))
def spec_IsName_4_sl (x : spec_IsName_4_σ) : List Slot := [⟨.val false [⟨.str, .sh, TC.s (x.1)⟩], ⟨0, 0⟩⟩, ⟨.val false [⟨.int .i64, .sh, TC.i (x.2)⟩], ⟨0, 0⟩⟩]
def spec_IsName_4_out : spec_IsName_4_ω → Ex × List Slot := (Sum.elim (fun x => (.ret, [⟨.val false [⟨.bool, .sh, TC.b false⟩], ⟨0, 0⟩⟩])) (fun x => (.exit 0, [Slot.none])))
noncomputable def spec_IsName_lo4 : List Slot → Option (Told (Ex × List Slot)) := fun s => match s with
  | [⟨.val false [⟨.str, .sh, TC.s s⟩], ⟨0, 0⟩⟩, ⟨.val false [⟨.int .i64, .sh, TC.i i⟩], ⟨0, 0⟩⟩] => some (((spec_IsName_4_fin s i)).map spec_IsName_4_out)
  | _ => .none
noncomputable def spec_IsName_lo : LoopTeller := fun r s => bif Nat.beq r 4 then spec_IsName_lo4 s else .none
theorem spec_IsName_4_r (s : List UInt8) (i : Int) (fuel : Nat) : rounds (rnd tab FT D5 live 108 spec_IsName_lo 0 4) leave (fuel + 1) (spec_IsName_4_sl (s, i)) = ((spec_IsName_4_step s i)).run (goOn (fun s => rounds (rnd tab FT D5 live 108 spec_IsName_lo 0 4) leave fuel (spec_IsName_4_sl s)) fun w => some (spec_IsName_4_out w)) := by kernel_rfl
theorem spec_IsName_f4_eq (s : List UInt8) (i : Int) : spec_IsName_f4 s i = bif (letterB ((s.getD (i).toNat 0).toNat : Int) || ((decide (((s.getD (i).toNat 0).toNat : Int) ≥ 48) && decide (((s.getD (i).toNat 0).toNat : Int) ≤ 57)) || ((s.getD (i).toNat 0).toNat : Int) == 95)) then Sum.inl () else Sum.inr (Sum.inl ()) := by
  unfold spec_IsName_f4 letterB
  simp only [spec_l01Letter_v, dlt, dgt]
  generalize ((s.getD i.toNat 0).toNat : Int) = c
  generalize decide (c ≥ 65) = p0, decide (c ≤ 90) = p1, decide (c ≥ 97) = p2, decide (c ≤ 122) = p3, decide (c ≥ 48) = p4, decide (c ≤ 57) = p5, (c == 95) = p6
  cases p0 <;> cases p1 <;> cases p2 <;> cases p3 <;> cases p4 <;> cases p5 <;> cases p6 <;> rfl
theorem spec_IsName_R4_eq (s : List UInt8)  : spec_IsName_R4 s 1 = bif allI (fun i : Nat => (letterB ((s.getD (((i + 1 : Nat) : Int)).toNat 0).toNat : Int) || ((decide (((s.getD (((i + 1 : Nat) : Int)).toNat 0).toNat : Int) ≥ 48) && decide (((s.getD (((i + 1 : Nat) : Int)).toNat 0).toNat : Int) ≤ 57)) || ((s.getD (((i + 1 : Nat) : Int)).toNat 0).toNat : Int) == 95))) (s.length - 1) then Sum.inr () else (Sum.inl ()) := by
  unfold spec_IsName_R4
  exact (iter_all (P := (fun i : Nat => (letterB ((s.getD (((i + 1 : Nat) : Int)).toNat 0).toNat : Int) || ((decide (((s.getD (((i + 1 : Nat) : Int)).toNat 0).toNat : Int) ≥ 48) && decide (((s.getD (((i + 1 : Nat) : Int)).toNat 0).toNat : Int) ≤ 57)) || ((s.getD (((i + 1 : Nat) : Int)).toNat 0).toNat : Int) == 95)))) (g := fun _ a => a) (w := Sum.inl ()) fun j a _ => spec_IsName_f4_eq s _)
theorem spec_IsName_4_h (s : List UInt8) (i : Int) (ow : spec_IsName_4_ω) : ((spec_IsName_4_fin s i)).val = some ow → ∃ fuel, loopN spec_IsName_4_st fuel (s, i) = some ow := by
  refine auto_sum (R := (spec_IsName_R4 s i)) rfl rfl rfl ?_
  intro ho
  have ho : is (i = 1 ∧ s.length ≤ 140737488355328) = true := ho.elim id id
  obtain ⟨rfl, hs⟩ := is_iff.1 ho
  skip
  refine ⟨(s.length - 1) + 1, ?_⟩
  refine iter_loop (step := spec_IsName_4_st) (s.length - 1) (fun i a => (spec_IsName_f4 s ((i + 1 : Nat) : Int))) (fun a => (spec_IsName_e4 s)) (fun i a => (s, ((i + 1 : Nat) : Int))) (fun _ _ => True) trivial (fun i a hi hI => ⟨?_, fun _ _ => trivial⟩) (fun a hI => ?_)
  · show (spec_IsName_4_step s ((i + 1 : Nat) : Int)).val = _
    unfold spec_IsName_4_step spec_IsName_f4
    skip
    refine Tr.t (by simp; omega) ?_
    exact (Tr.t (by first | omega | (constructor <;> omega)) (Tr.bf (Tr.t (by first | omega | (constructor <;> omega)) (Tr.bf (Tr.t (by first | omega | (constructor <;> omega)) (Tr.bf (Tr.t (by first | omega | (constructor <;> omega)) (Tr.bf rfl (by rw [Tr.val_ok, wrap64 (i := ((i + 1 : Nat) : Int) + 1) (by omega) (by omega)]; rfl))) (by rw [Tr.val_ok, wrap64 (i := ((i + 1 : Nat) : Int) + 1) (by omega) (by omega)]; rfl))) (Tr.t (by first | omega | (constructor <;> omega)) (Tr.bf rfl (by rw [Tr.val_ok, wrap64 (i := ((i + 1 : Nat) : Int) + 1) (by omega) (by omega)]; rfl))))) (by rw [Tr.val_ok, wrap64 (i := ((i + 1 : Nat) : Int) + 1) (by omega) (by omega)]; rfl)))
  · show (spec_IsName_4_step s ((s.length - 1 + 1 : Nat) : Int)).val = _
    refine Tr.n (by first | (simp; done) | (simp; omega) | omega) ?_
    rfl
theorem spec_IsName_is4 : LoopIs tab FT D5 live 108 spec_IsName_lo 0 4 := by
  refine loop_told (sl := spec_IsName_4_sl) (step := spec_IsName_4_st) (out := spec_IsName_4_out) (lor := spec_IsName_lo4) (fin := fun x => (spec_IsName_4_fin (x.1) (x.2))) (fun _ => rfl) ?_ (fun x n => spec_IsName_4_r x.1 x.2 n) (fun x ow => spec_IsName_4_h x.1 x.2 ow)
  intro s t h
  unfold spec_IsName_lo4 at h
  split at h
  · cases h; exact ⟨(_, _), rfl, rfl⟩
  · cases h
noncomputable def spec_IsName_t (s : List UInt8) : Tr (Bool) := (.ite (((s.length : Int) == (0 : Int)) = true) (.ok false)
  (.ite ((decide ((s.length : Int) > (12 : Int))) = true) (.ok false)
   (.ite ((0 : Int) ≤ (0 : Int) ∧ (0 : Int) < (s.length : Int)) (.ite ((!(spec_l01Letter_v ((s.getD ((0 : Int)).toNat 0).toNat : Int))) = true) (.ok false)
     (.ite ((spec_IsName_k4_1 s (1 : Int)) = true) (.ite ((spec_IsName_o4_2 s (1 : Int)) = true) (.ok false)
       .no)
      (.ite ((spec_IsName_o4_3 s (1 : Int)) = true) (.ok true)
       .no)))
    .no)))
def spec_IsName_mk (p : Bool) : Res := [(false, [⟨.bool, .sh, TC.b p⟩])]
noncomputable def spec_IsName_c (s : List UInt8) : Bool := (bif ((s.length : Int) == (0 : Int)) then true else (bif (decide ((s.length : Int) > (12 : Int))) then true else (is ((0 : Int) ≤ (0 : Int) ∧ (0 : Int) < (s.length : Int)) && (bif (!(spec_l01Letter_v ((s.getD ((0 : Int)).toNat 0).toNat : Int))) then true else (bif (spec_IsName_k4_1 s (1 : Int)) then ((spec_IsName_o4_2 s (1 : Int)) && true) else ((spec_IsName_o4_3 s (1 : Int)) && true))))))
noncomputable def spec_IsName_v (s : List UInt8) : Bool := (bif ((s.length : Int) == (0 : Int)) then false else (bif (decide ((s.length : Int) > (12 : Int))) then false else (bif (!(spec_l01Letter_v ((s.getD ((0 : Int)).toNat 0).toNat : Int))) then false else (bif (spec_IsName_k4_1 s (1 : Int)) then false else true))))
theorem spec_IsName_l (s : List UInt8) : (spec_IsName_c s) = true → (spec_IsName_t s).val = some (spec_IsName_v s) := by
  unfold spec_IsName_t spec_IsName_v spec_IsName_c
  exact fun h => (Tr.ss h (fun h => rfl) (fun h => (Tr.ss h (fun h => rfl) (fun h => (Tr.gs h fun h => (Tr.ss h (fun h => rfl) (fun h => (Tr.ss h (fun h => (Tr.gb h fun h => rfl)) (fun h => (Tr.gb h fun h => rfl))))))))))
noncomputable def spec_IsName_S : List Arg → Option (Bool × Res) := fun xs => match xs with
  | [(false, [(.str, TC.s s)])] => some ((spec_IsName_c s), spec_IsName_mk (spec_IsName_v s))
  | _ => .none
theorem spec_IsName_e (s : List UInt8) : runF tab FT D5 live 108 spec_IsName_lo [(false, [(.str, TC.s s)])] = (spec_IsName_t s).run fun p => some (spec_IsName_mk p) := by kernel_rfl
theorem spec_IsName_s : ∀ xs r, spec_IsName_S xs = some (true, r) → runF tab FT D5 live 108 spec_IsName_lo xs = some r := by
  intro xs r h
  unfold spec_IsName_S at h
  split at h
  · simp only [Option.some.injEq, Prod.mk.injEq] at h
    obtain ⟨h1, rfl⟩ := h
    exact fun_told (spec_IsName_e _) (spec_IsName_l _) h1
  · cases h
noncomputable def D6 : Dt := also D5 108 spec_IsName_S
theorem d6 : DOk Go.Proofs.Try.prog tab D6 := d5.also mixed_ok tab_ok names_ok (fnLoops_one (by kernel_rfl) spec_IsName_is4) spec_IsName_s
theorem spec_IsName_cc {s : List UInt8} (hs : Typed tab (.str) (.s s)) : (spec_IsName_c s) = true := by
  unfold spec_IsName_c
  refine bifT (fun b1 => ?_) (fun b1 => ?_)
  · skip
    rfl
  · skip
    refine bifT (fun b2 => ?_) (fun b2 => ?_)
    · skip
      rfl
    · skip
      refine andT (is_true (by exact ⟨by omega, by have h2 := ne_of_beq_false b1; omega⟩)) ?_
      refine bifT (fun b3 => ?_) (fun b3 => ?_)
      · skip
        rfl
      · skip
        refine bifT (fun b4 => ?_) (fun b4 => ?_)
        · skip
          refine andT (by exact is_true ⟨rfl, by have := typed_str_len hs; omega⟩) ?_
          rfl
        · skip
          refine andT (by exact is_true ⟨rfl, by have := typed_str_len hs; omega⟩) ?_
          rfl
theorem spec_IsName_vv (s : List UInt8) : spec_IsName_v s = nameOk s := by
  unfold spec_IsName_v spec_IsName_k4_1
  rw [spec_IsName_R4_eq]
  have e3 : spec_l01Letter_v ((s.getD ((0 : Int)).toNat 0).toNat : Int) = nameB ((0 : Nat) : Int) ((s.getD (((0 : Nat) : Int)).toNat 0).toNat : Int) := by
    unfold spec_l01Letter_v nameB letterB
    generalize ((s.getD ((0 : Int)).toNat 0).toNat : Int) = c
    generalize decide (c ≥ 65) = p1, decide (c ≤ 90) = p2, decide (c ≥ 97) = p3, decide (c ≤ 122) = p4
    cases p1 <;> cases p2 <;> cases p3 <;> cases p4 <;> rfl
  rw [e3]
  cases h0 : s.length with
  | zero =>
    have : s = [] := List.eq_nil_of_length_eq_zero h0
    subst this
    rfl
  | succ n =>
    have e2 : allI (fun i : Nat => nameB ((i + 1 : Nat) : Int) ((s.getD (((i + 1 : Nat) : Int)).toNat 0).toNat : Int)) n = allI (fun i : Nat => (letterB ((s.getD (((i + 1 : Nat) : Int)).toNat 0).toNat : Int) || ((decide (((s.getD (((i + 1 : Nat) : Int)).toNat 0).toNat : Int) ≥ 48) && decide (((s.getD (((i + 1 : Nat) : Int)).toNat 0).toNat : Int) ≤ 57)) || ((s.getD (((i + 1 : Nat) : Int)).toNat 0).toNat : Int) == 95))) n := allI_congr fun i _ => by
      unfold nameB
      rw [show (((i + 1 : Nat) : Int) == 0) = false from by simp; omega]
      rfl
    unfold nameOk
    rw [h0, allI_head, e2, Nat.add_sub_cancel]
    rw [show (((n + 1 : Nat) : Int) == 0) = false from by simp; omega, show decide (((n + 1 : Nat) : Int) ≥ 1) = true from by simp; omega, dgt]
    generalize nameB ((0 : Nat) : Int) ((s.getD (((0 : Nat) : Int)).toNat 0).toNat : Int) = q1
    generalize allI (fun i : Nat => (letterB ((s.getD (((i + 1 : Nat) : Int)).toNat 0).toNat : Int) || ((decide (((s.getD (((i + 1 : Nat) : Int)).toNat 0).toNat : Int) ≥ 48) && decide (((s.getD (((i + 1 : Nat) : Int)).toNat 0).toNat : Int) ≤ 57)) || ((s.getD (((i + 1 : Nat) : Int)).toNat 0).toNat : Int) == 95))) n = q2
    generalize decide (((n + 1 : Nat) : Int) ≤ 12) = q3
    cases q1 <;> cases q2 <;> cases q3 <;> rfl
def slotNameOk (x : List TC) : Bool := (nth x 0).str == [] || nameOk (nth x 0).str
def lastEmpty (A : List (List TC)) : Bool := (nth (row A (IntKind.wrap .i64 ((A.length : Int) - (1 : Int)))) 0).str == []
def heapOk (A : List (List TC)) : Bool := decide ((A.length : Int) ≤ 30) && (((A.length : Int) == 0) || !(lastEmpty A)) && A.all slotNameOk
theorem lenPos (A : List (List TC)) : decide ((A.length : Int) > 0) = !((A.length : Int) == 0) := by
  rw [Bool.eq_iff_iff]
  simp only [decide_eq_true_eq, Bool.not_eq_true', beq_eq_false_iff_ne]
  omega
/-! spec_l16Ok -/
noncomputable def spec_l16Ok_f5 (A : List (List TC)) (m : Int) (i : Int) : (Unit) ⊕ ((Unit) ⊕ (Unit)) := (bif (!((nth (row A i) 0).str == [])) then (bif (!(spec_IsName_v ((nth (row A i) 0).str))) then (.inr (.inl ())) else (.inl ())) else (.inl ()))
noncomputable def spec_l16Ok_e5 (A : List (List TC)) (m : Int) : (Unit) ⊕ (Unit) := .inr ()
noncomputable def spec_l16Ok_R5 (A : List (List TC)) (m : Int) (i : Int) : (Unit) ⊕ (Unit) := iter (fun i a => (spec_l16Ok_f5 A m (i : Int))) (fun a => (spec_l16Ok_e5 A m)) (A.length) 0 ()
abbrev spec_l16Ok_5_σ := List (List TC) × Int × Int
abbrev spec_l16Ok_5_ω := (Unit) ⊕ (Unit)
noncomputable def spec_l16Ok_5_step (A : List (List TC)) (m : Int) (i : Int) : Tr (spec_l16Ok_5_σ ⊕ spec_l16Ok_5_ω) := (.ite ((decide (i < m)) = true) (.ite ((0 : Int) ≤ i ∧ i < (A.length : Int)) (.ite ((!((nth (row A i) 0).str == [])) = true) (.ite ((0 : Int) ≤ i ∧ i < (A.length : Int)) (.ite ((spec_IsName_c ((nth (row A i) 0).str)) = true) (.ite ((!(spec_IsName_v ((nth (row A i) 0).str))) = true) (.ok (.inr (.inl ())))
       (.ok (.inl (A, m, (IntKind.wrap .i64 (i + (1 : Int)))))))
      .no)
     .no)
    (.ok (.inl (A, m, (IntKind.wrap .i64 (i + (1 : Int)))))))
   .no)
  (.ok (.inr (.inr ()))))
noncomputable def spec_l16Ok_5_st : spec_l16Ok_5_σ → Tr (spec_l16Ok_5_σ ⊕ spec_l16Ok_5_ω) := fun x => (spec_l16Ok_5_step (x.1) (x.2.1) (x.2.2))
noncomputable def spec_l16Ok_k5_1 (A : List (List TC)) (m : Int) (i : Int) : Bool := sumIs (spec_l16Ok_R5 A m i)
noncomputable def spec_l16Ok_o5_2 (A : List (List TC)) (m : Int) (i : Int) : Bool := is (i = 0 ∧ Typed tab (.slice 9) (.l A) ∧ m = (A.length : Int))
noncomputable def spec_l16Ok_o5_3 (A : List (List TC)) (m : Int) (i : Int) : Bool := is (i = 0 ∧ Typed tab (.slice 9) (.l A) ∧ m = (A.length : Int))
noncomputable def spec_l16Ok_5_fin (A : List (List TC)) (m : Int) (i : Int) : Told spec_l16Ok_5_ω := (.br (spec_l16Ok_k5_1 A m i) (.leaf (spec_l16Ok_o5_2 A m i) (.inl ())) (.leaf (spec_l16Ok_o5_3 A m i) (.inr ())))
def spec_l16Ok_5_sl (x : spec_l16Ok_5_σ) : List Slot := [⟨.bx 49 [⟨.slice 9, .sh, TC.l (x.1)⟩], ⟨0, 0⟩⟩, ⟨.val false [⟨.int .i64, .sh, TC.i (x.2.1)⟩], ⟨0, 0⟩⟩, ⟨.val false [⟨.int .i64, .sh, TC.i (x.2.2)⟩], ⟨0, 0⟩⟩]
def spec_l16Ok_5_out : spec_l16Ok_5_ω → Ex × List Slot := (Sum.elim (fun x => (.ret, [⟨.val false [⟨.bool, .sh, TC.b false⟩], ⟨0, 0⟩⟩])) (fun x => (.exit 0, [Slot.none])))
noncomputable def spec_l16Ok_lo5 : List Slot → Option (Told (Ex × List Slot)) := fun s => match s with
  | [⟨.bx 49 [⟨.slice 9, .sh, TC.l A⟩], ⟨0, 0⟩⟩, ⟨.val false [⟨.int .i64, .sh, TC.i m⟩], ⟨0, 0⟩⟩, ⟨.val false [⟨.int .i64, .sh, TC.i i⟩], ⟨0, 0⟩⟩] => some (((spec_l16Ok_5_fin A m i)).map spec_l16Ok_5_out)
  | _ => .none
noncomputable def spec_l16Ok_lo : LoopTeller := fun r s => bif Nat.beq r 5 then spec_l16Ok_lo5 s else .none
theorem spec_l16Ok_5_r (A : List (List TC)) (m : Int) (i : Int) (fuel : Nat) : rounds (rnd tab FT D6 live 67 spec_l16Ok_lo 0 5) leave (fuel + 1) (spec_l16Ok_5_sl (A, m, i)) = ((spec_l16Ok_5_step A m i)).run (goOn (fun s => rounds (rnd tab FT D6 live 67 spec_l16Ok_lo 0 5) leave fuel (spec_l16Ok_5_sl s)) fun w => some (spec_l16Ok_5_out w)) := by kernel_rfl
theorem spec_l16Ok_f5_eq (A : List (List TC)) (m : Int) (i : Int) : spec_l16Ok_f5 A m i = bif slotNameOk (row A i) then Sum.inl () else Sum.inr (Sum.inl ()) := by
  unfold spec_l16Ok_f5 slotNameOk
  simp only [spec_IsName_vv]
  generalize ((nth (row A i) 0).str == []) = p0, nameOk (nth (row A i) 0).str = p1
  cases p0 <;> cases p1 <;> rfl
theorem spec_l16Ok_R5_eq (A : List (List TC)) (m : Int)  : spec_l16Ok_R5 A m 0 = bif allI (fun i : Nat => slotNameOk (row A (i : Int))) (A.length) then Sum.inr () else (Sum.inl ()) := by
  unfold spec_l16Ok_R5
  exact (iter_all (P := (fun i : Nat => slotNameOk (row A (i : Int)))) (g := fun _ a => a) (w := Sum.inl ()) fun j a _ => spec_l16Ok_f5_eq A m _)
theorem spec_l16Ok_5_h (A : List (List TC)) (m : Int) (i : Int) (ow : spec_l16Ok_5_ω) : ((spec_l16Ok_5_fin A m i)).val = some ow → ∃ fuel, loopN spec_l16Ok_5_st fuel (A, m, i) = some ow := by
  refine auto_sum (R := (spec_l16Ok_R5 A m i)) rfl rfl rfl ?_
  intro ho
  have ho : is (i = 0 ∧ Typed tab (.slice 9) (.l A) ∧ m = (A.length : Int)) = true := ho.elim id id
  obtain ⟨rfl, ht, rfl⟩ := is_iff.1 ho
  have hlen : A.length ≤ 140737488351232 := by have := typed_room ht; simp only [show (tab 9).bytes = 16 from rfl] at this; omega
  refine ⟨(A.length) + 1, ?_⟩
  refine iter_loop (step := spec_l16Ok_5_st) (A.length) (fun i a => (spec_l16Ok_f5 A (A.length : Int) (i : Int))) (fun a => (spec_l16Ok_e5 A (A.length : Int))) (fun i a => (A, (A.length : Int), (i : Int))) (fun _ _ => True) trivial (fun i a hi hI => ⟨?_, fun _ _ => trivial⟩) (fun a hI => ?_)
  · show (spec_l16Ok_5_step A (A.length : Int) (i : Int)).val = _
    unfold spec_l16Ok_5_step spec_l16Ok_f5
    have c0 : Typed tab (.str) (.s (nth (A.getD i []) 0).str) := typed_s (typed_cell ht (A.getD i []) (mem_getD hi) 0 (by decide))
    refine Tr.t (by simp; omega) ?_
    exact (Tr.t (by first | omega | (constructor <;> omega)) (Tr.bf (Tr.t (by first | omega | (constructor <;> omega)) (Tr.t (by first | (first | (apply is_true; and_intros <;> (first | rfl | assumption | (apply spec_IsName_cc <;> assumption) | (first | (apply is_true; and_intros <;> (first | rfl | assumption | (apply spec_IsName_cc <;> assumption) | (first | (apply is_true; and_intros <;> (first | rfl | assumption | (apply spec_IsName_cc <;> assumption))) | (apply spec_IsName_cc <;> assumption)))) | (apply spec_IsName_cc <;> assumption)))) | (apply spec_IsName_cc <;> assumption))) (Tr.bf rfl (by rw [Tr.val_ok, wrap64 (i := (i : Int) + 1) (by omega) (by omega)]; rfl)))) (by rw [Tr.val_ok, wrap64 (i := (i : Int) + 1) (by omega) (by omega)]; rfl)))
  · show (spec_l16Ok_5_step A (A.length : Int) (A.length : Int)).val = _
    refine Tr.n (by first | (simp; done) | (simp; omega) | omega) ?_
    rfl
theorem spec_l16Ok_is5 : LoopIs tab FT D6 live 67 spec_l16Ok_lo 0 5 := by
  refine loop_told (sl := spec_l16Ok_5_sl) (step := spec_l16Ok_5_st) (out := spec_l16Ok_5_out) (lor := spec_l16Ok_lo5) (fin := fun x => (spec_l16Ok_5_fin (x.1) (x.2.1) (x.2.2))) (fun _ => rfl) ?_ (fun x n => spec_l16Ok_5_r x.1 x.2.1 x.2.2 n) (fun x ow => spec_l16Ok_5_h x.1 x.2.1 x.2.2 ow)
  intro s t h
  unfold spec_l16Ok_lo5 at h
  split at h
  · cases h; exact ⟨(_, _, _), rfl, rfl⟩
  · cases h
noncomputable def spec_l16Ok_t (A : List (List TC)) : Tr (Bool) := (.ite ((decide ((A.length : Int) > (30 : Int))) = true) (.ok false)
  (.ite ((decide ((A.length : Int) > (0 : Int))) = true) (.ite ((0 : Int) ≤ (IntKind.wrap .i64 ((A.length : Int) - (1 : Int))) ∧ (IntKind.wrap .i64 ((A.length : Int) - (1 : Int))) < (A.length : Int)) (.ite (((nth (row A (IntKind.wrap .i64 ((A.length : Int) - (1 : Int)))) 0).str == []) = true) (.ok false)
     (.ite ((spec_l16Ok_k5_1 A (A.length : Int) (0 : Int)) = true) (.ite ((spec_l16Ok_o5_2 A (A.length : Int) (0 : Int)) = true) (.ok false)
       .no)
      (.ite ((spec_l16Ok_o5_3 A (A.length : Int) (0 : Int)) = true) (.ok true)
       .no)))
    .no)
   (.ite ((spec_l16Ok_k5_1 A (A.length : Int) (0 : Int)) = true) (.ite ((spec_l16Ok_o5_2 A (A.length : Int) (0 : Int)) = true) (.ok false)
     .no)
    (.ite ((spec_l16Ok_o5_3 A (A.length : Int) (0 : Int)) = true) (.ok true)
     .no))))
def spec_l16Ok_mk (p : Bool) : Res := [(false, [⟨.bool, .sh, TC.b p⟩])]
noncomputable def spec_l16Ok_c (A : List (List TC)) : Bool := (bif (decide ((A.length : Int) > (30 : Int))) then true else (bif (decide ((A.length : Int) > (0 : Int))) then (is ((0 : Int) ≤ (IntKind.wrap .i64 ((A.length : Int) - (1 : Int))) ∧ (IntKind.wrap .i64 ((A.length : Int) - (1 : Int))) < (A.length : Int)) && (bif ((nth (row A (IntKind.wrap .i64 ((A.length : Int) - (1 : Int)))) 0).str == []) then true else (bif (spec_l16Ok_k5_1 A (A.length : Int) (0 : Int)) then ((spec_l16Ok_o5_2 A (A.length : Int) (0 : Int)) && true) else ((spec_l16Ok_o5_3 A (A.length : Int) (0 : Int)) && true)))) else (bif (spec_l16Ok_k5_1 A (A.length : Int) (0 : Int)) then ((spec_l16Ok_o5_2 A (A.length : Int) (0 : Int)) && true) else ((spec_l16Ok_o5_3 A (A.length : Int) (0 : Int)) && true))))
noncomputable def spec_l16Ok_v (A : List (List TC)) : Bool := (bif (decide ((A.length : Int) > (30 : Int))) then false else (bif (decide ((A.length : Int) > (0 : Int))) then (bif ((nth (row A (IntKind.wrap .i64 ((A.length : Int) - (1 : Int)))) 0).str == []) then false else (bif (spec_l16Ok_k5_1 A (A.length : Int) (0 : Int)) then false else true)) else (bif (spec_l16Ok_k5_1 A (A.length : Int) (0 : Int)) then false else true)))
theorem spec_l16Ok_l (A : List (List TC)) : (spec_l16Ok_c A) = true → (spec_l16Ok_t A).val = some (spec_l16Ok_v A) := by
  unfold spec_l16Ok_t spec_l16Ok_v spec_l16Ok_c
  exact fun h => (Tr.ss h (fun h => rfl) (fun h => (Tr.ss h (fun h => (Tr.gs h fun h => (Tr.ss h (fun h => rfl) (fun h => (Tr.ss h (fun h => (Tr.gb h fun h => rfl)) (fun h => (Tr.gb h fun h => rfl))))))) (fun h => (Tr.ss h (fun h => (Tr.gb h fun h => rfl)) (fun h => (Tr.gb h fun h => rfl)))))))
noncomputable def spec_l16Ok_S : List Arg → Option (Bool × Res) := fun xs => match xs with
  | [(true, [(.slice 9, TC.l A)])] => some ((spec_l16Ok_c A), spec_l16Ok_mk (spec_l16Ok_v A))
  | _ => .none
theorem spec_l16Ok_e (A : List (List TC)) : runF tab FT D6 live 67 spec_l16Ok_lo [(true, [(.slice 9, TC.l A)])] = (spec_l16Ok_t A).run fun p => some (spec_l16Ok_mk p) := by kernel_rfl
theorem spec_l16Ok_s : ∀ xs r, spec_l16Ok_S xs = some (true, r) → runF tab FT D6 live 67 spec_l16Ok_lo xs = some r := by
  intro xs r h
  unfold spec_l16Ok_S at h
  split at h
  · simp only [Option.some.injEq, Prod.mk.injEq] at h
    obtain ⟨h1, rfl⟩ := h
    exact fun_told (spec_l16Ok_e _) (spec_l16Ok_l _) h1
  · cases h
noncomputable def D7 : Dt := also D6 67 spec_l16Ok_S
theorem d7 : DOk Go.Proofs.Try.prog tab D7 := d6.also mixed_ok tab_ok names_ok (fnLoops_one (by kernel_rfl) spec_l16Ok_is5) spec_l16Ok_s
theorem spec_l16Ok_cc {A : List (List TC)} (hA : Typed tab (.slice 9) (.l A)) : (spec_l16Ok_c A) = true := by
  unfold spec_l16Ok_c
  refine bifT (fun b1 => ?_) (fun b1 => ?_)
  · skip
    rfl
  · skip
    refine bifT (fun b2 => ?_) (fun b2 => ?_)
    · skip
      refine andT (is_true (by have hl := typed_room hA; simp only [show (tab 9).bytes = 16 from rfl] at hl; have hb := of_decide_eq_true b2; rw [wrap64 (by omega) (by omega)]; constructor <;> omega)) ?_
      refine bifT (fun b3 => ?_) (fun b3 => ?_)
      · skip
        rfl
      · skip
        refine bifT (fun b4 => ?_) (fun b4 => ?_)
        · skip
          refine andT (by first | (apply is_true; and_intros <;> (first | rfl | assumption | (apply spec_IsName_cc <;> assumption) | (first | (apply is_true; and_intros <;> (first | rfl | assumption | (apply spec_IsName_cc <;> assumption) | (first | (apply is_true; and_intros <;> (first | rfl | assumption | (apply spec_IsName_cc <;> assumption) | (first | (apply is_true; and_intros <;> (first | rfl | assumption | (apply spec_IsName_cc <;> assumption))) | (apply spec_IsName_cc <;> assumption)))) | (apply spec_IsName_cc <;> assumption)))) | (apply spec_IsName_cc <;> assumption)))) | (apply spec_IsName_cc <;> assumption)) ?_
          rfl
        · skip
          refine andT (by first | (apply is_true; and_intros <;> (first | rfl | assumption | (apply spec_IsName_cc <;> assumption) | (first | (apply is_true; and_intros <;> (first | rfl | assumption | (apply spec_IsName_cc <;> assumption) | (first | (apply is_true; and_intros <;> (first | rfl | assumption | (apply spec_IsName_cc <;> assumption) | (first | (apply is_true; and_intros <;> (first | rfl | assumption | (apply spec_IsName_cc <;> assumption))) | (apply spec_IsName_cc <;> assumption)))) | (apply spec_IsName_cc <;> assumption)))) | (apply spec_IsName_cc <;> assumption)))) | (apply spec_IsName_cc <;> assumption)) ?_
          rfl
    · skip
      refine bifT (fun b5 => ?_) (fun b5 => ?_)
      · skip
        refine andT (by first | (apply is_true; and_intros <;> (first | rfl | assumption | (apply spec_IsName_cc <;> assumption) | (first | (apply is_true; and_intros <;> (first | rfl | assumption | (apply spec_IsName_cc <;> assumption) | (first | (apply is_true; and_intros <;> (first | rfl | assumption | (apply spec_IsName_cc <;> assumption) | (first | (apply is_true; and_intros <;> (first | rfl | assumption | (apply spec_IsName_cc <;> assumption))) | (apply spec_IsName_cc <;> assumption)))) | (apply spec_IsName_cc <;> assumption)))) | (apply spec_IsName_cc <;> assumption)))) | (apply spec_IsName_cc <;> assumption)) ?_
        rfl
      · skip
        refine andT (by first | (apply is_true; and_intros <;> (first | rfl | assumption | (apply spec_IsName_cc <;> assumption) | (first | (apply is_true; and_intros <;> (first | rfl | assumption | (apply spec_IsName_cc <;> assumption) | (first | (apply is_true; and_intros <;> (first | rfl | assumption | (apply spec_IsName_cc <;> assumption) | (first | (apply is_true; and_intros <;> (first | rfl | assumption | (apply spec_IsName_cc <;> assumption))) | (apply spec_IsName_cc <;> assumption)))) | (apply spec_IsName_cc <;> assumption)))) | (apply spec_IsName_cc <;> assumption)))) | (apply spec_IsName_cc <;> assumption)) ?_
        rfl
theorem spec_l16Ok_vv (A : List (List TC)) : spec_l16Ok_v A = heapOk A := by
  unfold spec_l16Ok_v spec_l16Ok_k5_1
  rw [spec_l16Ok_R5_eq, allI_rows, dgt, lenPos]
  unfold heapOk lastEmpty
  generalize decide ((A.length : Int) ≤ 30) = p1, ((A.length : Int) == 0) = p2, ((nth (row A (IntKind.wrap .i64 ((A.length : Int) - (1 : Int)))) 0).str == []) = p3, A.all slotNameOk = p4
  cases p1 <;> cases p2 <;> cases p3 <;> cases p4 <;> rfl
theorem byte1 (n : Int) : [[TC.i (IntKind.wrap .u8 n)]].map byteOf = bytesL n 1 := by
  show _ = [byteOf (bAt n 0)]
  unfold bAt
  rw [show Int.fdiv n (2 ^ (8 * 0)) = n from by simp]
  rfl
/-! spec_l02Byte -/
noncomputable def spec_l02Byte_t (n : Int) : Tr (List UInt8) := .ok ([[TC.i (IntKind.wrap .u8 n)]].map byteOf)
def spec_l02Byte_mk (p : List UInt8) : Res := [(false, [⟨.str, .sh, TC.s p⟩])]
noncomputable def spec_l02Byte_c (n : Int) : Bool := true
noncomputable def spec_l02Byte_v (n : Int) : List UInt8 := hid (bytesL n 1)
theorem spec_l02Byte_l (n : Int) : (spec_l02Byte_c n) = true → (spec_l02Byte_t n).val = some (spec_l02Byte_v n) := by
  intro _
  unfold spec_l02Byte_t spec_l02Byte_v
  rw [hid_eq, ← byte1]
  rfl
noncomputable def spec_l02Byte_S : List Arg → Option (Bool × Res) := fun xs => match xs with
  | [(false, [(.int .i64, TC.i n)])] => some (true, spec_l02Byte_mk (spec_l02Byte_v n))
  | _ => .none
theorem spec_l02Byte_e (n : Int) : runF tab FT D7 live 118 noLoops [(false, [(.int .i64, TC.i n)])] = (spec_l02Byte_t n).run fun p => some (spec_l02Byte_mk p) := by kernel_rfl
theorem spec_l02Byte_s : ∀ xs r, spec_l02Byte_S xs = some (true, r) → runF tab FT D7 live 118 noLoops xs = some r := by
  intro xs r h
  unfold spec_l02Byte_S at h
  split at h
  · simp only [Option.some.injEq, Prod.mk.injEq] at h
    obtain ⟨h1, rfl⟩ := h
    exact fun_told (spec_l02Byte_e _) (spec_l02Byte_l _) rfl
  · cases h
noncomputable def D8 : Dt := also D7 118 spec_l02Byte_S
theorem d8 : DOk Go.Proofs.Try.prog tab D8 := d7.also mixed_ok tab_ok names_ok noLoops_ok spec_l02Byte_s
theorem spec_l02Byte_h {n : Int} : spec_l02Byte_v n = bytesL n 1 := hid_eq _
theorem spec_l02Byte_len {n : Int} : (spec_l02Byte_v n).length = 1 := by rw [spec_l02Byte_h]; exact bytesL_len
def hStep (A : List (List TC)) (i : Nat) (a : List UInt8) : List UInt8 := a ++ (bytesL (((nth (row A (i : Int)) 0).str).length : Int) 1 ++ (nth (row A (i : Int)) 0).str)
def encHeap (A : List (List TC)) : List UInt8 := bif heapOk A then foldI (hStep A) A.length (bytesL (A.length : Int) 1) else []
theorem heapOk_len {A : List (List TC)} (h : heapOk A = true) : A.length ≤ 64 := by
  unfold heapOk at h
  simp only [Bool.and_eq_true, decide_eq_true_eq] at h
  omega
/-! spec_l16Encode -/
noncomputable def spec_l16Encode_f3 (A : List (List TC)) (i : Int) (s : List UInt8) : (List UInt8) ⊕ ((List UInt8)) := (.inl (s ++ ((spec_l02Byte_v (((nth (row A i) 0).str).length : Int)) ++ (nth (row A i) 0).str)))
noncomputable def spec_l16Encode_e3 (A : List (List TC)) (s : List UInt8) : (List UInt8) := s
noncomputable def spec_l16Encode_R3 (A : List (List TC)) (s : List UInt8) (i : Int) : (List UInt8) := iter (fun i a => (spec_l16Encode_f3 A (i : Int) a)) (fun a => (spec_l16Encode_e3 A a)) (A.length) 0 s
abbrev spec_l16Encode_3_σ := List (List TC) × List UInt8 × Int
abbrev spec_l16Encode_3_ω := (List UInt8)
noncomputable def spec_l16Encode_3_step (A : List (List TC)) (s : List UInt8) (i : Int) : Tr (spec_l16Encode_3_σ ⊕ spec_l16Encode_3_ω) := (.ite ((decide (i < (A.length : Int))) = true) (.ite ((0 : Int) ≤ i ∧ i < (A.length : Int)) (.ite ((0 : Int) ≤ i ∧ i < (A.length : Int)) (.ite ((((spec_l02Byte_v (((nth (row A i) 0).str).length : Int)).length + ((nth (row A i) 0).str).length : Nat) : Int) ≤ 9223372036854775807) (.ite (((s.length + ((spec_l02Byte_v (((nth (row A i) 0).str).length : Int)) ++ (nth (row A i) 0).str).length : Nat) : Int) ≤ 9223372036854775807) (.ok (.inl (A, (s ++ ((spec_l02Byte_v (((nth (row A i) 0).str).length : Int)) ++ (nth (row A i) 0).str)), (IntKind.wrap .i64 (i + (1 : Int))))))
      .no)
     .no)
    .no)
   .no)
  (.ok (.inr s)))
noncomputable def spec_l16Encode_3_st : spec_l16Encode_3_σ → Tr (spec_l16Encode_3_σ ⊕ spec_l16Encode_3_ω) := fun x => (spec_l16Encode_3_step (x.1) (x.2.1) (x.2.2))
noncomputable def spec_l16Encode_o3_1 (A : List (List TC)) (s : List UInt8) (i : Int) : Bool := is (i = 0 ∧ Typed tab (.slice 9) (.l A) ∧ s.length ≤ 8 ∧ A.length ≤ 64)
noncomputable def spec_l16Encode_u3_1 (A : List (List TC)) (s : List UInt8) (i : Int) : List UInt8 := (spec_l16Encode_R3 A s i)
noncomputable def spec_l16Encode_3_fin (A : List (List TC)) (s : List UInt8) (i : Int) : Told spec_l16Encode_3_ω := (.leaf (spec_l16Encode_o3_1 A s i) (spec_l16Encode_u3_1 A s i))
def spec_l16Encode_3_sl (x : spec_l16Encode_3_σ) : List Slot := [⟨.bx 49 [⟨.slice 9, .sh, TC.l (x.1)⟩], ⟨0, 0⟩⟩, ⟨.val false [⟨.str, .sh, TC.s (x.2.1)⟩], ⟨0, 0⟩⟩, ⟨.val false [⟨.int .i64, .sh, TC.i (x.2.2)⟩], ⟨0, 0⟩⟩]
def spec_l16Encode_3_out : spec_l16Encode_3_ω → Ex × List Slot := (fun x => (.exit 0, [Slot.none, ⟨.val false [⟨.str, .sh, TC.s x⟩], ⟨0, 0⟩⟩]))
noncomputable def spec_l16Encode_lo3 : List Slot → Option (Told (Ex × List Slot)) := fun s => match s with
  | [⟨.bx 49 [⟨.slice 9, .sh, TC.l A⟩], ⟨0, 0⟩⟩, ⟨.val false [⟨.str, .sh, TC.s s⟩], ⟨0, 0⟩⟩, ⟨.val false [⟨.int .i64, .sh, TC.i i⟩], ⟨0, 0⟩⟩] => some (((spec_l16Encode_3_fin A s i)).map spec_l16Encode_3_out)
  | _ => .none
noncomputable def spec_l16Encode_lo : LoopTeller := fun r s => bif Nat.beq r 3 then spec_l16Encode_lo3 s else .none
theorem spec_l16Encode_3_r (A : List (List TC)) (s : List UInt8) (i : Int) (fuel : Nat) : rounds (rnd tab FT D8 live 76 spec_l16Encode_lo 0 3) leave (fuel + 1) (spec_l16Encode_3_sl (A, s, i)) = ((spec_l16Encode_3_step A s i)).run (goOn (fun s => rounds (rnd tab FT D8 live 76 spec_l16Encode_lo 0 3) leave fuel (spec_l16Encode_3_sl s)) fun w => some (spec_l16Encode_3_out w)) := by kernel_rfl
theorem spec_l16Encode_3_h (A : List (List TC)) (s : List UInt8) (i : Int) (ow : spec_l16Encode_3_ω) : ((spec_l16Encode_3_fin A s i)).val = some ow → ∃ fuel, loopN spec_l16Encode_3_st fuel (A, s, i) = some ow := by
  refine auto_leaf (R := (spec_l16Encode_R3 A s i)) ?_
  intro ho
  have ho : is (i = 0 ∧ Typed tab (.slice 9) (.l A) ∧ s.length ≤ 8 ∧ A.length ≤ 64) = true := ho
  obtain ⟨rfl, ht, hs0, hlim⟩ := is_iff.1 ho
  have hlen : A.length ≤ 140737488351232 := by have := typed_room ht; simp only [show (tab 9).bytes = 16 from rfl] at this; omega
  refine ⟨(A.length) + 1, ?_⟩
  refine iter_loop (step := spec_l16Encode_3_st) (A.length) (fun i a => (spec_l16Encode_f3 A (i : Int) a)) (fun a => (spec_l16Encode_e3 A a)) (fun i a => (A, a, (i : Int))) (fun i (a : List UInt8) => a.length ≤ 8 + 140737488355328 * i) (by simpa using hs0) (fun i a hi hI => ⟨?_, fun a' h => by
    unfold spec_l16Encode_f3 at h
    have hI : a.length ≤ 8 + 140737488355328 * i := hI
    have c0 : (nth (row A (i : Int)) 0).str.length ≤ 140737488351232 := typed_str_len (typed_s (typed_cell ht (A.getD i []) (mem_getD hi) 0 (by decide)))
    have e0 : (spec_l02Byte_v (((nth (row A (i : Int)) 0).str).length : Int)).length = 1 := spec_l02Byte_len
    (cases h; show List.length _ ≤ 8 + 140737488355328 * (i + 1); simp only [List.length_append]; omega)⟩) (fun a hI => ?_)
  · show (spec_l16Encode_3_step A a (i : Int)).val = _
    unfold spec_l16Encode_3_step spec_l16Encode_f3
    have c0 : Typed tab (.str) (.s (nth (A.getD i []) 0).str) := typed_s (typed_cell ht (A.getD i []) (mem_getD hi) 0 (by decide))
    have hI : a.length ≤ 8 + 140737488355328 * i := hI
    have c0 : (nth (row A (i : Int)) 0).str.length ≤ 140737488351232 := typed_str_len (typed_s (typed_cell ht (A.getD i []) (mem_getD hi) 0 (by decide)))
    have e0 : (spec_l02Byte_v (((nth (row A (i : Int)) 0).str).length : Int)).length = 1 := spec_l02Byte_len
    refine Tr.t (by simp; omega) ?_
    exact (Tr.t (by first | omega | (constructor <;> omega) | (simp only [List.length_append]; omega)) (Tr.t (by first | omega | (constructor <;> omega) | (simp only [List.length_append]; omega)) (Tr.t (by first | omega | (constructor <;> omega) | (simp only [List.length_append]; omega)) (Tr.t (by first | omega | (constructor <;> omega) | (simp only [List.length_append]; omega)) (by rw [Tr.val_ok, wrap64 (i := (i : Int) + 1) (by omega) (by omega)]; rfl)))))
  · show (spec_l16Encode_3_step A a (A.length : Int)).val = _
    refine Tr.n (by first | (simp; done) | (simp; omega) | omega) ?_
    rfl
theorem spec_l16Encode_is3 : LoopIs tab FT D8 live 76 spec_l16Encode_lo 0 3 := by
  refine loop_told (sl := spec_l16Encode_3_sl) (step := spec_l16Encode_3_st) (out := spec_l16Encode_3_out) (lor := spec_l16Encode_lo3) (fin := fun x => (spec_l16Encode_3_fin (x.1) (x.2.1) (x.2.2))) (fun _ => rfl) ?_ (fun x n => spec_l16Encode_3_r x.1 x.2.1 x.2.2 n) (fun x ow => spec_l16Encode_3_h x.1 x.2.1 x.2.2 ow)
  intro s t h
  unfold spec_l16Encode_lo3 at h
  split at h
  · cases h; exact ⟨(_, _, _), rfl, rfl⟩
  · cases h
noncomputable def spec_l16Encode_t (A : List (List TC)) : Tr (List UInt8) := (.ite ((spec_l16Encode_o3_1 A (spec_l02Byte_v (A.length : Int)) (0 : Int)) = true) (.ok (spec_l16Encode_u3_1 A (spec_l02Byte_v (A.length : Int)) (0 : Int)))
  .no)
def spec_l16Encode_mk (p : List UInt8) : Res := [(false, [⟨.str, .sh, TC.s p⟩])]
noncomputable def spec_l16Encode_c (A : List (List TC)) : Bool := ((spec_l16Encode_o3_1 A (spec_l02Byte_v (A.length : Int)) (0 : Int)) && true)
noncomputable def spec_l16Encode_v (A : List (List TC)) : List UInt8 := (spec_l16Encode_u3_1 A (spec_l02Byte_v (A.length : Int)) (0 : Int))
theorem spec_l16Encode_l (A : List (List TC)) : (spec_l16Encode_c A) = true → (spec_l16Encode_t A).val = some (spec_l16Encode_v A) := by
  unfold spec_l16Encode_t spec_l16Encode_v spec_l16Encode_c
  exact fun h => (Tr.gb h fun h => rfl)
noncomputable def spec_l16Encode_S : List Arg → Option (Bool × Res) := fun xs => match xs with
  | [(true, [(.slice 9, TC.l A)])] => some ((spec_l16Encode_c A), spec_l16Encode_mk (spec_l16Encode_v A))
  | _ => .none
theorem spec_l16Encode_e (A : List (List TC)) : runF tab FT D8 live 76 spec_l16Encode_lo [(true, [(.slice 9, TC.l A)])] = (spec_l16Encode_t A).run fun p => some (spec_l16Encode_mk p) := by kernel_rfl
theorem spec_l16Encode_s : ∀ xs r, spec_l16Encode_S xs = some (true, r) → runF tab FT D8 live 76 spec_l16Encode_lo xs = some r := by
  intro xs r h
  unfold spec_l16Encode_S at h
  split at h
  · simp only [Option.some.injEq, Prod.mk.injEq] at h
    obtain ⟨h1, rfl⟩ := h
    exact fun_told (spec_l16Encode_e _) (spec_l16Encode_l _) h1
  · cases h
noncomputable def D9 : Dt := also D8 76 spec_l16Encode_S
theorem d9 : DOk Go.Proofs.Try.prog tab D9 := d8.also mixed_ok tab_ok names_ok (fnLoops_one (by kernel_rfl) spec_l16Encode_is3) spec_l16Encode_s
theorem spec_l16Encode_cc {A : List (List TC)} (hA : Typed tab (.slice 9) (.l A)) (hl : A.length ≤ 64) : (spec_l16Encode_c A) = true := by
  unfold spec_l16Encode_c
  refine andT (by exact is_true ⟨rfl, hA, by rw [spec_l02Byte_len]; omega, hl⟩) ?_
  rfl
theorem spec_l16Encode_vv (A : List (List TC)) : spec_l16Encode_v A = foldI (hStep A) A.length (bytesL (A.length : Int) 1) := by
  show spec_l16Encode_R3 A (spec_l02Byte_v (A.length : Int)) 0 = _
  rw [spec_l02Byte_h]
  unfold spec_l16Encode_R3
  refine iter_each (g := hStep A) (fin := fun a => spec_l16Encode_e3 A a) fun j a hj => ?_
  unfold spec_l16Encode_f3 hStep
  rw [spec_l02Byte_h]
/-! spec_EncodeHeap -/
noncomputable def spec_EncodeHeap_t (A : List (List TC)) : Tr (List UInt8) := (.ite ((spec_l16Ok_c A) = true) (.ite ((!(spec_l16Ok_v A)) = true) (.ok ([]))
   (.ite ((spec_l16Encode_c A) = true) (.ok (spec_l16Encode_v A))
    .no))
  .no)
def spec_EncodeHeap_mk (p : List UInt8) : Res := [(false, [⟨.str, .sh, TC.s p⟩])]
noncomputable def spec_EncodeHeap_c (A : List (List TC)) : Bool := ((spec_l16Ok_c A) && (bif (!(spec_l16Ok_v A)) then true else ((spec_l16Encode_c A) && true)))
noncomputable def spec_EncodeHeap_v (A : List (List TC)) : List UInt8 := (bif (!(spec_l16Ok_v A)) then [] else (spec_l16Encode_v A))
theorem spec_EncodeHeap_l (A : List (List TC)) : (spec_EncodeHeap_c A) = true → (spec_EncodeHeap_t A).val = some (spec_EncodeHeap_v A) := by
  unfold spec_EncodeHeap_t spec_EncodeHeap_v spec_EncodeHeap_c
  exact fun h => (Tr.gb h fun h => (Tr.ss h (fun h => rfl) (fun h => (Tr.gb h fun h => rfl))))
noncomputable def spec_EncodeHeap_S : List Arg → Option (Bool × Res) := fun xs => match xs with
  | [(true, [(.slice 9, TC.l A)])] => some ((spec_EncodeHeap_c A), spec_EncodeHeap_mk (spec_EncodeHeap_v A))
  | _ => .none
theorem spec_EncodeHeap_e (A : List (List TC)) : runF tab FT D9 live 38 noLoops [(true, [(.slice 9, TC.l A)])] = (spec_EncodeHeap_t A).run fun p => some (spec_EncodeHeap_mk p) := by kernel_rfl
theorem spec_EncodeHeap_s : ∀ xs r, spec_EncodeHeap_S xs = some (true, r) → runF tab FT D9 live 38 noLoops xs = some r := by
  intro xs r h
  unfold spec_EncodeHeap_S at h
  split at h
  · simp only [Option.some.injEq, Prod.mk.injEq] at h
    obtain ⟨h1, rfl⟩ := h
    exact fun_told (spec_EncodeHeap_e _) (spec_EncodeHeap_l _) h1
  · cases h
noncomputable def D10 : Dt := also D9 38 spec_EncodeHeap_S
theorem d10 : DOk Go.Proofs.Try.prog tab D10 := d9.also mixed_ok tab_ok names_ok noLoops_ok spec_EncodeHeap_s
theorem spec_EncodeHeap_cc {A : List (List TC)} (hA : Typed tab (.slice 9) (.l A)) : (spec_EncodeHeap_c A) = true := by
  unfold spec_EncodeHeap_c
  refine andT (by first | (apply is_true; and_intros <;> (first | rfl | assumption | (apply spec_IsName_cc <;> assumption) | (apply spec_l16Ok_cc <;> assumption) | (apply spec_l16Encode_cc <;> assumption) | (first | (apply is_true; and_intros <;> (first | rfl | assumption | (apply spec_IsName_cc <;> assumption) | (apply spec_l16Ok_cc <;> assumption) | (apply spec_l16Encode_cc <;> assumption) | (first | (apply is_true; and_intros <;> (first | rfl | assumption | (apply spec_IsName_cc <;> assumption) | (apply spec_l16Ok_cc <;> assumption) | (apply spec_l16Encode_cc <;> assumption) | (first | (apply is_true; and_intros <;> (first | rfl | assumption | (apply spec_IsName_cc <;> assumption) | (apply spec_l16Ok_cc <;> assumption) | (apply spec_l16Encode_cc <;> assumption))) | (apply spec_IsName_cc <;> assumption) | (apply spec_l16Ok_cc <;> assumption) | (apply spec_l16Encode_cc <;> assumption)))) | (apply spec_IsName_cc <;> assumption) | (apply spec_l16Ok_cc <;> assumption) | (apply spec_l16Encode_cc <;> assumption)))) | (apply spec_IsName_cc <;> assumption) | (apply spec_l16Ok_cc <;> assumption) | (apply spec_l16Encode_cc <;> assumption)))) | (apply spec_IsName_cc <;> assumption) | (apply spec_l16Ok_cc <;> assumption) | (apply spec_l16Encode_cc <;> assumption)) ?_
  refine bifT (fun b1 => ?_) (fun b1 => ?_)
  · skip
    rfl
  · skip
    refine andT (by exact spec_l16Encode_cc hA (heapOk_len ((spec_l16Ok_vv _).symm.trans (notF b1)))) ?_
    rfl
theorem spec_EncodeHeap_vv (A : List (List TC)) : spec_EncodeHeap_v A = encHeap A := by
  unfold spec_EncodeHeap_v encHeap
  rw [spec_l16Ok_vv, spec_l16Encode_vv]
  cases heapOk A <;> rfl
/-! impl_IsName -/
noncomputable def impl_IsName_f2 (s : List UInt8) (m : Int) (i : Int) : (Unit) ⊕ ((List UInt8) ⊕ (List UInt8)) := (bif (decide (((s.getD (i).toNat 0).toNat : Int) ≥ (65 : Int))) then (bif (decide (((s.getD (i).toNat 0).toNat : Int) ≤ (90 : Int))) then (.inl ()) else (bif (decide (((s.getD (i).toNat 0).toNat : Int) ≥ (97 : Int))) then (bif (!(decide (((s.getD (i).toNat 0).toNat : Int) ≤ (122 : Int)))) then (bif (i == (0 : Int)) then (.inr (.inl s)) else (bif (decide (((s.getD (i).toNat 0).toNat : Int) < (48 : Int))) then (bif (!(((s.getD (i).toNat 0).toNat : Int) == (95 : Int))) then (.inr (.inl s)) else (.inl ())) else (bif (decide (((s.getD (i).toNat 0).toNat : Int) > (57 : Int))) then (bif (!(((s.getD (i).toNat 0).toNat : Int) == (95 : Int))) then (.inr (.inl s)) else (.inl ())) else (.inl ())))) else (.inl ())) else (bif (i == (0 : Int)) then (.inr (.inl s)) else (bif (decide (((s.getD (i).toNat 0).toNat : Int) < (48 : Int))) then (bif (!(((s.getD (i).toNat 0).toNat : Int) == (95 : Int))) then (.inr (.inl s)) else (.inl ())) else (bif (decide (((s.getD (i).toNat 0).toNat : Int) > (57 : Int))) then (bif (!(((s.getD (i).toNat 0).toNat : Int) == (95 : Int))) then (.inr (.inl s)) else (.inl ())) else (.inl ())))))) else (bif (decide (((s.getD (i).toNat 0).toNat : Int) ≥ (97 : Int))) then (bif (!(decide (((s.getD (i).toNat 0).toNat : Int) ≤ (122 : Int)))) then (bif (i == (0 : Int)) then (.inr (.inl s)) else (bif (decide (((s.getD (i).toNat 0).toNat : Int) < (48 : Int))) then (bif (!(((s.getD (i).toNat 0).toNat : Int) == (95 : Int))) then (.inr (.inl s)) else (.inl ())) else (bif (decide (((s.getD (i).toNat 0).toNat : Int) > (57 : Int))) then (bif (!(((s.getD (i).toNat 0).toNat : Int) == (95 : Int))) then (.inr (.inl s)) else (.inl ())) else (.inl ())))) else (.inl ())) else (bif (i == (0 : Int)) then (.inr (.inl s)) else (bif (decide (((s.getD (i).toNat 0).toNat : Int) < (48 : Int))) then (bif (!(((s.getD (i).toNat 0).toNat : Int) == (95 : Int))) then (.inr (.inl s)) else (.inl ())) else (bif (decide (((s.getD (i).toNat 0).toNat : Int) > (57 : Int))) then (bif (!(((s.getD (i).toNat 0).toNat : Int) == (95 : Int))) then (.inr (.inl s)) else (.inl ())) else (.inl ()))))))
noncomputable def impl_IsName_e2 (s : List UInt8) (m : Int) : (List UInt8) ⊕ (List UInt8) := .inr s
noncomputable def impl_IsName_R2 (s : List UInt8) (m : Int) (i : Int) : (List UInt8) ⊕ (List UInt8) := iter (fun i a => (impl_IsName_f2 s m (i : Int))) (fun a => (impl_IsName_e2 s m)) (s.length) 0 ()
abbrev impl_IsName_2_σ := List UInt8 × Int × Int
abbrev impl_IsName_2_ω := (List UInt8) ⊕ (List UInt8)
noncomputable def impl_IsName_2_step (s : List UInt8) (m : Int) (i : Int) : Tr (impl_IsName_2_σ ⊕ impl_IsName_2_ω) := (.ite ((decide (i < m)) = true) (.ite ((0 : Int) ≤ i ∧ i < (s.length : Int)) (.ite ((decide (((s.getD (i).toNat 0).toNat : Int) ≥ (65 : Int))) = true) (.ite ((decide (((s.getD (i).toNat 0).toNat : Int) ≤ (90 : Int))) = true) (.ok (.inl (s, m, (IntKind.wrap .i64 (i + (1 : Int))))))
     (.ite ((decide (((s.getD (i).toNat 0).toNat : Int) ≥ (97 : Int))) = true) (.ite ((!(decide (((s.getD (i).toNat 0).toNat : Int) ≤ (122 : Int)))) = true) (.ite ((i == (0 : Int)) = true) (.ok (.inr (.inl s)))
        (.ite ((decide (((s.getD (i).toNat 0).toNat : Int) < (48 : Int))) = true) (.ite ((!(((s.getD (i).toNat 0).toNat : Int) == (95 : Int))) = true) (.ok (.inr (.inl s)))
          (.ok (.inl (s, m, (IntKind.wrap .i64 (i + (1 : Int)))))))
         (.ite ((decide (((s.getD (i).toNat 0).toNat : Int) > (57 : Int))) = true) (.ite ((!(((s.getD (i).toNat 0).toNat : Int) == (95 : Int))) = true) (.ok (.inr (.inl s)))
           (.ok (.inl (s, m, (IntKind.wrap .i64 (i + (1 : Int)))))))
          (.ok (.inl (s, m, (IntKind.wrap .i64 (i + (1 : Int)))))))))
       (.ok (.inl (s, m, (IntKind.wrap .i64 (i + (1 : Int)))))))
      (.ite ((i == (0 : Int)) = true) (.ok (.inr (.inl s)))
       (.ite ((decide (((s.getD (i).toNat 0).toNat : Int) < (48 : Int))) = true) (.ite ((!(((s.getD (i).toNat 0).toNat : Int) == (95 : Int))) = true) (.ok (.inr (.inl s)))
         (.ok (.inl (s, m, (IntKind.wrap .i64 (i + (1 : Int)))))))
        (.ite ((decide (((s.getD (i).toNat 0).toNat : Int) > (57 : Int))) = true) (.ite ((!(((s.getD (i).toNat 0).toNat : Int) == (95 : Int))) = true) (.ok (.inr (.inl s)))
          (.ok (.inl (s, m, (IntKind.wrap .i64 (i + (1 : Int)))))))
         (.ok (.inl (s, m, (IntKind.wrap .i64 (i + (1 : Int)))))))))))
    (.ite ((decide (((s.getD (i).toNat 0).toNat : Int) ≥ (97 : Int))) = true) (.ite ((!(decide (((s.getD (i).toNat 0).toNat : Int) ≤ (122 : Int)))) = true) (.ite ((i == (0 : Int)) = true) (.ok (.inr (.inl s)))
       (.ite ((decide (((s.getD (i).toNat 0).toNat : Int) < (48 : Int))) = true) (.ite ((!(((s.getD (i).toNat 0).toNat : Int) == (95 : Int))) = true) (.ok (.inr (.inl s)))
         (.ok (.inl (s, m, (IntKind.wrap .i64 (i + (1 : Int)))))))
        (.ite ((decide (((s.getD (i).toNat 0).toNat : Int) > (57 : Int))) = true) (.ite ((!(((s.getD (i).toNat 0).toNat : Int) == (95 : Int))) = true) (.ok (.inr (.inl s)))
          (.ok (.inl (s, m, (IntKind.wrap .i64 (i + (1 : Int)))))))
         (.ok (.inl (s, m, (IntKind.wrap .i64 (i + (1 : Int)))))))))
      (.ok (.inl (s, m, (IntKind.wrap .i64 (i + (1 : Int)))))))
     (.ite ((i == (0 : Int)) = true) (.ok (.inr (.inl s)))
      (.ite ((decide (((s.getD (i).toNat 0).toNat : Int) < (48 : Int))) = true) (.ite ((!(((s.getD (i).toNat 0).toNat : Int) == (95 : Int))) = true) (.ok (.inr (.inl s)))
        (.ok (.inl (s, m, (IntKind.wrap .i64 (i + (1 : Int)))))))
       (.ite ((decide (((s.getD (i).toNat 0).toNat : Int) > (57 : Int))) = true) (.ite ((!(((s.getD (i).toNat 0).toNat : Int) == (95 : Int))) = true) (.ok (.inr (.inl s)))
         (.ok (.inl (s, m, (IntKind.wrap .i64 (i + (1 : Int)))))))
        (.ok (.inl (s, m, (IntKind.wrap .i64 (i + (1 : Int)))))))))))
   .no)
  (.ok (.inr (.inr s))))
noncomputable def impl_IsName_2_st : impl_IsName_2_σ → Tr (impl_IsName_2_σ ⊕ impl_IsName_2_ω) := fun x => (impl_IsName_2_step (x.1) (x.2.1) (x.2.2))
noncomputable def impl_IsName_k2_1 (s : List UInt8) (m : Int) (i : Int) : Bool := sumIs (impl_IsName_R2 s m i)
noncomputable def impl_IsName_o2_2 (s : List UInt8) (m : Int) (i : Int) : Bool := is (i = 0 ∧ s.length ≤ 140737488355328 ∧ m = (s.length : Int))
noncomputable def impl_IsName_u2_2 (s : List UInt8) (m : Int) (i : Int) : List UInt8 := (sumL (impl_IsName_R2 s m i))
noncomputable def impl_IsName_o2_3 (s : List UInt8) (m : Int) (i : Int) : Bool := is (i = 0 ∧ s.length ≤ 140737488355328 ∧ m = (s.length : Int))
noncomputable def impl_IsName_u2_3 (s : List UInt8) (m : Int) (i : Int) : List UInt8 := (sumR (impl_IsName_R2 s m i))
noncomputable def impl_IsName_2_fin (s : List UInt8) (m : Int) (i : Int) : Told impl_IsName_2_ω := (.br (impl_IsName_k2_1 s m i) (.leaf (impl_IsName_o2_2 s m i) (.inl (impl_IsName_u2_2 s m i))) (.leaf (impl_IsName_o2_3 s m i) (.inr (impl_IsName_u2_3 s m i))))
def impl_IsName_2_sl (x : impl_IsName_2_σ) : List Slot := [⟨.val false [⟨.str, .sh, TC.s (x.1)⟩], ⟨0, 0⟩⟩, ⟨.val false [⟨.int .i64, .sh, TC.i (x.2.1)⟩], ⟨0, 0⟩⟩, ⟨.val false [⟨.int .i64, .sh, TC.i (x.2.2)⟩], ⟨0, 0⟩⟩]
def impl_IsName_2_out : impl_IsName_2_ω → Ex × List Slot := (Sum.elim (fun x => (.ret, [⟨.val false [⟨.str, .sh, TC.s x⟩], ⟨0, 0⟩⟩, ⟨.val false [⟨.bool, .sh, TC.b false⟩], ⟨0, 0⟩⟩])) (fun x => (.exit 0, [⟨.val false [⟨.str, .sh, TC.s x⟩], ⟨0, 0⟩⟩, Slot.none])))
noncomputable def impl_IsName_lo2 : List Slot → Option (Told (Ex × List Slot)) := fun s => match s with
  | [⟨.val false [⟨.str, .sh, TC.s s⟩], ⟨0, 0⟩⟩, ⟨.val false [⟨.int .i64, .sh, TC.i m⟩], ⟨0, 0⟩⟩, ⟨.val false [⟨.int .i64, .sh, TC.i i⟩], ⟨0, 0⟩⟩] => some (((impl_IsName_2_fin s m i)).map impl_IsName_2_out)
  | _ => .none
noncomputable def impl_IsName_lo : LoopTeller := fun r s => bif Nat.beq r 2 then impl_IsName_lo2 s else .none
theorem impl_IsName_2_r (s : List UInt8) (m : Int) (i : Int) (fuel : Nat) : rounds (rnd tab FT D10 live 111 impl_IsName_lo 0 2) leave (fuel + 1) (impl_IsName_2_sl (s, m, i)) = ((impl_IsName_2_step s m i)).run (goOn (fun s => rounds (rnd tab FT D10 live 111 impl_IsName_lo 0 2) leave fuel (impl_IsName_2_sl s)) fun w => some (impl_IsName_2_out w)) := by kernel_rfl
theorem impl_IsName_f2_eq (s : List UInt8) (m : Int) (i : Int) : impl_IsName_f2 s m i = bif nameB i ((s.getD (i).toNat 0).toNat : Int) then Sum.inl () else Sum.inr (Sum.inl s) := by
  unfold impl_IsName_f2 nameB letterB
  simp only [dlt, dgt]
  generalize ((s.getD i.toNat 0).toNat : Int) = c
  generalize decide (c ≥ 65) = p0, decide (c ≤ 90) = p1, decide (c ≥ 97) = p2, decide (c ≤ 122) = p3, decide (c ≥ 48) = p4, decide (c ≤ 57) = p5, (c == 95) = p6, (i == 0) = p7
  cases p0 <;> cases p1 <;> cases p2 <;> cases p3 <;> cases p4 <;> cases p5 <;> cases p6 <;> cases p7 <;> rfl
theorem impl_IsName_R2_eq (s : List UInt8) (m : Int)  : impl_IsName_R2 s m 0 = bif allI (fun i : Nat => nameB (i : Int) ((s.getD ((i : Int)).toNat 0).toNat : Int)) (s.length) then Sum.inr s else (Sum.inl s) := by
  unfold impl_IsName_R2
  exact (iter_all (P := (fun i : Nat => nameB (i : Int) ((s.getD ((i : Int)).toNat 0).toNat : Int))) (g := fun _ a => a) (w := Sum.inl s) fun j a _ => impl_IsName_f2_eq s m _)
theorem impl_IsName_2_h (s : List UInt8) (m : Int) (i : Int) (ow : impl_IsName_2_ω) : ((impl_IsName_2_fin s m i)).val = some ow → ∃ fuel, loopN impl_IsName_2_st fuel (s, m, i) = some ow := by
  refine auto_sum (R := (impl_IsName_R2 s m i)) rfl rfl rfl ?_
  intro ho
  have ho : is (i = 0 ∧ s.length ≤ 140737488355328 ∧ m = (s.length : Int)) = true := ho.elim id id
  obtain ⟨rfl, hs, rfl⟩ := is_iff.1 ho
  skip
  refine ⟨(s.length) + 1, ?_⟩
  refine iter_loop (step := impl_IsName_2_st) (s.length) (fun i a => (impl_IsName_f2 s (s.length : Int) (i : Int))) (fun a => (impl_IsName_e2 s (s.length : Int))) (fun i a => (s, (s.length : Int), (i : Int))) (fun _ _ => True) trivial (fun i a hi hI => ⟨?_, fun _ _ => trivial⟩) (fun a hI => ?_)
  · show (impl_IsName_2_step s (s.length : Int) (i : Int)).val = _
    unfold impl_IsName_2_step impl_IsName_f2
    skip
    refine Tr.t (by simp; omega) ?_
    exact (Tr.t (by first | omega | (constructor <;> omega)) (Tr.bf (Tr.bf (by rw [Tr.val_ok, wrap64 (i := (i : Int) + 1) (by omega) (by omega)]; rfl) (Tr.bf (Tr.bf (Tr.bf rfl (Tr.bf (Tr.bf rfl (by rw [Tr.val_ok, wrap64 (i := (i : Int) + 1) (by omega) (by omega)]; rfl)) (Tr.bf (Tr.bf rfl (by rw [Tr.val_ok, wrap64 (i := (i : Int) + 1) (by omega) (by omega)]; rfl)) (by rw [Tr.val_ok, wrap64 (i := (i : Int) + 1) (by omega) (by omega)]; rfl)))) (by rw [Tr.val_ok, wrap64 (i := (i : Int) + 1) (by omega) (by omega)]; rfl)) (Tr.bf rfl (Tr.bf (Tr.bf rfl (by rw [Tr.val_ok, wrap64 (i := (i : Int) + 1) (by omega) (by omega)]; rfl)) (Tr.bf (Tr.bf rfl (by rw [Tr.val_ok, wrap64 (i := (i : Int) + 1) (by omega) (by omega)]; rfl)) (by rw [Tr.val_ok, wrap64 (i := (i : Int) + 1) (by omega) (by omega)]; rfl)))))) (Tr.bf (Tr.bf (Tr.bf rfl (Tr.bf (Tr.bf rfl (by rw [Tr.val_ok, wrap64 (i := (i : Int) + 1) (by omega) (by omega)]; rfl)) (Tr.bf (Tr.bf rfl (by rw [Tr.val_ok, wrap64 (i := (i : Int) + 1) (by omega) (by omega)]; rfl)) (by rw [Tr.val_ok, wrap64 (i := (i : Int) + 1) (by omega) (by omega)]; rfl)))) (by rw [Tr.val_ok, wrap64 (i := (i : Int) + 1) (by omega) (by omega)]; rfl)) (Tr.bf rfl (Tr.bf (Tr.bf rfl (by rw [Tr.val_ok, wrap64 (i := (i : Int) + 1) (by omega) (by omega)]; rfl)) (Tr.bf (Tr.bf rfl (by rw [Tr.val_ok, wrap64 (i := (i : Int) + 1) (by omega) (by omega)]; rfl)) (by rw [Tr.val_ok, wrap64 (i := (i : Int) + 1) (by omega) (by omega)]; rfl)))))))
  · show (impl_IsName_2_step s (s.length : Int) (s.length : Int)).val = _
    refine Tr.n (by first | (simp; done) | (simp; omega) | omega) ?_
    rfl
theorem impl_IsName_is2 : LoopIs tab FT D10 live 111 impl_IsName_lo 0 2 := by
  refine loop_told (sl := impl_IsName_2_sl) (step := impl_IsName_2_st) (out := impl_IsName_2_out) (lor := impl_IsName_lo2) (fin := fun x => (impl_IsName_2_fin (x.1) (x.2.1) (x.2.2))) (fun _ => rfl) ?_ (fun x n => impl_IsName_2_r x.1 x.2.1 x.2.2 n) (fun x ow => impl_IsName_2_h x.1 x.2.1 x.2.2 ow)
  intro s t h
  unfold impl_IsName_lo2 at h
  split at h
  · cases h; exact ⟨(_, _, _), rfl, rfl⟩
  · cases h
noncomputable def impl_IsName_t (s : List UInt8) : Tr (Bool) := (.ite ((impl_IsName_k2_1 s (s.length : Int) (0 : Int)) = true) (.ite ((impl_IsName_o2_2 s (s.length : Int) (0 : Int)) = true) (.ok false)
   .no)
  (.ite ((impl_IsName_o2_3 s (s.length : Int) (0 : Int)) = true) (.ite ((decide (((impl_IsName_u2_3 s (s.length : Int) (0 : Int)).length : Int) ≥ (1 : Int))) = true) (.ok (decide (((impl_IsName_u2_3 s (s.length : Int) (0 : Int)).length : Int) ≤ (12 : Int))))
    (.ok false))
   .no))
def impl_IsName_mk (p : Bool) : Res := [(false, [⟨.bool, .sh, TC.b p⟩])]
noncomputable def impl_IsName_c (s : List UInt8) : Bool := (bif (impl_IsName_k2_1 s (s.length : Int) (0 : Int)) then ((impl_IsName_o2_2 s (s.length : Int) (0 : Int)) && true) else ((impl_IsName_o2_3 s (s.length : Int) (0 : Int)) && (bif (decide (((impl_IsName_u2_3 s (s.length : Int) (0 : Int)).length : Int) ≥ (1 : Int))) then true else true)))
noncomputable def impl_IsName_v (s : List UInt8) : Bool := (bif (impl_IsName_k2_1 s (s.length : Int) (0 : Int)) then false else (bif (decide (((impl_IsName_u2_3 s (s.length : Int) (0 : Int)).length : Int) ≥ (1 : Int))) then (decide (((impl_IsName_u2_3 s (s.length : Int) (0 : Int)).length : Int) ≤ (12 : Int))) else false))
theorem impl_IsName_l (s : List UInt8) : (impl_IsName_c s) = true → (impl_IsName_t s).val = some (impl_IsName_v s) := by
  unfold impl_IsName_t impl_IsName_v impl_IsName_c
  exact fun h => (Tr.ss h (fun h => (Tr.gb h fun h => rfl)) (fun h => (Tr.gb h fun h => (Tr.ss h (fun h => rfl) (fun h => rfl)))))
noncomputable def impl_IsName_S : List Arg → Option (Bool × Res) := fun xs => match xs with
  | [(false, [(.str, TC.s s)])] => some ((impl_IsName_c s), impl_IsName_mk (impl_IsName_v s))
  | _ => .none
theorem impl_IsName_e (s : List UInt8) : runF tab FT D10 live 111 impl_IsName_lo [(false, [(.str, TC.s s)])] = (impl_IsName_t s).run fun p => some (impl_IsName_mk p) := by kernel_rfl
theorem impl_IsName_s : ∀ xs r, impl_IsName_S xs = some (true, r) → runF tab FT D10 live 111 impl_IsName_lo xs = some r := by
  intro xs r h
  unfold impl_IsName_S at h
  split at h
  · simp only [Option.some.injEq, Prod.mk.injEq] at h
    obtain ⟨h1, rfl⟩ := h
    exact fun_told (impl_IsName_e _) (impl_IsName_l _) h1
  · cases h
noncomputable def D11 : Dt := also D10 111 impl_IsName_S
theorem d11 : DOk Go.Proofs.Try.prog tab D11 := d10.also mixed_ok tab_ok names_ok (fnLoops_one (by kernel_rfl) impl_IsName_is2) impl_IsName_s
theorem impl_IsName_cc {s : List UInt8} (hs : Typed tab (.str) (.s s)) : (impl_IsName_c s) = true := by
  unfold impl_IsName_c
  refine bifT (fun b1 => ?_) (fun b1 => ?_)
  · skip
    refine andT (by exact is_true ⟨rfl, by have := typed_str_len hs; omega, rfl⟩) ?_
    rfl
  · skip
    refine andT (by exact is_true ⟨rfl, by have := typed_str_len hs; omega, rfl⟩) ?_
    refine bifT (fun b2 => ?_) (fun b2 => ?_)
    · skip
      rfl
    · skip
      rfl
theorem impl_IsName_vv (s : List UInt8) : impl_IsName_v s = nameOk s := by
  unfold impl_IsName_v impl_IsName_k2_1 impl_IsName_u2_3 nameOk
  rw [impl_IsName_R2_eq]
  generalize allI (fun i : Nat => nameB (i : Int) ((s.getD ((i : Int)).toNat 0).toNat : Int)) s.length = q
  cases q
  · simp [sumIs]
  · show (bif decide ((s.length : Int) ≥ 1) then decide ((s.length : Int) ≤ 12) else false) = (decide ((s.length : Int) ≥ 1) && decide ((s.length : Int) ≤ 12) && true)
    generalize decide ((s.length : Int) ≥ 1) = q1, decide ((s.length : Int) ≤ 12) = q2
    cases q1 <;> cases q2 <;> rfl
/-! impl_ValidHeap_1 -/
noncomputable def impl_ValidHeap_1_t (a0 : List UInt8) : Tr (Bool) := (.ite ((!(a0 == [])) = true) (.ite ((impl_IsName_c a0) = true) (.ok (!(impl_IsName_v a0)))
   .no)
  (.ok false))
def impl_ValidHeap_1_mk (p : Bool) : Res := [(false, [⟨.bool, .sh, TC.b p⟩])]
noncomputable def impl_ValidHeap_1_c (a0 : List UInt8) : Bool := (impl_IsName_c a0)
noncomputable def impl_ValidHeap_1_v (a0 : List UInt8) : Bool := (bif (!(a0 == [])) then (!(impl_IsName_v a0)) else false)
theorem impl_ValidHeap_1_l (a0 : List UInt8) : (impl_ValidHeap_1_c a0) = true → (impl_ValidHeap_1_t a0).val = some (impl_ValidHeap_1_v a0) := by
  intro h
  have g0 : (impl_IsName_c a0) = true := h
  unfold impl_ValidHeap_1_t impl_ValidHeap_1_v
  exact (Tr.s (Tr.t g0 rfl) rfl)
noncomputable def impl_ValidHeap_1_S : List Arg → Option (Bool × Res) := fun xs => match xs with
  | [(false, [(.str, TC.s a0)])] => some ((impl_ValidHeap_1_c a0), impl_ValidHeap_1_mk (impl_ValidHeap_1_v a0))
  | _ => .none
theorem impl_ValidHeap_1_e (a0 : List UInt8) : runF tab FT D11 live 110 noLoops [(false, [(.str, TC.s a0)])] = (impl_ValidHeap_1_t a0).run fun p => some (impl_ValidHeap_1_mk p) := by kernel_rfl
theorem impl_ValidHeap_1_s : ∀ xs r, impl_ValidHeap_1_S xs = some (true, r) → runF tab FT D11 live 110 noLoops xs = some r := by
  intro xs r h
  unfold impl_ValidHeap_1_S at h
  split at h
  · simp only [Option.some.injEq, Prod.mk.injEq] at h
    obtain ⟨h1, rfl⟩ := h
    exact fun_told (impl_ValidHeap_1_e _) (impl_ValidHeap_1_l _) h1
  · cases h
noncomputable def D12 : Dt := also D11 110 impl_ValidHeap_1_S
theorem d12 : DOk Go.Proofs.Try.prog tab D12 := d11.also mixed_ok tab_ok names_ok noLoops_ok impl_ValidHeap_1_s
/-! slices_IndexFunc_string_string -/
abbrev slices_IndexFunc_string_string_2_σ := List (List TC) × Int × Int
abbrev slices_IndexFunc_string_string_2_ω := (Int) ⊕ (Unit)
noncomputable def slices_IndexFunc_string_string_2_step (A : List (List TC)) (m : Int) (i : Int) : Tr (slices_IndexFunc_string_string_2_σ ⊕ slices_IndexFunc_string_string_2_ω) := (.ite ((decide (i < m)) = true) (.ite ((0 : Int) ≤ i ∧ i < (A.length : Int)) (.ite ((impl_ValidHeap_1_c ((nth (row A i) 0).str)) = true) (.ite ((impl_ValidHeap_1_v ((nth (row A i) 0).str)) = true) (.ok (.inr (.inl i)))
     (.ok (.inl (A, m, (IntKind.wrap .i64 (i + (1 : Int)))))))
    .no)
   .no)
  (.ok (.inr (.inr ()))))
noncomputable def slices_IndexFunc_string_string_2_st : slices_IndexFunc_string_string_2_σ → Tr (slices_IndexFunc_string_string_2_σ ⊕ slices_IndexFunc_string_string_2_ω) := fun x => (slices_IndexFunc_string_string_2_step (x.1) (x.2.1) (x.2.2))
noncomputable def slices_IndexFunc_string_string_k2_1 (A : List (List TC)) (m : Int) (i : Int) : Bool := A.all (fun x => !(impl_ValidHeap_1_v ((nth x 0).str)))
noncomputable def slices_IndexFunc_string_string_o2_2 (A : List (List TC)) (m : Int) (i : Int) : Bool := is (i = 0 ∧ Typed tab (.slice 9) (.l A) ∧ m = (A.length : Int))
noncomputable def slices_IndexFunc_string_string_o2_3 (A : List (List TC)) (m : Int) (i : Int) : Bool := is (i = 0 ∧ Typed tab (.slice 9) (.l A) ∧ m = (A.length : Int))
noncomputable def slices_IndexFunc_string_string_u2_3 (A : List (List TC)) (m : Int) (i : Int) : Int := (Int.ofNat (A.findIdx fun x => !(fun x => !(impl_ValidHeap_1_v ((nth x 0).str))) x))
noncomputable def slices_IndexFunc_string_string_2_fin (A : List (List TC)) (m : Int) (i : Int) : Told slices_IndexFunc_string_string_2_ω := (.br (slices_IndexFunc_string_string_k2_1 A m i) (.leaf (slices_IndexFunc_string_string_o2_2 A m i) (.inr ())) (.leaf (slices_IndexFunc_string_string_o2_3 A m i) (.inl (slices_IndexFunc_string_string_u2_3 A m i))))
def slices_IndexFunc_string_string_2_sl (x : slices_IndexFunc_string_string_2_σ) : List Slot := [⟨.val false [⟨.slice 9, .sh, TC.l (x.1)⟩], ⟨0, 0⟩⟩, ⟨.val false [⟨.func, .sh, TC.f 110 []⟩], ⟨0, 0⟩⟩, ⟨.val false [⟨.int .i64, .sh, TC.i (x.2.1)⟩], ⟨0, 0⟩⟩, ⟨.val false [⟨.int .i64, .sh, TC.i (x.2.2)⟩], ⟨0, 0⟩⟩]
def slices_IndexFunc_string_string_2_out : slices_IndexFunc_string_string_2_ω → Ex × List Slot := (Sum.elim (fun x => (.ret, [⟨.val false [⟨.int .i64, .sh, TC.i x⟩], ⟨0, 0⟩⟩])) (fun x => (.exit 0, [Slot.none])))
noncomputable def slices_IndexFunc_string_string_lo2 : List Slot → Option (Told (Ex × List Slot)) := fun s => match s with
  | [⟨.val false [⟨.slice 9, .sh, TC.l A⟩], ⟨0, 0⟩⟩, ⟨.val false [⟨.func, .sh, TC.f 110 []⟩], ⟨0, 0⟩⟩, ⟨.val false [⟨.int .i64, .sh, TC.i m⟩], ⟨0, 0⟩⟩, ⟨.val false [⟨.int .i64, .sh, TC.i i⟩], ⟨0, 0⟩⟩] => some (((slices_IndexFunc_string_string_2_fin A m i)).map slices_IndexFunc_string_string_2_out)
  | _ => .none
noncomputable def slices_IndexFunc_string_string_lo : LoopTeller := fun r s => bif Nat.beq r 2 then slices_IndexFunc_string_string_lo2 s else .none
theorem slices_IndexFunc_string_string_2_r (A : List (List TC)) (m : Int) (i : Int) (fuel : Nat) : rounds (rnd tab FT D12 live 139 slices_IndexFunc_string_string_lo 0 2) leave (fuel + 1) (slices_IndexFunc_string_string_2_sl (A, m, i)) = ((slices_IndexFunc_string_string_2_step A m i)).run (goOn (fun s => rounds (rnd tab FT D12 live 139 slices_IndexFunc_string_string_lo 0 2) leave fuel (slices_IndexFunc_string_string_2_sl s)) fun w => some (slices_IndexFunc_string_string_2_out w)) := by kernel_rfl
theorem slices_IndexFunc_string_string_2_h (A : List (List TC)) (m : Int) (i : Int) (ow : slices_IndexFunc_string_string_2_ω) : ((slices_IndexFunc_string_string_2_fin A m i)).val = some ow → ∃ fuel, loopN slices_IndexFunc_string_string_2_st fuel (A, m, i) = some ow := by
  intro h
  have key : Typed tab (.slice 9) (.l A) → loopN slices_IndexFunc_string_string_2_st (A.length + 1) (A, (A.length : Int), (0 : Int)) = some (if A.all (fun x => !(impl_ValidHeap_1_v ((nth x 0).str))) = true then (.inr ()) else (.inl (Int.ofNat (A.findIdx fun x => !(fun x => !(impl_ValidHeap_1_v ((nth x 0).str))) x)))) := by
    intro ht
    have hlen : A.length ≤ 140737488351232 := by have := typed_room ht; simp only [show (tab 9).bytes = 16 from rfl] at this; omega
    have key := loopN_scan (step := slices_IndexFunc_string_string_2_st) A [] (fun x => !(impl_ValidHeap_1_v ((nth x 0).str))) (fun a _ => a) (fun i a => (A, (A.length : Int), (i : Int))) (fun a => (.inr ())) (fun i a => (.inl (i : Int))) (fun i a hi => ?_) (fun a => ?_) A.length 0 () (by omega)
    · first | (rw [Nat.zero_add] at key; exact key) | exact key
    · have c0 : Typed tab (.str) (.s (nth (A.getD i []) 0).str) := typed_s (typed_cell ht (A.getD i []) (mem_getD hi) 0 (by decide))
      show (slices_IndexFunc_string_string_2_step A (A.length : Int) (i : Int)).val = _
      unfold slices_IndexFunc_string_string_2_step
      refine Tr.t (by simp; omega) ?_
      skip
      refine Tr.t (by first | omega | (constructor <;> omega)) ?_
      refine Tr.t (by first | (apply is_true; and_intros <;> (first | rfl | assumption | (apply spec_IsName_cc <;> assumption) | (apply spec_l16Ok_cc <;> assumption) | (apply spec_l16Encode_cc <;> assumption) | (apply spec_EncodeHeap_cc <;> assumption) | (apply impl_IsName_cc <;> assumption) | (first | (apply is_true; and_intros <;> (first | rfl | assumption | (apply spec_IsName_cc <;> assumption) | (apply spec_l16Ok_cc <;> assumption) | (apply spec_l16Encode_cc <;> assumption) | (apply spec_EncodeHeap_cc <;> assumption) | (apply impl_IsName_cc <;> assumption) | (first | (apply is_true; and_intros <;> (first | rfl | assumption | (apply spec_IsName_cc <;> assumption) | (apply spec_l16Ok_cc <;> assumption) | (apply spec_l16Encode_cc <;> assumption) | (apply spec_EncodeHeap_cc <;> assumption) | (apply impl_IsName_cc <;> assumption) | (first | (apply is_true; and_intros <;> (first | rfl | assumption | (apply spec_IsName_cc <;> assumption) | (apply spec_l16Ok_cc <;> assumption) | (apply spec_l16Encode_cc <;> assumption) | (apply spec_EncodeHeap_cc <;> assumption) | (apply impl_IsName_cc <;> assumption))) | (apply spec_IsName_cc <;> assumption) | (apply spec_l16Ok_cc <;> assumption) | (apply spec_l16Encode_cc <;> assumption) | (apply spec_EncodeHeap_cc <;> assumption) | (apply impl_IsName_cc <;> assumption)))) | (apply spec_IsName_cc <;> assumption) | (apply spec_l16Ok_cc <;> assumption) | (apply spec_l16Encode_cc <;> assumption) | (apply spec_EncodeHeap_cc <;> assumption) | (apply impl_IsName_cc <;> assumption)))) | (apply spec_IsName_cc <;> assumption) | (apply spec_l16Ok_cc <;> assumption) | (apply spec_l16Encode_cc <;> assumption) | (apply spec_EncodeHeap_cc <;> assumption) | (apply impl_IsName_cc <;> assumption)))) | (apply spec_IsName_cc <;> assumption) | (apply spec_l16Ok_cc <;> assumption) | (apply spec_l16Encode_cc <;> assumption) | (apply spec_EncodeHeap_cc <;> assumption) | (apply impl_IsName_cc <;> assumption)) ?_
      refine Tr.b2 (fun hP => ?_) (fun _ => rfl)
      rw [Tr.val_ok, wrap64 (i := (i : Int) + 1) (by omega) (by omega)]; rfl
    · show (slices_IndexFunc_string_string_2_step A (A.length : Int) (A.length : Int)).val = _
      refine Tr.n (by simp) ?_
      rfl
  simp only [slices_IndexFunc_string_string_2_fin, Told.val] at h
  cases hk : A.all (fun x => !(impl_ValidHeap_1_v ((nth x 0).str))) with
  | true =>
    rw [if_pos (show slices_IndexFunc_string_string_k2_1 A m i = true from hk)] at h
    split at h
    · rename_i ho
      obtain ⟨rfl, ht, rfl⟩ := is_iff.1 ho
      cases h
      refine ⟨_, (key ht).trans ?_⟩
      rw [hk]; rfl
    · cases h
  | false =>
    rw [if_neg (show ¬slices_IndexFunc_string_string_k2_1 A m i = true from by rw [show slices_IndexFunc_string_string_k2_1 A m i = (A.all (fun x => !(impl_ValidHeap_1_v ((nth x 0).str)))) from rfl, hk]; simp)] at h
    split at h
    · rename_i ho
      obtain ⟨rfl, ht, rfl⟩ := is_iff.1 ho
      cases h
      refine ⟨_, (key ht).trans ?_⟩
      rw [hk]; rfl
    · cases h
theorem slices_IndexFunc_string_string_is2 : LoopIs tab FT D12 live 139 slices_IndexFunc_string_string_lo 0 2 := by
  refine loop_told (sl := slices_IndexFunc_string_string_2_sl) (step := slices_IndexFunc_string_string_2_st) (out := slices_IndexFunc_string_string_2_out) (lor := slices_IndexFunc_string_string_lo2) (fin := fun x => (slices_IndexFunc_string_string_2_fin (x.1) (x.2.1) (x.2.2))) (fun _ => rfl) ?_ (fun x n => slices_IndexFunc_string_string_2_r x.1 x.2.1 x.2.2 n) (fun x ow => slices_IndexFunc_string_string_2_h x.1 x.2.1 x.2.2 ow)
  intro s t h
  unfold slices_IndexFunc_string_string_lo2 at h
  split at h
  · cases h; exact ⟨(_, _, _), rfl, rfl⟩
  · cases h
noncomputable def slices_IndexFunc_string_string_t (A : List (List TC)) : Tr (Int) := (.ite ((slices_IndexFunc_string_string_k2_1 A (A.length : Int) (0 : Int)) = true) (.ite ((slices_IndexFunc_string_string_o2_2 A (A.length : Int) (0 : Int)) = true) (.ok (-1 : Int))
   .no)
  (.ite ((slices_IndexFunc_string_string_o2_3 A (A.length : Int) (0 : Int)) = true) (.ok (slices_IndexFunc_string_string_u2_3 A (A.length : Int) (0 : Int)))
   .no))
def slices_IndexFunc_string_string_mk (p : Int) : Res := [(false, [⟨.int .i64, .sh, TC.i p⟩])]
noncomputable def slices_IndexFunc_string_string_c (A : List (List TC)) : Bool := is (Typed tab (.slice 9) (.l A))
noncomputable def slices_IndexFunc_string_string_v (A : List (List TC)) : Int := if (A.all (fun x => !(impl_ValidHeap_1_v ((nth x 0).str)))) = true then -1 else (Int.ofNat (A.findIdx fun x => !(fun x => !(impl_ValidHeap_1_v ((nth x 0).str))) x))
theorem slices_IndexFunc_string_string_l (A : List (List TC)) : (slices_IndexFunc_string_string_c A) = true → (slices_IndexFunc_string_string_t A).val = some (slices_IndexFunc_string_string_v A) := by
  intro h
  have ht := is_iff.1 h
  unfold slices_IndexFunc_string_string_t
  cases hk : A.all (fun x => !(impl_ValidHeap_1_v ((nth x 0).str))) with
  | true =>
    refine Tr.t (show A.all (fun x => !(impl_ValidHeap_1_v ((nth x 0).str))) = true from hk) ?_
    refine Tr.t (by first | (apply is_true; and_intros <;> (first | rfl | assumption | (apply spec_IsName_cc <;> assumption) | (apply spec_l16Ok_cc <;> assumption) | (apply spec_l16Encode_cc <;> assumption) | (apply spec_EncodeHeap_cc <;> assumption) | (apply impl_IsName_cc <;> assumption) | (first | (apply is_true; and_intros <;> (first | rfl | assumption | (apply spec_IsName_cc <;> assumption) | (apply spec_l16Ok_cc <;> assumption) | (apply spec_l16Encode_cc <;> assumption) | (apply spec_EncodeHeap_cc <;> assumption) | (apply impl_IsName_cc <;> assumption) | (first | (apply is_true; and_intros <;> (first | rfl | assumption | (apply spec_IsName_cc <;> assumption) | (apply spec_l16Ok_cc <;> assumption) | (apply spec_l16Encode_cc <;> assumption) | (apply spec_EncodeHeap_cc <;> assumption) | (apply impl_IsName_cc <;> assumption) | (first | (apply is_true; and_intros <;> (first | rfl | assumption | (apply spec_IsName_cc <;> assumption) | (apply spec_l16Ok_cc <;> assumption) | (apply spec_l16Encode_cc <;> assumption) | (apply spec_EncodeHeap_cc <;> assumption) | (apply impl_IsName_cc <;> assumption))) | (apply spec_IsName_cc <;> assumption) | (apply spec_l16Ok_cc <;> assumption) | (apply spec_l16Encode_cc <;> assumption) | (apply spec_EncodeHeap_cc <;> assumption) | (apply impl_IsName_cc <;> assumption)))) | (apply spec_IsName_cc <;> assumption) | (apply spec_l16Ok_cc <;> assumption) | (apply spec_l16Encode_cc <;> assumption) | (apply spec_EncodeHeap_cc <;> assumption) | (apply impl_IsName_cc <;> assumption)))) | (apply spec_IsName_cc <;> assumption) | (apply spec_l16Ok_cc <;> assumption) | (apply spec_l16Encode_cc <;> assumption) | (apply spec_EncodeHeap_cc <;> assumption) | (apply impl_IsName_cc <;> assumption)))) | (apply spec_IsName_cc <;> assumption) | (apply spec_l16Ok_cc <;> assumption) | (apply spec_l16Encode_cc <;> assumption) | (apply spec_EncodeHeap_cc <;> assumption) | (apply impl_IsName_cc <;> assumption)) ?_
    show _ = some (slices_IndexFunc_string_string_v A ); unfold slices_IndexFunc_string_string_v; rw [if_pos hk]; rfl
  | false =>
    refine Tr.n (show ¬A.all (fun x => !(impl_ValidHeap_1_v ((nth x 0).str))) = true from by rw [hk]; simp) ?_
    refine Tr.t (by first | (apply is_true; and_intros <;> (first | rfl | assumption | (apply spec_IsName_cc <;> assumption) | (apply spec_l16Ok_cc <;> assumption) | (apply spec_l16Encode_cc <;> assumption) | (apply spec_EncodeHeap_cc <;> assumption) | (apply impl_IsName_cc <;> assumption) | (first | (apply is_true; and_intros <;> (first | rfl | assumption | (apply spec_IsName_cc <;> assumption) | (apply spec_l16Ok_cc <;> assumption) | (apply spec_l16Encode_cc <;> assumption) | (apply spec_EncodeHeap_cc <;> assumption) | (apply impl_IsName_cc <;> assumption) | (first | (apply is_true; and_intros <;> (first | rfl | assumption | (apply spec_IsName_cc <;> assumption) | (apply spec_l16Ok_cc <;> assumption) | (apply spec_l16Encode_cc <;> assumption) | (apply spec_EncodeHeap_cc <;> assumption) | (apply impl_IsName_cc <;> assumption) | (first | (apply is_true; and_intros <;> (first | rfl | assumption | (apply spec_IsName_cc <;> assumption) | (apply spec_l16Ok_cc <;> assumption) | (apply spec_l16Encode_cc <;> assumption) | (apply spec_EncodeHeap_cc <;> assumption) | (apply impl_IsName_cc <;> assumption))) | (apply spec_IsName_cc <;> assumption) | (apply spec_l16Ok_cc <;> assumption) | (apply spec_l16Encode_cc <;> assumption) | (apply spec_EncodeHeap_cc <;> assumption) | (apply impl_IsName_cc <;> assumption)))) | (apply spec_IsName_cc <;> assumption) | (apply spec_l16Ok_cc <;> assumption) | (apply spec_l16Encode_cc <;> assumption) | (apply spec_EncodeHeap_cc <;> assumption) | (apply impl_IsName_cc <;> assumption)))) | (apply spec_IsName_cc <;> assumption) | (apply spec_l16Ok_cc <;> assumption) | (apply spec_l16Encode_cc <;> assumption) | (apply spec_EncodeHeap_cc <;> assumption) | (apply impl_IsName_cc <;> assumption)))) | (apply spec_IsName_cc <;> assumption) | (apply spec_l16Ok_cc <;> assumption) | (apply spec_l16Encode_cc <;> assumption) | (apply spec_EncodeHeap_cc <;> assumption) | (apply impl_IsName_cc <;> assumption)) ?_
    show _ = some (slices_IndexFunc_string_string_v A ); unfold slices_IndexFunc_string_string_v; rw [if_neg (by rw [hk]; simp)]; rfl
noncomputable def slices_IndexFunc_string_string_S : List Arg → Option (Bool × Res) := fun xs => match xs with
  | [(false, [(.slice 9, TC.l A)]), (false, [(.func, TC.f 110 [])])] => some ((slices_IndexFunc_string_string_c A), slices_IndexFunc_string_string_mk (slices_IndexFunc_string_string_v A))
  | _ => .none
theorem slices_IndexFunc_string_string_e (A : List (List TC)) : runF tab FT D12 live 139 slices_IndexFunc_string_string_lo [(false, [(.slice 9, TC.l A)]), (false, [(.func, TC.f 110 [])])] = (slices_IndexFunc_string_string_t A).run fun p => some (slices_IndexFunc_string_string_mk p) := by kernel_rfl
theorem slices_IndexFunc_string_string_s : ∀ xs r, slices_IndexFunc_string_string_S xs = some (true, r) → runF tab FT D12 live 139 slices_IndexFunc_string_string_lo xs = some r := by
  intro xs r h
  unfold slices_IndexFunc_string_string_S at h
  split at h
  · simp only [Option.some.injEq, Prod.mk.injEq] at h
    obtain ⟨h1, rfl⟩ := h
    exact fun_told (slices_IndexFunc_string_string_e _) (slices_IndexFunc_string_string_l _) h1
  · cases h
noncomputable def D13 : Dt := also D12 139 slices_IndexFunc_string_string_S
theorem d13 : DOk Go.Proofs.Try.prog tab D13 := d12.also mixed_ok tab_ok names_ok (fnLoops_one (by kernel_rfl) slices_IndexFunc_string_string_is2) slices_IndexFunc_string_string_s
/-! slices_ContainsFunc_string_string -/
noncomputable def slices_ContainsFunc_string_string_t (A : List (List TC)) : Tr (Bool) := (.ite ((slices_IndexFunc_string_string_c A) = true) (.ok (decide ((slices_IndexFunc_string_string_v A) ≥ (0 : Int))))
  .no)
def slices_ContainsFunc_string_string_mk (p : Bool) : Res := [(false, [⟨.bool, .sh, TC.b p⟩])]
noncomputable def slices_ContainsFunc_string_string_c (A : List (List TC)) : Bool := is (Typed tab (.slice 9) (.l A))
noncomputable def slices_ContainsFunc_string_string_v (A : List (List TC)) : Bool := !(A.all (fun x => !(impl_ValidHeap_1_v ((nth x 0).str))))
theorem slices_ContainsFunc_string_string_l (A : List (List TC)) : (slices_ContainsFunc_string_string_c A) = true → (slices_ContainsFunc_string_string_t A).val = some (slices_ContainsFunc_string_string_v A) := by
  intro h
  have ht := is_iff.1 h
  unfold slices_ContainsFunc_string_string_t
  refine Tr.t (by first | (apply is_true; and_intros <;> (first | rfl | assumption | (apply spec_IsName_cc <;> assumption) | (apply spec_l16Ok_cc <;> assumption) | (apply spec_l16Encode_cc <;> assumption) | (apply spec_EncodeHeap_cc <;> assumption) | (apply impl_IsName_cc <;> assumption) | (first | (apply is_true; and_intros <;> (first | rfl | assumption | (apply spec_IsName_cc <;> assumption) | (apply spec_l16Ok_cc <;> assumption) | (apply spec_l16Encode_cc <;> assumption) | (apply spec_EncodeHeap_cc <;> assumption) | (apply impl_IsName_cc <;> assumption) | (first | (apply is_true; and_intros <;> (first | rfl | assumption | (apply spec_IsName_cc <;> assumption) | (apply spec_l16Ok_cc <;> assumption) | (apply spec_l16Encode_cc <;> assumption) | (apply spec_EncodeHeap_cc <;> assumption) | (apply impl_IsName_cc <;> assumption) | (first | (apply is_true; and_intros <;> (first | rfl | assumption | (apply spec_IsName_cc <;> assumption) | (apply spec_l16Ok_cc <;> assumption) | (apply spec_l16Encode_cc <;> assumption) | (apply spec_EncodeHeap_cc <;> assumption) | (apply impl_IsName_cc <;> assumption))) | (apply spec_IsName_cc <;> assumption) | (apply spec_l16Ok_cc <;> assumption) | (apply spec_l16Encode_cc <;> assumption) | (apply spec_EncodeHeap_cc <;> assumption) | (apply impl_IsName_cc <;> assumption)))) | (apply spec_IsName_cc <;> assumption) | (apply spec_l16Ok_cc <;> assumption) | (apply spec_l16Encode_cc <;> assumption) | (apply spec_EncodeHeap_cc <;> assumption) | (apply impl_IsName_cc <;> assumption)))) | (apply spec_IsName_cc <;> assumption) | (apply spec_l16Ok_cc <;> assumption) | (apply spec_l16Encode_cc <;> assumption) | (apply spec_EncodeHeap_cc <;> assumption) | (apply impl_IsName_cc <;> assumption)))) | (apply spec_IsName_cc <;> assumption) | (apply spec_l16Ok_cc <;> assumption) | (apply spec_l16Encode_cc <;> assumption) | (apply spec_EncodeHeap_cc <;> assumption) | (apply impl_IsName_cc <;> assumption)) ?_
  show some (decide (slices_IndexFunc_string_string_v A  ≥ 0)) = some (!(A.all (fun x => !(impl_ValidHeap_1_v ((nth x 0).str)))))
  unfold slices_IndexFunc_string_string_v
  cases hk : A.all (fun x => !(impl_ValidHeap_1_v ((nth x 0).str))) <;> simp
noncomputable def slices_ContainsFunc_string_string_S : List Arg → Option (Bool × Res) := fun xs => match xs with
  | [(false, [(.slice 9, TC.l A)]), (false, [(.func, TC.f 110 [])])] => some ((slices_ContainsFunc_string_string_c A), slices_ContainsFunc_string_string_mk (slices_ContainsFunc_string_string_v A))
  | _ => .none
theorem slices_ContainsFunc_string_string_e (A : List (List TC)) : runF tab FT D13 live 109 noLoops [(false, [(.slice 9, TC.l A)]), (false, [(.func, TC.f 110 [])])] = (slices_ContainsFunc_string_string_t A).run fun p => some (slices_ContainsFunc_string_string_mk p) := by kernel_rfl
theorem slices_ContainsFunc_string_string_s : ∀ xs r, slices_ContainsFunc_string_string_S xs = some (true, r) → runF tab FT D13 live 109 noLoops xs = some r := by
  intro xs r h
  unfold slices_ContainsFunc_string_string_S at h
  split at h
  · simp only [Option.some.injEq, Prod.mk.injEq] at h
    obtain ⟨h1, rfl⟩ := h
    exact fun_told (slices_ContainsFunc_string_string_e _) (slices_ContainsFunc_string_string_l _) h1
  · cases h
noncomputable def D14 : Dt := also D13 109 slices_ContainsFunc_string_string_S
theorem d14 : DOk Go.Proofs.Try.prog tab D14 := d13.also mixed_ok tab_ok names_ok noLoops_ok slices_ContainsFunc_string_string_s
/-! impl_ValidHeap -/
noncomputable def impl_ValidHeap_t (A : List (List TC)) : Tr (Bool) := (.ite ((decide ((A.length : Int) ≤ (30 : Int))) = true) (.ite (((A.length : Int) == (0 : Int)) = true) (.ite ((slices_ContainsFunc_string_string_c A) = true) (.ok (!(slices_ContainsFunc_string_string_v A)))
    .no)
   (.ite ((0 : Int) ≤ (IntKind.wrap .i64 ((A.length : Int) - (1 : Int))) ∧ (IntKind.wrap .i64 ((A.length : Int) - (1 : Int))) < (A.length : Int)) (.ite ((!((nth (row A (IntKind.wrap .i64 ((A.length : Int) - (1 : Int)))) 0).str == [])) = true) (.ite ((slices_ContainsFunc_string_string_c A) = true) (.ok (!(slices_ContainsFunc_string_string_v A)))
      .no)
     (.ok false))
    .no))
  (.ok false))
def impl_ValidHeap_mk (p : Bool) : Res := [(false, [⟨.bool, .sh, TC.b p⟩])]
noncomputable def impl_ValidHeap_c (A : List (List TC)) : Bool := (bif (decide ((A.length : Int) ≤ (30 : Int))) then (bif ((A.length : Int) == (0 : Int)) then ((slices_ContainsFunc_string_string_c A) && true) else (is ((0 : Int) ≤ (IntKind.wrap .i64 ((A.length : Int) - (1 : Int))) ∧ (IntKind.wrap .i64 ((A.length : Int) - (1 : Int))) < (A.length : Int)) && (bif (!((nth (row A (IntKind.wrap .i64 ((A.length : Int) - (1 : Int)))) 0).str == [])) then ((slices_ContainsFunc_string_string_c A) && true) else true))) else true)
noncomputable def impl_ValidHeap_v (A : List (List TC)) : Bool := (bif (decide ((A.length : Int) ≤ (30 : Int))) then (bif ((A.length : Int) == (0 : Int)) then (!(slices_ContainsFunc_string_string_v A)) else (bif (!((nth (row A (IntKind.wrap .i64 ((A.length : Int) - (1 : Int)))) 0).str == [])) then (!(slices_ContainsFunc_string_string_v A)) else false)) else false)
theorem impl_ValidHeap_l (A : List (List TC)) : (impl_ValidHeap_c A) = true → (impl_ValidHeap_t A).val = some (impl_ValidHeap_v A) := by
  unfold impl_ValidHeap_t impl_ValidHeap_v impl_ValidHeap_c
  exact fun h => (Tr.ss h (fun h => (Tr.ss h (fun h => (Tr.gb h fun h => rfl)) (fun h => (Tr.gs h fun h => (Tr.ss h (fun h => (Tr.gb h fun h => rfl)) (fun h => rfl)))))) (fun h => rfl))
noncomputable def impl_ValidHeap_S : List Arg → Option (Bool × Res) := fun xs => match xs with
  | [(true, [(.slice 9, TC.l A)])] => some ((impl_ValidHeap_c A), impl_ValidHeap_mk (impl_ValidHeap_v A))
  | _ => .none
theorem impl_ValidHeap_e (A : List (List TC)) : runF tab FT D14 live 69 noLoops [(true, [(.slice 9, TC.l A)])] = (impl_ValidHeap_t A).run fun p => some (impl_ValidHeap_mk p) := by kernel_rfl
theorem impl_ValidHeap_s : ∀ xs r, impl_ValidHeap_S xs = some (true, r) → runF tab FT D14 live 69 noLoops xs = some r := by
  intro xs r h
  unfold impl_ValidHeap_S at h
  split at h
  · simp only [Option.some.injEq, Prod.mk.injEq] at h
    obtain ⟨h1, rfl⟩ := h
    exact fun_told (impl_ValidHeap_e _) (impl_ValidHeap_l _) h1
  · cases h
noncomputable def D15 : Dt := also D14 69 impl_ValidHeap_S
theorem d15 : DOk Go.Proofs.Try.prog tab D15 := d14.also mixed_ok tab_ok names_ok noLoops_ok impl_ValidHeap_s
theorem impl_ValidHeap_cc {A : List (List TC)} (hA : Typed tab (.slice 9) (.l A)) : (impl_ValidHeap_c A) = true := by
  unfold impl_ValidHeap_c
  refine bifT (fun b1 => ?_) (fun b1 => ?_)
  · skip
    refine bifT (fun b2 => ?_) (fun b2 => ?_)
    · skip
      refine andT (by first | (apply is_true; and_intros <;> (first | rfl | assumption | (apply spec_IsName_cc <;> assumption) | (apply spec_l16Ok_cc <;> assumption) | (apply spec_l16Encode_cc <;> assumption) | (apply spec_EncodeHeap_cc <;> assumption) | (apply impl_IsName_cc <;> assumption) | (first | (apply is_true; and_intros <;> (first | rfl | assumption | (apply spec_IsName_cc <;> assumption) | (apply spec_l16Ok_cc <;> assumption) | (apply spec_l16Encode_cc <;> assumption) | (apply spec_EncodeHeap_cc <;> assumption) | (apply impl_IsName_cc <;> assumption) | (first | (apply is_true; and_intros <;> (first | rfl | assumption | (apply spec_IsName_cc <;> assumption) | (apply spec_l16Ok_cc <;> assumption) | (apply spec_l16Encode_cc <;> assumption) | (apply spec_EncodeHeap_cc <;> assumption) | (apply impl_IsName_cc <;> assumption) | (first | (apply is_true; and_intros <;> (first | rfl | assumption | (apply spec_IsName_cc <;> assumption) | (apply spec_l16Ok_cc <;> assumption) | (apply spec_l16Encode_cc <;> assumption) | (apply spec_EncodeHeap_cc <;> assumption) | (apply impl_IsName_cc <;> assumption))) | (apply spec_IsName_cc <;> assumption) | (apply spec_l16Ok_cc <;> assumption) | (apply spec_l16Encode_cc <;> assumption) | (apply spec_EncodeHeap_cc <;> assumption) | (apply impl_IsName_cc <;> assumption)))) | (apply spec_IsName_cc <;> assumption) | (apply spec_l16Ok_cc <;> assumption) | (apply spec_l16Encode_cc <;> assumption) | (apply spec_EncodeHeap_cc <;> assumption) | (apply impl_IsName_cc <;> assumption)))) | (apply spec_IsName_cc <;> assumption) | (apply spec_l16Ok_cc <;> assumption) | (apply spec_l16Encode_cc <;> assumption) | (apply spec_EncodeHeap_cc <;> assumption) | (apply impl_IsName_cc <;> assumption)))) | (apply spec_IsName_cc <;> assumption) | (apply spec_l16Ok_cc <;> assumption) | (apply spec_l16Encode_cc <;> assumption) | (apply spec_EncodeHeap_cc <;> assumption) | (apply impl_IsName_cc <;> assumption)) ?_
      rfl
    · skip
      refine andT (is_true (by have hl := typed_room hA; simp only [show (tab 9).bytes = 16 from rfl] at hl; have hb := of_decide_eq_true b1; have hc := ne_of_beq_false b2; rw [wrap64 (by omega) (by omega)]; constructor <;> omega)) ?_
      refine bifT (fun b3 => ?_) (fun b3 => ?_)
      · skip
        refine andT (by first | (apply is_true; and_intros <;> (first | rfl | assumption | (apply spec_IsName_cc <;> assumption) | (apply spec_l16Ok_cc <;> assumption) | (apply spec_l16Encode_cc <;> assumption) | (apply spec_EncodeHeap_cc <;> assumption) | (apply impl_IsName_cc <;> assumption) | (first | (apply is_true; and_intros <;> (first | rfl | assumption | (apply spec_IsName_cc <;> assumption) | (apply spec_l16Ok_cc <;> assumption) | (apply spec_l16Encode_cc <;> assumption) | (apply spec_EncodeHeap_cc <;> assumption) | (apply impl_IsName_cc <;> assumption) | (first | (apply is_true; and_intros <;> (first | rfl | assumption | (apply spec_IsName_cc <;> assumption) | (apply spec_l16Ok_cc <;> assumption) | (apply spec_l16Encode_cc <;> assumption) | (apply spec_EncodeHeap_cc <;> assumption) | (apply impl_IsName_cc <;> assumption) | (first | (apply is_true; and_intros <;> (first | rfl | assumption | (apply spec_IsName_cc <;> assumption) | (apply spec_l16Ok_cc <;> assumption) | (apply spec_l16Encode_cc <;> assumption) | (apply spec_EncodeHeap_cc <;> assumption) | (apply impl_IsName_cc <;> assumption))) | (apply spec_IsName_cc <;> assumption) | (apply spec_l16Ok_cc <;> assumption) | (apply spec_l16Encode_cc <;> assumption) | (apply spec_EncodeHeap_cc <;> assumption) | (apply impl_IsName_cc <;> assumption)))) | (apply spec_IsName_cc <;> assumption) | (apply spec_l16Ok_cc <;> assumption) | (apply spec_l16Encode_cc <;> assumption) | (apply spec_EncodeHeap_cc <;> assumption) | (apply impl_IsName_cc <;> assumption)))) | (apply spec_IsName_cc <;> assumption) | (apply spec_l16Ok_cc <;> assumption) | (apply spec_l16Encode_cc <;> assumption) | (apply spec_EncodeHeap_cc <;> assumption) | (apply impl_IsName_cc <;> assumption)))) | (apply spec_IsName_cc <;> assumption) | (apply spec_l16Ok_cc <;> assumption) | (apply spec_l16Encode_cc <;> assumption) | (apply spec_EncodeHeap_cc <;> assumption) | (apply impl_IsName_cc <;> assumption)) ?_
        rfl
      · skip
        rfl
  · skip
    rfl
theorem impl_ValidHeap_vv (A : List (List TC)) : impl_ValidHeap_v A = heapOk A := by
  unfold impl_ValidHeap_v slices_ContainsFunc_string_string_v
  rw [show (fun x : List TC => !(impl_ValidHeap_1_v (nth x 0).str)) = slotNameOk from by
    funext x
    unfold impl_ValidHeap_1_v slotNameOk
    rw [impl_IsName_vv]
    cases ((nth x 0).str == []) <;> cases nameOk (nth x 0).str <;> rfl]
  unfold heapOk lastEmpty
  generalize decide ((A.length : Int) ≤ 30) = p1, ((A.length : Int) == 0) = p2, ((nth (row A (IntKind.wrap .i64 ((A.length : Int) - (1 : Int)))) 0).str == []) = p3, A.all slotNameOk = p4
  cases p1 <;> cases p2 <;> cases p3 <;> cases p4 <;> rfl
/-! impl_putBytes -/
abbrev impl_putBytes_3_σ := Int × List (List TC) × Int × Int
abbrev impl_putBytes_3_ω := (List (List TC))
noncomputable def impl_putBytes_3_step (n : Int) (X : List (List TC)) (m : Int) (k : Int) : Tr (impl_putBytes_3_σ ⊕ impl_putBytes_3_ω) := (.ite ((decide (k < m)) = true) (.ite (0 ≤ (IntKind.wrap .i64 ((8 : Int) * k))) (.ite ((0 : Int) ≤ k ∧ k < (X.length : Int)) (.ok (.inl (n, (X.set (k).toNat (splice (row X k) 0 [TC.i (IntKind.wrap .u8 (Int.fdiv n (2 ^ (min ((IntKind.wrap .i64 ((8 : Int) * k))).toNat 64))))])), m, (IntKind.wrap .i64 (k + (1 : Int))))))
    .no)
   .no)
  (.ok (.inr X)))
noncomputable def impl_putBytes_3_st : impl_putBytes_3_σ → Tr (impl_putBytes_3_σ ⊕ impl_putBytes_3_ω) := fun x => (impl_putBytes_3_step (x.1) (x.2.1) (x.2.2.1) (x.2.2.2))
noncomputable def impl_putBytes_o3_1 (n : Int) (X : List (List TC)) (m : Int) (k : Int) : Bool := is (∃ sz : Nat, m = (sz : Int) ∧ sz ≤ 8 ∧ X = List.replicate sz [TC.i 0] ∧ k = 0)
noncomputable def impl_putBytes_u3_1 (n : Int) (X : List (List TC)) (m : Int) (k : Int) : List (List TC) := bRows n m.toNat
noncomputable def impl_putBytes_3_fin (n : Int) (X : List (List TC)) (m : Int) (k : Int) : Told impl_putBytes_3_ω := (.leaf (impl_putBytes_o3_1 n X m k) (impl_putBytes_u3_1 n X m k))
def impl_putBytes_3_sl (x : impl_putBytes_3_σ) : List Slot := [⟨.val false [⟨.int .i64, .sh, TC.i (x.1)⟩], ⟨0, 0⟩⟩, ⟨.val false [⟨.slice 5, .own true, TC.l (x.2.1)⟩], ⟨0, 0⟩⟩, ⟨.val false [⟨.int .i64, .sh, TC.i (x.2.2.1)⟩], ⟨0, 0⟩⟩, ⟨.val false [⟨.int .i64, .sh, TC.i (x.2.2.2)⟩], ⟨0, 0⟩⟩]
def impl_putBytes_3_out : impl_putBytes_3_ω → Ex × List Slot := (fun x => (.exit 0, [Slot.none, ⟨.val false [⟨.slice 5, .own true, TC.l x⟩], ⟨0, 0⟩⟩]))
noncomputable def impl_putBytes_lo3 : List Slot → Option (Told (Ex × List Slot)) := fun s => match s with
  | [⟨.val false [⟨.int .i64, .sh, TC.i n⟩], ⟨0, 0⟩⟩, ⟨.val false [⟨.slice 5, .own true, TC.l X⟩], ⟨0, 0⟩⟩, ⟨.val false [⟨.int .i64, .sh, TC.i m⟩], ⟨0, 0⟩⟩, ⟨.val false [⟨.int .i64, .sh, TC.i k⟩], ⟨0, 0⟩⟩] => some (((impl_putBytes_3_fin n X m k)).map impl_putBytes_3_out)
  | _ => .none
noncomputable def impl_putBytes_lo : LoopTeller := fun r s => bif Nat.beq r 3 then impl_putBytes_lo3 s else .none
theorem impl_putBytes_3_r (n : Int) (X : List (List TC)) (m : Int) (k : Int) (fuel : Nat) : rounds (rnd tab FT D15 live 117 impl_putBytes_lo 0 3) leave (fuel + 1) (impl_putBytes_3_sl (n, X, m, k)) = ((impl_putBytes_3_step n X m k)).run (goOn (fun s => rounds (rnd tab FT D15 live 117 impl_putBytes_lo 0 3) leave fuel (impl_putBytes_3_sl s)) fun w => some (impl_putBytes_3_out w)) := by kernel_rfl
theorem impl_putBytes_3_h (n : Int) (X : List (List TC)) (m : Int) (k : Int) (ow : impl_putBytes_3_ω) : ((impl_putBytes_3_fin n X m k)).val = some ow → ∃ fuel, loopN impl_putBytes_3_st fuel (n, X, m, k) = some ow := by
  intro h
  refine auto_leaf (R := bRows n m.toNat) (fun ho => ?_) h
  obtain ⟨sz, rfl, h8, rfl, rfl⟩ := is_iff.1 ho
  rw [wr_zero (n := n)]
  refine ⟨sz + 1, loopN_run (step := impl_putBytes_3_st) (N := sz) (fun j => (n, (wr sz (bAt n) (fun _ => [TC.i 0]) (fun p => decide (p < j))), (sz : Int), (j : Int))) (fun j hj => ?_) ?_ sz 0 (by omega)⟩
  · have e := wr_step (L := sz) (p0 := j) (F := bAt n) (O := fun _ => [TC.i 0]) (vis := fun p => decide (p < j)) (vis' := fun p => decide (p < j + 1)) hj (fun _ => rfl) (fun _ => rfl) (fun p _ => by
      rw [Bool.eq_iff_iff]; simp only [Bool.or_eq_true, decide_eq_true_eq, beq_iff_eq]; omega)
    show (impl_putBytes_3_step n (wr sz (bAt n) (fun _ => [TC.i 0]) (fun p => decide (p < j))) (sz : Int) (j : Int)).val = _
    unfold impl_putBytes_3_step
    rw [bAt_i64 (by omega)]
    refine Tr.t (by simp; omega) ?_
    refine Tr.t (by rw [wrap64 (by omega) (by omega)]; omega) ?_
    refine Tr.t ⟨by omega, by rw [wr_len]; omega⟩ ?_
    rw [Tr.val_ok, wrap64 (i := (j : Int) + 1) (by omega) (by omega)]
    show some (Sum.inl (n, (wr sz (bAt n) (fun _ => [TC.i 0]) (fun p => decide (p < j))).set j (splice ((wr sz (bAt n) (fun _ => [TC.i 0]) (fun p => decide (p < j))).getD j []) 0 (bAt n j)), (sz : Int), ((j + 1 : Nat) : Int))) = _
    rw [e]
  · show (impl_putBytes_3_step n (wr sz (bAt n) (fun _ => [TC.i 0]) (fun p => decide (p < sz))) (sz : Int) (sz : Int)).val = _
    refine Tr.n (by simp) ?_
    rw [wr_bRows]
    rfl
theorem impl_putBytes_is3 : LoopIs tab FT D15 live 117 impl_putBytes_lo 0 3 := by
  refine loop_told (sl := impl_putBytes_3_sl) (step := impl_putBytes_3_st) (out := impl_putBytes_3_out) (lor := impl_putBytes_lo3) (fin := fun x => (impl_putBytes_3_fin (x.1) (x.2.1) (x.2.2.1) (x.2.2.2))) (fun _ => rfl) ?_ (fun x n => impl_putBytes_3_r x.1 x.2.1 x.2.2.1 x.2.2.2 n) (fun x ow => impl_putBytes_3_h x.1 x.2.1 x.2.2.1 x.2.2.2 ow)
  intro s t h
  unfold impl_putBytes_lo3 at h
  split at h
  · cases h; exact ⟨(_, _, _, _), rfl, rfl⟩
  · cases h
noncomputable def impl_putBytes_t (n : Int) (size : Int) : Tr (List UInt8) := (.ite (0 ≤ size ∧ size ≤ size ∧ size * 1 ≤ 140737488355328 ∧ size ≤ 140737488355328) (.ite ((impl_putBytes_o3_1 n (List.replicate (size).toNat [TC.i (0 : Int)]) ((List.replicate (size).toNat [TC.i (0 : Int)]).length : Int) (0 : Int)) = true) (.ok ((impl_putBytes_u3_1 n (List.replicate (size).toNat [TC.i (0 : Int)]) ((List.replicate (size).toNat [TC.i (0 : Int)]).length : Int) (0 : Int)).map byteOf))
   .no)
  .no)
def impl_putBytes_mk (p : List UInt8) : Res := [(false, [⟨.str, .sh, TC.s p⟩])]
noncomputable def impl_putBytes_c (n : Int) (size : Int) : Bool := is (∃ sz : Nat, size = (sz : Int) ∧ sz ≤ 8)
noncomputable def impl_putBytes_v (n : Int) (size : Int) : List UInt8 := hid (bytesL n size.toNat)
theorem impl_putBytes_l (n : Int) (size : Int) : (impl_putBytes_c n size) = true → (impl_putBytes_t n size).val = some (impl_putBytes_v n size) := by
  intro h
  obtain ⟨sz, rfl, h8⟩ := is_iff.1 h
  unfold impl_putBytes_t
  refine Tr.t (by omega) ?_
  refine Tr.t (is_true ⟨sz, by simp, h8, rfl, rfl⟩) ?_
  unfold impl_putBytes_v
  rw [hid_eq]; simp; rfl
noncomputable def impl_putBytes_S : List Arg → Option (Bool × Res) := fun xs => match xs with
  | [(false, [(.int .i64, TC.i n)]), (false, [(.int .i64, TC.i size)])] => some ((impl_putBytes_c n size), impl_putBytes_mk (impl_putBytes_v n size))
  | _ => .none
theorem impl_putBytes_e (n : Int) (size : Int) : runF tab FT D15 live 117 impl_putBytes_lo [(false, [(.int .i64, TC.i n)]), (false, [(.int .i64, TC.i size)])] = (impl_putBytes_t n size).run fun p => some (impl_putBytes_mk p) := by kernel_rfl
theorem impl_putBytes_s : ∀ xs r, impl_putBytes_S xs = some (true, r) → runF tab FT D15 live 117 impl_putBytes_lo xs = some r := by
  intro xs r h
  unfold impl_putBytes_S at h
  split at h
  · simp only [Option.some.injEq, Prod.mk.injEq] at h
    obtain ⟨h1, rfl⟩ := h
    exact fun_told (impl_putBytes_e _ _) (impl_putBytes_l _ _) h1
  · cases h
noncomputable def D16 : Dt := also D15 117 impl_putBytes_S
theorem d16 : DOk Go.Proofs.Try.prog tab D16 := d15.also mixed_ok tab_ok names_ok (fnLoops_one (by kernel_rfl) impl_putBytes_is3) impl_putBytes_s
theorem impl_putBytes_h {n size : Int} : impl_putBytes_v n size = bytesL n size.toNat := hid_eq _
theorem impl_putBytes_len {n : Int} {sz : Nat} : (impl_putBytes_v n (sz : Int)).length = sz := by rw [impl_putBytes_h]; exact bytesL_len
/-! impl_putName -/
noncomputable def impl_putName_t (s : List UInt8) : Tr (List UInt8) := (.ite ((impl_putBytes_c (s.length : Int) (1 : Int)) = true) (.ite ((((impl_putBytes_v (s.length : Int) (1 : Int)).length + s.length : Nat) : Int) ≤ 9223372036854775807) (.ok ((impl_putBytes_v (s.length : Int) (1 : Int)) ++ s))
   .no)
  .no)
def impl_putName_mk (p : List UInt8) : Res := [(false, [⟨.str, .sh, TC.s p⟩])]
noncomputable def impl_putName_c (s : List UInt8) : Bool := ((impl_putBytes_c (s.length : Int) (1 : Int)) && (is ((((impl_putBytes_v (s.length : Int) (1 : Int)).length + s.length : Nat) : Int) ≤ 9223372036854775807) && true))
noncomputable def impl_putName_v (s : List UInt8) : List UInt8 := ((impl_putBytes_v (s.length : Int) (1 : Int)) ++ s)
theorem impl_putName_l (s : List UInt8) : (impl_putName_c s) = true → (impl_putName_t s).val = some (impl_putName_v s) := by
  unfold impl_putName_t impl_putName_v impl_putName_c
  exact fun h => (Tr.gb h fun h => (Tr.gs h fun h => rfl))
noncomputable def impl_putName_S : List Arg → Option (Bool × Res) := fun xs => match xs with
  | [(false, [(.str, TC.s s)])] => some ((impl_putName_c s), impl_putName_mk (impl_putName_v s))
  | _ => .none
theorem impl_putName_e (s : List UInt8) : runF tab FT D16 live 119 noLoops [(false, [(.str, TC.s s)])] = (impl_putName_t s).run fun p => some (impl_putName_mk p) := by kernel_rfl
theorem impl_putName_s : ∀ xs r, impl_putName_S xs = some (true, r) → runF tab FT D16 live 119 noLoops xs = some r := by
  intro xs r h
  unfold impl_putName_S at h
  split at h
  · simp only [Option.some.injEq, Prod.mk.injEq] at h
    obtain ⟨h1, rfl⟩ := h
    exact fun_told (impl_putName_e _) (impl_putName_l _) h1
  · cases h
noncomputable def D17 : Dt := also D16 119 impl_putName_S
theorem d17 : DOk Go.Proofs.Try.prog tab D17 := d16.also mixed_ok tab_ok names_ok noLoops_ok impl_putName_s
theorem impl_putName_cc {s : List UInt8} (hs : s.length ≤ 140737488351232) : (impl_putName_c s) = true := by
  unfold impl_putName_c
  refine andT (by exact is_true ⟨1, rfl, by omega⟩) ?_
  refine andT (is_true (by rw [show (impl_putBytes_v (s.length : Int) 1).length = 1 from impl_putBytes_len (sz := 1)]; omega)) ?_
  rfl
theorem putNameLen {s : List UInt8} (h : s.length ≤ 140737488351232) : (impl_putName_v s).length ≤ 140737488351240 := by
  unfold impl_putName_v
  rw [List.length_append, show (impl_putBytes_v (s.length : Int) 1).length = 1 from impl_putBytes_len (sz := 1)]
  omega
/-! impl_NameHeap_encode -/
noncomputable def impl_NameHeap_encode_f3 (Q : List (List TC)) (A : List (List TC)) (m : Int) (i : Int) (s : List UInt8) : (List UInt8) ⊕ ((List UInt8)) := (.inl (s ++ (impl_putName_v ((nth (row A i) 0).str))))
noncomputable def impl_NameHeap_encode_e3 (Q : List (List TC)) (A : List (List TC)) (m : Int) (s : List UInt8) : (List UInt8) := s
noncomputable def impl_NameHeap_encode_R3 (Q : List (List TC)) (s : List UInt8) (A : List (List TC)) (m : Int) (i : Int) : (List UInt8) := iter (fun i a => (impl_NameHeap_encode_f3 Q A m (i : Int) a)) (fun a => (impl_NameHeap_encode_e3 Q A m a)) (A.length) 0 s
abbrev impl_NameHeap_encode_3_σ := List (List TC) × List UInt8 × List (List TC) × Int × Int
abbrev impl_NameHeap_encode_3_ω := (List UInt8)
noncomputable def impl_NameHeap_encode_3_step (Q : List (List TC)) (s : List UInt8) (A : List (List TC)) (m : Int) (i : Int) : Tr (impl_NameHeap_encode_3_σ ⊕ impl_NameHeap_encode_3_ω) := (.ite ((decide (i < m)) = true) (.ite ((0 : Int) ≤ i ∧ i < (A.length : Int)) (.ite ((impl_putName_c ((nth (row A i) 0).str)) = true) (.ite (((s.length + (impl_putName_v ((nth (row A i) 0).str)).length : Nat) : Int) ≤ 9223372036854775807) (.ok (.inl (Q, (s ++ (impl_putName_v ((nth (row A i) 0).str))), A, m, (IntKind.wrap .i64 (i + (1 : Int))))))
     .no)
    .no)
   .no)
  (.ok (.inr s)))
noncomputable def impl_NameHeap_encode_3_st : impl_NameHeap_encode_3_σ → Tr (impl_NameHeap_encode_3_σ ⊕ impl_NameHeap_encode_3_ω) := fun x => (impl_NameHeap_encode_3_step (x.1) (x.2.1) (x.2.2.1) (x.2.2.2.1) (x.2.2.2.2))
noncomputable def impl_NameHeap_encode_o3_1 (Q : List (List TC)) (s : List UInt8) (A : List (List TC)) (m : Int) (i : Int) : Bool := is (i = 0 ∧ Typed tab (.slice 9) (.l A) ∧ m = (A.length : Int) ∧ s.length ≤ 8 ∧ A.length ≤ 64)
noncomputable def impl_NameHeap_encode_u3_1 (Q : List (List TC)) (s : List UInt8) (A : List (List TC)) (m : Int) (i : Int) : List UInt8 := (impl_NameHeap_encode_R3 Q s A m i)
noncomputable def impl_NameHeap_encode_3_fin (Q : List (List TC)) (s : List UInt8) (A : List (List TC)) (m : Int) (i : Int) : Told impl_NameHeap_encode_3_ω := (.leaf (impl_NameHeap_encode_o3_1 Q s A m i) (impl_NameHeap_encode_u3_1 Q s A m i))
def impl_NameHeap_encode_3_sl (x : impl_NameHeap_encode_3_σ) : List Slot := [⟨.bx 49 [⟨.slice 9, .sh, TC.l (x.1)⟩], ⟨0, 0⟩⟩, ⟨.val false [⟨.str, .sh, TC.s (x.2.1)⟩], ⟨0, 0⟩⟩, ⟨.val false [⟨.slice 9, .sh, TC.l (x.2.2.1)⟩], ⟨0, 0⟩⟩, ⟨.val false [⟨.int .i64, .sh, TC.i (x.2.2.2.1)⟩], ⟨0, 0⟩⟩, ⟨.val false [⟨.int .i64, .sh, TC.i (x.2.2.2.2)⟩], ⟨0, 0⟩⟩]
def impl_NameHeap_encode_3_out : impl_NameHeap_encode_3_ω → Ex × List Slot := (fun x => (.exit 0, [Slot.none, ⟨.val false [⟨.str, .sh, TC.s x⟩], ⟨0, 0⟩⟩]))
noncomputable def impl_NameHeap_encode_lo3 : List Slot → Option (Told (Ex × List Slot)) := fun s => match s with
  | [⟨.bx 49 [⟨.slice 9, .sh, TC.l Q⟩], ⟨0, 0⟩⟩, ⟨.val false [⟨.str, .sh, TC.s s⟩], ⟨0, 0⟩⟩, ⟨.val false [⟨.slice 9, .sh, TC.l A⟩], ⟨0, 0⟩⟩, ⟨.val false [⟨.int .i64, .sh, TC.i m⟩], ⟨0, 0⟩⟩, ⟨.val false [⟨.int .i64, .sh, TC.i i⟩], ⟨0, 0⟩⟩] => some (((impl_NameHeap_encode_3_fin Q s A m i)).map impl_NameHeap_encode_3_out)
  | _ => .none
noncomputable def impl_NameHeap_encode_lo : LoopTeller := fun r s => bif Nat.beq r 3 then impl_NameHeap_encode_lo3 s else .none
theorem impl_NameHeap_encode_3_r (Q : List (List TC)) (s : List UInt8) (A : List (List TC)) (m : Int) (i : Int) (fuel : Nat) : rounds (rnd tab FT D17 live 77 impl_NameHeap_encode_lo 0 3) leave (fuel + 1) (impl_NameHeap_encode_3_sl (Q, s, A, m, i)) = ((impl_NameHeap_encode_3_step Q s A m i)).run (goOn (fun s => rounds (rnd tab FT D17 live 77 impl_NameHeap_encode_lo 0 3) leave fuel (impl_NameHeap_encode_3_sl s)) fun w => some (impl_NameHeap_encode_3_out w)) := by kernel_rfl
theorem impl_NameHeap_encode_3_h (Q : List (List TC)) (s : List UInt8) (A : List (List TC)) (m : Int) (i : Int) (ow : impl_NameHeap_encode_3_ω) : ((impl_NameHeap_encode_3_fin Q s A m i)).val = some ow → ∃ fuel, loopN impl_NameHeap_encode_3_st fuel (Q, s, A, m, i) = some ow := by
  refine auto_leaf (R := (impl_NameHeap_encode_R3 Q s A m i)) ?_
  intro ho
  have ho : is (i = 0 ∧ Typed tab (.slice 9) (.l A) ∧ m = (A.length : Int) ∧ s.length ≤ 8 ∧ A.length ≤ 64) = true := ho
  obtain ⟨rfl, ht, rfl, hs0, hlim⟩ := is_iff.1 ho
  have hlen : A.length ≤ 140737488351232 := by have := typed_room ht; simp only [show (tab 9).bytes = 16 from rfl] at this; omega
  refine ⟨(A.length) + 1, ?_⟩
  refine iter_loop (step := impl_NameHeap_encode_3_st) (A.length) (fun i a => (impl_NameHeap_encode_f3 Q A (A.length : Int) (i : Int) a)) (fun a => (impl_NameHeap_encode_e3 Q A (A.length : Int) a)) (fun i a => (Q, a, A, (A.length : Int), (i : Int))) (fun i (a : List UInt8) => a.length ≤ 8 + 140737488355328 * i) (by simpa using hs0) (fun i a hi hI => ⟨?_, fun a' h => by
    unfold impl_NameHeap_encode_f3 at h
    have hI : a.length ≤ 8 + 140737488355328 * i := hI
    have c0 : (nth (row A (i : Int)) 0).str.length ≤ 140737488351232 := typed_str_len (typed_s (typed_cell ht (A.getD i []) (mem_getD hi) 0 (by decide)))
    have e0 : (impl_putName_v (nth (row A (i : Int)) 0).str).length ≤ 140737488351240 := putNameLen c0
    (cases h; show List.length _ ≤ 8 + 140737488355328 * (i + 1); simp only [List.length_append]; omega)⟩) (fun a hI => ?_)
  · show (impl_NameHeap_encode_3_step Q a A (A.length : Int) (i : Int)).val = _
    unfold impl_NameHeap_encode_3_step impl_NameHeap_encode_f3
    have c0 : Typed tab (.str) (.s (nth (A.getD i []) 0).str) := typed_s (typed_cell ht (A.getD i []) (mem_getD hi) 0 (by decide))
    have hI : a.length ≤ 8 + 140737488355328 * i := hI
    have c0 : (nth (row A (i : Int)) 0).str.length ≤ 140737488351232 := typed_str_len (typed_s (typed_cell ht (A.getD i []) (mem_getD hi) 0 (by decide)))
    have e0 : (impl_putName_v (nth (row A (i : Int)) 0).str).length ≤ 140737488351240 := putNameLen c0
    refine Tr.t (by simp; omega) ?_
    exact (Tr.t (by first | omega | (constructor <;> omega) | (simp only [List.length_append]; omega) | (exact impl_putName_cc c0)) (Tr.t (by first | (simp only [List.length_append]; omega) | (exact impl_putName_cc c0) | (first | (apply is_true; and_intros <;> (first | rfl | assumption | (apply spec_IsName_cc <;> assumption) | (apply spec_l16Ok_cc <;> assumption) | (apply spec_l16Encode_cc <;> assumption) | (apply spec_EncodeHeap_cc <;> assumption) | (apply impl_IsName_cc <;> assumption) | (apply impl_ValidHeap_cc <;> assumption) | (apply impl_putName_cc <;> assumption) | (first | (apply is_true; and_intros <;> (first | rfl | assumption | (apply spec_IsName_cc <;> assumption) | (apply spec_l16Ok_cc <;> assumption) | (apply spec_l16Encode_cc <;> assumption) | (apply spec_EncodeHeap_cc <;> assumption) | (apply impl_IsName_cc <;> assumption) | (apply impl_ValidHeap_cc <;> assumption) | (apply impl_putName_cc <;> assumption) | (first | (apply is_true; and_intros <;> (first | rfl | assumption | (apply spec_IsName_cc <;> assumption) | (apply spec_l16Ok_cc <;> assumption) | (apply spec_l16Encode_cc <;> assumption) | (apply spec_EncodeHeap_cc <;> assumption) | (apply impl_IsName_cc <;> assumption) | (apply impl_ValidHeap_cc <;> assumption) | (apply impl_putName_cc <;> assumption))) | (apply spec_IsName_cc <;> assumption) | (apply spec_l16Ok_cc <;> assumption) | (apply spec_l16Encode_cc <;> assumption) | (apply spec_EncodeHeap_cc <;> assumption) | (apply impl_IsName_cc <;> assumption) | (apply impl_ValidHeap_cc <;> assumption) | (apply impl_putName_cc <;> assumption)))) | (apply spec_IsName_cc <;> assumption) | (apply spec_l16Ok_cc <;> assumption) | (apply spec_l16Encode_cc <;> assumption) | (apply spec_EncodeHeap_cc <;> assumption) | (apply impl_IsName_cc <;> assumption) | (apply impl_ValidHeap_cc <;> assumption) | (apply impl_putName_cc <;> assumption)))) | (apply spec_IsName_cc <;> assumption) | (apply spec_l16Ok_cc <;> assumption) | (apply spec_l16Encode_cc <;> assumption) | (apply spec_EncodeHeap_cc <;> assumption) | (apply impl_IsName_cc <;> assumption) | (apply impl_ValidHeap_cc <;> assumption) | (apply impl_putName_cc <;> assumption))) (Tr.t (by first | omega | (constructor <;> omega) | (simp only [List.length_append]; omega) | (exact impl_putName_cc c0)) (by rw [Tr.val_ok, wrap64 (i := (i : Int) + 1) (by omega) (by omega)]; rfl))))
  · show (impl_NameHeap_encode_3_step Q a A (A.length : Int) (A.length : Int)).val = _
    refine Tr.n (by first | (simp; done) | (simp; omega) | omega) ?_
    rfl
theorem impl_NameHeap_encode_is3 : LoopIs tab FT D17 live 77 impl_NameHeap_encode_lo 0 3 := by
  refine loop_told (sl := impl_NameHeap_encode_3_sl) (step := impl_NameHeap_encode_3_st) (out := impl_NameHeap_encode_3_out) (lor := impl_NameHeap_encode_lo3) (fin := fun x => (impl_NameHeap_encode_3_fin (x.1) (x.2.1) (x.2.2.1) (x.2.2.2.1) (x.2.2.2.2))) (fun _ => rfl) ?_ (fun x n => impl_NameHeap_encode_3_r x.1 x.2.1 x.2.2.1 x.2.2.2.1 x.2.2.2.2 n) (fun x ow => impl_NameHeap_encode_3_h x.1 x.2.1 x.2.2.1 x.2.2.2.1 x.2.2.2.2 ow)
  intro s t h
  unfold impl_NameHeap_encode_lo3 at h
  split at h
  · cases h; exact ⟨(_, _, _, _, _), rfl, rfl⟩
  · cases h
noncomputable def impl_NameHeap_encode_t (A : List (List TC)) : Tr (List UInt8) := (.ite ((impl_putBytes_c (A.length : Int) (1 : Int)) = true) (.ite ((impl_NameHeap_encode_o3_1 A (impl_putBytes_v (A.length : Int) (1 : Int)) A (A.length : Int) (0 : Int)) = true) (.ok (impl_NameHeap_encode_u3_1 A (impl_putBytes_v (A.length : Int) (1 : Int)) A (A.length : Int) (0 : Int)))
   .no)
  .no)
def impl_NameHeap_encode_mk (p : List UInt8) : Res := [(false, [⟨.str, .sh, TC.s p⟩])]
noncomputable def impl_NameHeap_encode_c (A : List (List TC)) : Bool := ((impl_putBytes_c (A.length : Int) (1 : Int)) && ((impl_NameHeap_encode_o3_1 A (impl_putBytes_v (A.length : Int) (1 : Int)) A (A.length : Int) (0 : Int)) && true))
noncomputable def impl_NameHeap_encode_v (A : List (List TC)) : List UInt8 := (impl_NameHeap_encode_u3_1 A (impl_putBytes_v (A.length : Int) (1 : Int)) A (A.length : Int) (0 : Int))
theorem impl_NameHeap_encode_l (A : List (List TC)) : (impl_NameHeap_encode_c A) = true → (impl_NameHeap_encode_t A).val = some (impl_NameHeap_encode_v A) := by
  unfold impl_NameHeap_encode_t impl_NameHeap_encode_v impl_NameHeap_encode_c
  exact fun h => (Tr.gb h fun h => (Tr.gb h fun h => rfl))
noncomputable def impl_NameHeap_encode_S : List Arg → Option (Bool × Res) := fun xs => match xs with
  | [(true, [(.slice 9, TC.l A)])] => some ((impl_NameHeap_encode_c A), impl_NameHeap_encode_mk (impl_NameHeap_encode_v A))
  | _ => .none
theorem impl_NameHeap_encode_e (A : List (List TC)) : runF tab FT D17 live 77 impl_NameHeap_encode_lo [(true, [(.slice 9, TC.l A)])] = (impl_NameHeap_encode_t A).run fun p => some (impl_NameHeap_encode_mk p) := by kernel_rfl
theorem impl_NameHeap_encode_s : ∀ xs r, impl_NameHeap_encode_S xs = some (true, r) → runF tab FT D17 live 77 impl_NameHeap_encode_lo xs = some r := by
  intro xs r h
  unfold impl_NameHeap_encode_S at h
  split at h
  · simp only [Option.some.injEq, Prod.mk.injEq] at h
    obtain ⟨h1, rfl⟩ := h
    exact fun_told (impl_NameHeap_encode_e _) (impl_NameHeap_encode_l _) h1
  · cases h
noncomputable def D18 : Dt := also D17 77 impl_NameHeap_encode_S
theorem d18 : DOk Go.Proofs.Try.prog tab D18 := d17.also mixed_ok tab_ok names_ok (fnLoops_one (by kernel_rfl) impl_NameHeap_encode_is3) impl_NameHeap_encode_s
theorem impl_NameHeap_encode_cc {A : List (List TC)} (hA : Typed tab (.slice 9) (.l A)) (hl : A.length ≤ 64) : (impl_NameHeap_encode_c A) = true := by
  unfold impl_NameHeap_encode_c
  refine andT (by exact is_true ⟨1, rfl, by omega⟩) ?_
  refine andT (by exact is_true ⟨rfl, hA, rfl, by rw [show (impl_putBytes_v (A.length : Int) 1).length = 1 from impl_putBytes_len (sz := 1)]; omega, hl⟩) ?_
  rfl
theorem impl_NameHeap_encode_vv (A : List (List TC)) : impl_NameHeap_encode_v A = foldI (hStep A) A.length (bytesL (A.length : Int) 1) := by
  show impl_NameHeap_encode_R3 A (impl_putBytes_v (A.length : Int) 1) A (A.length : Int) 0 = _
  rw [impl_putBytes_h]
  unfold impl_NameHeap_encode_R3
  refine iter_each (g := hStep A) (fin := fun a => impl_NameHeap_encode_e3 A A (A.length : Int) a) fun j a hj => ?_
  unfold impl_NameHeap_encode_f3 hStep impl_putName_v
  rw [impl_putBytes_h]
  rfl
/-! impl_EncodeHeap -/
noncomputable def impl_EncodeHeap_t (A : List (List TC)) : Tr (List UInt8) := (.ite ((impl_ValidHeap_c A) = true) (.ite ((!(impl_ValidHeap_v A)) = true) (.ok ([]))
   (.ite ((impl_NameHeap_encode_c A) = true) (.ok (impl_NameHeap_encode_v A))
    .no))
  .no)
def impl_EncodeHeap_mk (p : List UInt8) : Res := [(false, [⟨.str, .sh, TC.s p⟩])]
noncomputable def impl_EncodeHeap_c (A : List (List TC)) : Bool := ((impl_ValidHeap_c A) && (bif (!(impl_ValidHeap_v A)) then true else ((impl_NameHeap_encode_c A) && true)))
noncomputable def impl_EncodeHeap_v (A : List (List TC)) : List UInt8 := (bif (!(impl_ValidHeap_v A)) then [] else (impl_NameHeap_encode_v A))
theorem impl_EncodeHeap_l (A : List (List TC)) : (impl_EncodeHeap_c A) = true → (impl_EncodeHeap_t A).val = some (impl_EncodeHeap_v A) := by
  unfold impl_EncodeHeap_t impl_EncodeHeap_v impl_EncodeHeap_c
  exact fun h => (Tr.gb h fun h => (Tr.ss h (fun h => rfl) (fun h => (Tr.gb h fun h => rfl))))
noncomputable def impl_EncodeHeap_S : List Arg → Option (Bool × Res) := fun xs => match xs with
  | [(true, [(.slice 9, TC.l A)])] => some ((impl_EncodeHeap_c A), impl_EncodeHeap_mk (impl_EncodeHeap_v A))
  | _ => .none
theorem impl_EncodeHeap_e (A : List (List TC)) : runF tab FT D18 live 39 noLoops [(true, [(.slice 9, TC.l A)])] = (impl_EncodeHeap_t A).run fun p => some (impl_EncodeHeap_mk p) := by kernel_rfl
theorem impl_EncodeHeap_s : ∀ xs r, impl_EncodeHeap_S xs = some (true, r) → runF tab FT D18 live 39 noLoops xs = some r := by
  intro xs r h
  unfold impl_EncodeHeap_S at h
  split at h
  · simp only [Option.some.injEq, Prod.mk.injEq] at h
    obtain ⟨h1, rfl⟩ := h
    exact fun_told (impl_EncodeHeap_e _) (impl_EncodeHeap_l _) h1
  · cases h
noncomputable def D19 : Dt := also D18 39 impl_EncodeHeap_S
theorem d19 : DOk Go.Proofs.Try.prog tab D19 := d18.also mixed_ok tab_ok names_ok noLoops_ok impl_EncodeHeap_s
theorem impl_EncodeHeap_cc {A : List (List TC)} (hA : Typed tab (.slice 9) (.l A)) : (impl_EncodeHeap_c A) = true := by
  unfold impl_EncodeHeap_c
  refine andT (by first | (apply is_true; and_intros <;> (first | rfl | assumption | (apply spec_IsName_cc <;> assumption) | (apply spec_l16Ok_cc <;> assumption) | (apply spec_l16Encode_cc <;> assumption) | (apply spec_EncodeHeap_cc <;> assumption) | (apply impl_IsName_cc <;> assumption) | (apply impl_ValidHeap_cc <;> assumption) | (apply impl_putName_cc <;> assumption) | (apply impl_NameHeap_encode_cc <;> assumption) | (first | (apply is_true; and_intros <;> (first | rfl | assumption | (apply spec_IsName_cc <;> assumption) | (apply spec_l16Ok_cc <;> assumption) | (apply spec_l16Encode_cc <;> assumption) | (apply spec_EncodeHeap_cc <;> assumption) | (apply impl_IsName_cc <;> assumption) | (apply impl_ValidHeap_cc <;> assumption) | (apply impl_putName_cc <;> assumption) | (apply impl_NameHeap_encode_cc <;> assumption) | (first | (apply is_true; and_intros <;> (first | rfl | assumption | (apply spec_IsName_cc <;> assumption) | (apply spec_l16Ok_cc <;> assumption) | (apply spec_l16Encode_cc <;> assumption) | (apply spec_EncodeHeap_cc <;> assumption) | (apply impl_IsName_cc <;> assumption) | (apply impl_ValidHeap_cc <;> assumption) | (apply impl_putName_cc <;> assumption) | (apply impl_NameHeap_encode_cc <;> assumption) | (first | (apply is_true; and_intros <;> (first | rfl | assumption | (apply spec_IsName_cc <;> assumption) | (apply spec_l16Ok_cc <;> assumption) | (apply spec_l16Encode_cc <;> assumption) | (apply spec_EncodeHeap_cc <;> assumption) | (apply impl_IsName_cc <;> assumption) | (apply impl_ValidHeap_cc <;> assumption) | (apply impl_putName_cc <;> assumption) | (apply impl_NameHeap_encode_cc <;> assumption))) | (apply spec_IsName_cc <;> assumption) | (apply spec_l16Ok_cc <;> assumption) | (apply spec_l16Encode_cc <;> assumption) | (apply spec_EncodeHeap_cc <;> assumption) | (apply impl_IsName_cc <;> assumption) | (apply impl_ValidHeap_cc <;> assumption) | (apply impl_putName_cc <;> assumption) | (apply impl_NameHeap_encode_cc <;> assumption)))) | (apply spec_IsName_cc <;> assumption) | (apply spec_l16Ok_cc <;> assumption) | (apply spec_l16Encode_cc <;> assumption) | (apply spec_EncodeHeap_cc <;> assumption) | (apply impl_IsName_cc <;> assumption) | (apply impl_ValidHeap_cc <;> assumption) | (apply impl_putName_cc <;> assumption) | (apply impl_NameHeap_encode_cc <;> assumption)))) | (apply spec_IsName_cc <;> assumption) | (apply spec_l16Ok_cc <;> assumption) | (apply spec_l16Encode_cc <;> assumption) | (apply spec_EncodeHeap_cc <;> assumption) | (apply impl_IsName_cc <;> assumption) | (apply impl_ValidHeap_cc <;> assumption) | (apply impl_putName_cc <;> assumption) | (apply impl_NameHeap_encode_cc <;> assumption)))) | (apply spec_IsName_cc <;> assumption) | (apply spec_l16Ok_cc <;> assumption) | (apply spec_l16Encode_cc <;> assumption) | (apply spec_EncodeHeap_cc <;> assumption) | (apply impl_IsName_cc <;> assumption) | (apply impl_ValidHeap_cc <;> assumption) | (apply impl_putName_cc <;> assumption) | (apply impl_NameHeap_encode_cc <;> assumption)) ?_
  refine bifT (fun b1 => ?_) (fun b1 => ?_)
  · skip
    rfl
  · skip
    refine andT (by exact impl_NameHeap_encode_cc hA (heapOk_len ((impl_ValidHeap_vv _).symm.trans (notF b1)))) ?_
    rfl
theorem impl_EncodeHeap_vv (A : List (List TC)) : impl_EncodeHeap_v A = encHeap A := by
  unfold impl_EncodeHeap_v encHeap
  rw [impl_ValidHeap_vv, impl_NameHeap_encode_vv]
  cases heapOk A <;> rfl
/-! laws_eqStringS -/
abbrev laws_eqStringS_4_σ := List (List TC) × List (List TC) × Int
abbrev laws_eqStringS_4_ω := (Unit) ⊕ (Unit)
noncomputable def laws_eqStringS_4_step (A : List (List TC)) (C : List (List TC)) (i : Int) : Tr (laws_eqStringS_4_σ ⊕ laws_eqStringS_4_ω) := (.ite ((decide (i < (A.length : Int))) = true) (.ite ((0 : Int) ≤ i ∧ i < (A.length : Int)) (.ite ((0 : Int) ≤ i ∧ i < (C.length : Int)) (.ite ((!((nth (row A i) 0).str == (nth (row C i) 0).str)) = true) (.ok (.inr (.inl ())))
     (.ok (.inl (A, C, (IntKind.wrap .i64 (i + (1 : Int)))))))
    .no)
   .no)
  (.ok (.inr (.inr ()))))
noncomputable def laws_eqStringS_4_st : laws_eqStringS_4_σ → Tr (laws_eqStringS_4_σ ⊕ laws_eqStringS_4_ω) := fun x => (laws_eqStringS_4_step (x.1) (x.2.1) (x.2.2))
noncomputable def laws_eqStringS_o4_1 (A : List (List TC)) (C : List (List TC)) (i : Int) : Bool := is (A = C ∧ i = 0 ∧ Typed tab (.slice 9) (.l A))
noncomputable def laws_eqStringS_4_fin (A : List (List TC)) (C : List (List TC)) (i : Int) : Told laws_eqStringS_4_ω := (.leaf (laws_eqStringS_o4_1 A C i) (.inr ()))
def laws_eqStringS_4_sl (x : laws_eqStringS_4_σ) : List Slot := [⟨.val false [⟨.slice 9, .sh, TC.l (x.1)⟩], ⟨0, 0⟩⟩, ⟨.val false [⟨.slice 9, .sh, TC.l (x.2.1)⟩], ⟨0, 0⟩⟩, ⟨.val false [⟨.int .i64, .sh, TC.i (x.2.2)⟩], ⟨0, 0⟩⟩]
def laws_eqStringS_4_out : laws_eqStringS_4_ω → Ex × List Slot := (Sum.elim (fun x => (.ret, [⟨.val false [⟨.bool, .sh, TC.b false⟩], ⟨0, 0⟩⟩])) (fun x => (.exit 0, [Slot.none])))
noncomputable def laws_eqStringS_lo4 : List Slot → Option (Told (Ex × List Slot)) := fun s => match s with
  | [⟨.val false [⟨.slice 9, .sh, TC.l A⟩], ⟨0, 0⟩⟩, ⟨.val false [⟨.slice 9, .sh, TC.l C⟩], ⟨0, 0⟩⟩, ⟨.val false [⟨.int .i64, .sh, TC.i i⟩], ⟨0, 0⟩⟩] => some (((laws_eqStringS_4_fin A C i)).map laws_eqStringS_4_out)
  | _ => .none
noncomputable def laws_eqStringS_lo : LoopTeller := fun r s => bif Nat.beq r 4 then laws_eqStringS_lo4 s else .none
theorem laws_eqStringS_4_r (A : List (List TC)) (C : List (List TC)) (i : Int) (fuel : Nat) : rounds (rnd tab FT D19 live 71 laws_eqStringS_lo 0 4) leave (fuel + 1) (laws_eqStringS_4_sl (A, C, i)) = ((laws_eqStringS_4_step A C i)).run (goOn (fun s => rounds (rnd tab FT D19 live 71 laws_eqStringS_lo 0 4) leave fuel (laws_eqStringS_4_sl s)) fun w => some (laws_eqStringS_4_out w)) := by kernel_rfl
theorem laws_eqStringS_4_h (A : List (List TC)) (C : List (List TC)) (i : Int) (ow : laws_eqStringS_4_ω) : ((laws_eqStringS_4_fin A C i)).val = some ow → ∃ fuel, loopN laws_eqStringS_4_st fuel (A, C, i) = some ow := by
  intro h
  simp only [laws_eqStringS_4_fin, Told.val] at h
  split at h
  · rename_i ho
    obtain ⟨rfl, rfl, ht⟩ := is_iff.1 ho
    cases h
    have hlen : A.length ≤ 140737488351232 := by have := typed_room ht; simp only [show (tab 9).bytes = 16 from rfl] at this; omega
    refine ⟨_, loopN_run (N := A.length) (fun i => (A, A, (i : Int))) (fun i hi => ?_) ?_ A.length 0 (by omega)⟩
    · have c0 : Typed tab (.str) (.s (nth (A.getD i []) 0).str) := typed_s (typed_cell ht (A.getD i []) (mem_getD hi) 0 (by decide))
      show (laws_eqStringS_4_step A A (i : Int)).val = _
      unfold laws_eqStringS_4_step
      refine Tr.t (by simp; omega) ?_
      refine Tr.t (by constructor <;> omega) ?_
      refine Tr.t (by constructor <;> omega) ?_
      refine Tr.n (by simp) ?_
      rw [Tr.val_ok, wrap64 (i := (i : Int) + 1) (by omega) (by omega)]; rfl
    · show (laws_eqStringS_4_step A A (A.length : Int)).val = _
      refine Tr.n (by simp) ?_
      rfl
  · cases h
theorem laws_eqStringS_is4 : LoopIs tab FT D19 live 71 laws_eqStringS_lo 0 4 := by
  refine loop_told (sl := laws_eqStringS_4_sl) (step := laws_eqStringS_4_st) (out := laws_eqStringS_4_out) (lor := laws_eqStringS_lo4) (fin := fun x => (laws_eqStringS_4_fin (x.1) (x.2.1) (x.2.2))) (fun _ => rfl) ?_ (fun x n => laws_eqStringS_4_r x.1 x.2.1 x.2.2 n) (fun x ow => laws_eqStringS_4_h x.1 x.2.1 x.2.2 ow)
  intro s t h
  unfold laws_eqStringS_lo4 at h
  split at h
  · cases h; exact ⟨(_, _, _), rfl, rfl⟩
  · cases h
noncomputable def laws_eqStringS_t (A : List (List TC)) (C : List (List TC)) : Tr (Bool) := (.ite ((!((A.length : Int) == (C.length : Int))) = true) (.ok false)
  (.ite ((laws_eqStringS_o4_1 A C (0 : Int)) = true) (.ok true)
   .no))
def laws_eqStringS_mk (p : Bool) : Res := [(false, [⟨.bool, .sh, TC.b p⟩])]
noncomputable def laws_eqStringS_c (A : List (List TC)) (C : List (List TC)) : Bool := is (A = C ∧ Typed tab (.slice 9) (.l A))
noncomputable def laws_eqStringS_v (A : List (List TC)) (C : List (List TC)) : Bool := true
theorem laws_eqStringS_l (A : List (List TC)) (C : List (List TC)) : (laws_eqStringS_c A C) = true → (laws_eqStringS_t A C).val = some (laws_eqStringS_v A C) := by
  intro h
  obtain ⟨rfl, ht⟩ := is_iff.1 h
  unfold laws_eqStringS_t
  refine Tr.n (by simp) ?_
  refine Tr.t (by first | (apply is_true; and_intros <;> (first | rfl | assumption | (apply spec_IsName_cc <;> assumption) | (apply spec_l16Ok_cc <;> assumption) | (apply spec_l16Encode_cc <;> assumption) | (apply spec_EncodeHeap_cc <;> assumption) | (apply impl_IsName_cc <;> assumption) | (apply impl_ValidHeap_cc <;> assumption) | (apply impl_putName_cc <;> assumption) | (apply impl_NameHeap_encode_cc <;> assumption) | (apply impl_EncodeHeap_cc <;> assumption) | (first | (apply is_true; and_intros <;> (first | rfl | assumption | (apply spec_IsName_cc <;> assumption) | (apply spec_l16Ok_cc <;> assumption) | (apply spec_l16Encode_cc <;> assumption) | (apply spec_EncodeHeap_cc <;> assumption) | (apply impl_IsName_cc <;> assumption) | (apply impl_ValidHeap_cc <;> assumption) | (apply impl_putName_cc <;> assumption) | (apply impl_NameHeap_encode_cc <;> assumption) | (apply impl_EncodeHeap_cc <;> assumption) | (first | (apply is_true; and_intros <;> (first | rfl | assumption | (apply spec_IsName_cc <;> assumption) | (apply spec_l16Ok_cc <;> assumption) | (apply spec_l16Encode_cc <;> assumption) | (apply spec_EncodeHeap_cc <;> assumption) | (apply impl_IsName_cc <;> assumption) | (apply impl_ValidHeap_cc <;> assumption) | (apply impl_putName_cc <;> assumption) | (apply impl_NameHeap_encode_cc <;> assumption) | (apply impl_EncodeHeap_cc <;> assumption) | (first | (apply is_true; and_intros <;> (first | rfl | assumption | (apply spec_IsName_cc <;> assumption) | (apply spec_l16Ok_cc <;> assumption) | (apply spec_l16Encode_cc <;> assumption) | (apply spec_EncodeHeap_cc <;> assumption) | (apply impl_IsName_cc <;> assumption) | (apply impl_ValidHeap_cc <;> assumption) | (apply impl_putName_cc <;> assumption) | (apply impl_NameHeap_encode_cc <;> assumption) | (apply impl_EncodeHeap_cc <;> assumption))) | (apply spec_IsName_cc <;> assumption) | (apply spec_l16Ok_cc <;> assumption) | (apply spec_l16Encode_cc <;> assumption) | (apply spec_EncodeHeap_cc <;> assumption) | (apply impl_IsName_cc <;> assumption) | (apply impl_ValidHeap_cc <;> assumption) | (apply impl_putName_cc <;> assumption) | (apply impl_NameHeap_encode_cc <;> assumption) | (apply impl_EncodeHeap_cc <;> assumption)))) | (apply spec_IsName_cc <;> assumption) | (apply spec_l16Ok_cc <;> assumption) | (apply spec_l16Encode_cc <;> assumption) | (apply spec_EncodeHeap_cc <;> assumption) | (apply impl_IsName_cc <;> assumption) | (apply impl_ValidHeap_cc <;> assumption) | (apply impl_putName_cc <;> assumption) | (apply impl_NameHeap_encode_cc <;> assumption) | (apply impl_EncodeHeap_cc <;> assumption)))) | (apply spec_IsName_cc <;> assumption) | (apply spec_l16Ok_cc <;> assumption) | (apply spec_l16Encode_cc <;> assumption) | (apply spec_EncodeHeap_cc <;> assumption) | (apply impl_IsName_cc <;> assumption) | (apply impl_ValidHeap_cc <;> assumption) | (apply impl_putName_cc <;> assumption) | (apply impl_NameHeap_encode_cc <;> assumption) | (apply impl_EncodeHeap_cc <;> assumption)))) | (apply spec_IsName_cc <;> assumption) | (apply spec_l16Ok_cc <;> assumption) | (apply spec_l16Encode_cc <;> assumption) | (apply spec_EncodeHeap_cc <;> assumption) | (apply impl_IsName_cc <;> assumption) | (apply impl_ValidHeap_cc <;> assumption) | (apply impl_putName_cc <;> assumption) | (apply impl_NameHeap_encode_cc <;> assumption) | (apply impl_EncodeHeap_cc <;> assumption)) ?_
  rfl
noncomputable def laws_eqStringS_S : List Arg → Option (Bool × Res) := fun xs => match xs with
  | [(false, [(.slice 9, TC.l A)]), (false, [(.slice 9, TC.l C)])] => some ((laws_eqStringS_c A C), laws_eqStringS_mk (laws_eqStringS_v A C))
  | _ => .none
theorem laws_eqStringS_e (A : List (List TC)) (C : List (List TC)) : runF tab FT D19 live 71 laws_eqStringS_lo [(false, [(.slice 9, TC.l A)]), (false, [(.slice 9, TC.l C)])] = (laws_eqStringS_t A C).run fun p => some (laws_eqStringS_mk p) := by kernel_rfl
theorem laws_eqStringS_s : ∀ xs r, laws_eqStringS_S xs = some (true, r) → runF tab FT D19 live 71 laws_eqStringS_lo xs = some r := by
  intro xs r h
  unfold laws_eqStringS_S at h
  split at h
  · simp only [Option.some.injEq, Prod.mk.injEq] at h
    obtain ⟨h1, rfl⟩ := h
    exact fun_told (laws_eqStringS_e _ _) (laws_eqStringS_l _ _) h1
  · cases h
noncomputable def D20 : Dt := also D19 71 laws_eqStringS_S
theorem d20 : DOk Go.Proofs.Try.prog tab D20 := d19.also mixed_ok tab_ok names_ok (fnLoops_one (by kernel_rfl) laws_eqStringS_is4) laws_eqStringS_s
/-! laws_eqNameHeap -/
noncomputable def laws_eqNameHeap_t (x0 : List (List TC)) (y0 : List (List TC)) : Tr (Bool) := (.ite ((laws_eqStringS_c x0 y0) = true) (.ite ((!(laws_eqStringS_v x0 y0)) = true) (.ok false)
   (.ok true))
  .no)
def laws_eqNameHeap_mk (p : Bool) : Res := [(false, [⟨.bool, .sh, TC.b p⟩])]
noncomputable def laws_eqNameHeap_c (x0 : List (List TC)) (y0 : List (List TC)) : Bool := is (x0 = y0 ∧ Typed tab (.slice 9) (.l x0))
noncomputable def laws_eqNameHeap_v (x0 : List (List TC)) (y0 : List (List TC)) : Bool := true
theorem laws_eqNameHeap_l (x0 : List (List TC)) (y0 : List (List TC)) : (laws_eqNameHeap_c x0 y0) = true → (laws_eqNameHeap_t x0 y0).val = some (laws_eqNameHeap_v x0 y0) := by
  intro h
  obtain ⟨rfl, t0⟩ := is_iff.1 h
  unfold laws_eqNameHeap_t
  refine Tr.t (by first | (apply is_true; and_intros <;> (first | rfl | assumption | (apply spec_IsName_cc <;> assumption) | (apply spec_l16Ok_cc <;> assumption) | (apply spec_l16Encode_cc <;> assumption) | (apply spec_EncodeHeap_cc <;> assumption) | (apply impl_IsName_cc <;> assumption) | (apply impl_ValidHeap_cc <;> assumption) | (apply impl_putName_cc <;> assumption) | (apply impl_NameHeap_encode_cc <;> assumption) | (apply impl_EncodeHeap_cc <;> assumption) | (first | (apply is_true; and_intros <;> (first | rfl | assumption | (apply spec_IsName_cc <;> assumption) | (apply spec_l16Ok_cc <;> assumption) | (apply spec_l16Encode_cc <;> assumption) | (apply spec_EncodeHeap_cc <;> assumption) | (apply impl_IsName_cc <;> assumption) | (apply impl_ValidHeap_cc <;> assumption) | (apply impl_putName_cc <;> assumption) | (apply impl_NameHeap_encode_cc <;> assumption) | (apply impl_EncodeHeap_cc <;> assumption) | (first | (apply is_true; and_intros <;> (first | rfl | assumption | (apply spec_IsName_cc <;> assumption) | (apply spec_l16Ok_cc <;> assumption) | (apply spec_l16Encode_cc <;> assumption) | (apply spec_EncodeHeap_cc <;> assumption) | (apply impl_IsName_cc <;> assumption) | (apply impl_ValidHeap_cc <;> assumption) | (apply impl_putName_cc <;> assumption) | (apply impl_NameHeap_encode_cc <;> assumption) | (apply impl_EncodeHeap_cc <;> assumption) | (first | (apply is_true; and_intros <;> (first | rfl | assumption | (apply spec_IsName_cc <;> assumption) | (apply spec_l16Ok_cc <;> assumption) | (apply spec_l16Encode_cc <;> assumption) | (apply spec_EncodeHeap_cc <;> assumption) | (apply impl_IsName_cc <;> assumption) | (apply impl_ValidHeap_cc <;> assumption) | (apply impl_putName_cc <;> assumption) | (apply impl_NameHeap_encode_cc <;> assumption) | (apply impl_EncodeHeap_cc <;> assumption))) | (apply spec_IsName_cc <;> assumption) | (apply spec_l16Ok_cc <;> assumption) | (apply spec_l16Encode_cc <;> assumption) | (apply spec_EncodeHeap_cc <;> assumption) | (apply impl_IsName_cc <;> assumption) | (apply impl_ValidHeap_cc <;> assumption) | (apply impl_putName_cc <;> assumption) | (apply impl_NameHeap_encode_cc <;> assumption) | (apply impl_EncodeHeap_cc <;> assumption)))) | (apply spec_IsName_cc <;> assumption) | (apply spec_l16Ok_cc <;> assumption) | (apply spec_l16Encode_cc <;> assumption) | (apply spec_EncodeHeap_cc <;> assumption) | (apply impl_IsName_cc <;> assumption) | (apply impl_ValidHeap_cc <;> assumption) | (apply impl_putName_cc <;> assumption) | (apply impl_NameHeap_encode_cc <;> assumption) | (apply impl_EncodeHeap_cc <;> assumption)))) | (apply spec_IsName_cc <;> assumption) | (apply spec_l16Ok_cc <;> assumption) | (apply spec_l16Encode_cc <;> assumption) | (apply spec_EncodeHeap_cc <;> assumption) | (apply impl_IsName_cc <;> assumption) | (apply impl_ValidHeap_cc <;> assumption) | (apply impl_putName_cc <;> assumption) | (apply impl_NameHeap_encode_cc <;> assumption) | (apply impl_EncodeHeap_cc <;> assumption)))) | (apply spec_IsName_cc <;> assumption) | (apply spec_l16Ok_cc <;> assumption) | (apply spec_l16Encode_cc <;> assumption) | (apply spec_EncodeHeap_cc <;> assumption) | (apply impl_IsName_cc <;> assumption) | (apply impl_ValidHeap_cc <;> assumption) | (apply impl_putName_cc <;> assumption) | (apply impl_NameHeap_encode_cc <;> assumption) | (apply impl_EncodeHeap_cc <;> assumption)) ?_
  refine Tr.n (by simp [laws_eqStringS_v]) ?_
  rfl
noncomputable def laws_eqNameHeap_S : List Arg → Option (Bool × Res) := fun xs => match xs with
  | [(true, [(.slice 9, TC.l x0)]), (true, [(.slice 9, TC.l y0)])] => some ((laws_eqNameHeap_c x0 y0), laws_eqNameHeap_mk (laws_eqNameHeap_v x0 y0))
  | _ => .none
theorem laws_eqNameHeap_e (x0 : List (List TC)) (y0 : List (List TC)) : runF tab FT D20 live 33 noLoops [(true, [(.slice 9, TC.l x0)]), (true, [(.slice 9, TC.l y0)])] = (laws_eqNameHeap_t x0 y0).run fun p => some (laws_eqNameHeap_mk p) := by kernel_rfl
theorem laws_eqNameHeap_s : ∀ xs r, laws_eqNameHeap_S xs = some (true, r) → runF tab FT D20 live 33 noLoops xs = some r := by
  intro xs r h
  unfold laws_eqNameHeap_S at h
  split at h
  · simp only [Option.some.injEq, Prod.mk.injEq] at h
    obtain ⟨h1, rfl⟩ := h
    exact fun_told (laws_eqNameHeap_e _ _) (laws_eqNameHeap_l _ _) h1
  · cases h
noncomputable def D21 : Dt := also D20 33 laws_eqNameHeap_S
theorem d21 : DOk Go.Proofs.Try.prog tab D21 := d20.also mixed_ok tab_ok names_ok noLoops_ok laws_eqNameHeap_s
/-! the law -/
noncomputable def laws_FnExactEncodeHeap_t (x0 : List (List TC)) : Tr Bool := (.ite ((laws_szNameHeap_c x0 (1048576 : Int)) = true) (.ite ((decide ((laws_szNameHeap_v x0 (1048576 : Int)) < (0 : Int))) = true) (.ok true)
   (.ite ((laws_toNameHeap_c x0) = true) (.ite ((spec_EncodeHeap_c (laws_toNameHeap_v x0)) = true) (.ite ((laws_toNameHeap_c x0) = true) (.ite ((impl_EncodeHeap_c (laws_toNameHeap_v x0)) = true) (.ite ((!((impl_EncodeHeap_v (laws_toNameHeap_v x0)) == (spec_EncodeHeap_v (laws_toNameHeap_v x0)))) = true) (.ok false)
        (.ite ((laws_toNameHeap_c x0) = true) (.ite ((laws_eqNameHeap_c (laws_toNameHeap_v x0) (laws_toNameHeap_v x0)) = true) (.ite ((!(laws_eqNameHeap_v (laws_toNameHeap_v x0) (laws_toNameHeap_v x0))) = true) (.ok false)
           (.ok true))
          .no)
         .no))
       .no)
      .no)
     .no)
    .no))
  .no)
theorem laws_FnExactEncodeHeap_e (x0 : List (List TC)) : runF tab FT D21 live 9 noLoops [(true, [(.slice 9, TC.l x0)])] = (laws_FnExactEncodeHeap_t x0).run fun p => some [(false, [⟨.bool, .sh, .b p⟩])] := by kernel_rfl
theorem laws_FnExactEncodeHeap_p (x0 : List (List TC)) (h0 : Typed tab (.slice 9) (.l x0)) : (laws_FnExactEncodeHeap_t x0).val = some true := by
  have t0_9 := laws_toStringS_ty h0
  unfold laws_FnExactEncodeHeap_t
  refine Tr.t (by first | exact (by first | (apply is_true; and_intros <;> (first | rfl | assumption | (apply spec_IsName_cc <;> assumption) | (apply spec_l16Ok_cc <;> assumption) | (apply spec_l16Encode_cc <;> assumption) | (apply spec_EncodeHeap_cc <;> assumption) | (apply impl_IsName_cc <;> assumption) | (apply impl_ValidHeap_cc <;> assumption) | (apply impl_putName_cc <;> assumption) | (apply impl_NameHeap_encode_cc <;> assumption) | (apply impl_EncodeHeap_cc <;> assumption) | (first | (apply is_true; and_intros <;> (first | rfl | assumption | (apply spec_IsName_cc <;> assumption) | (apply spec_l16Ok_cc <;> assumption) | (apply spec_l16Encode_cc <;> assumption) | (apply spec_EncodeHeap_cc <;> assumption) | (apply impl_IsName_cc <;> assumption) | (apply impl_ValidHeap_cc <;> assumption) | (apply impl_putName_cc <;> assumption) | (apply impl_NameHeap_encode_cc <;> assumption) | (apply impl_EncodeHeap_cc <;> assumption) | (first | (apply is_true; and_intros <;> (first | rfl | assumption | (apply spec_IsName_cc <;> assumption) | (apply spec_l16Ok_cc <;> assumption) | (apply spec_l16Encode_cc <;> assumption) | (apply spec_EncodeHeap_cc <;> assumption) | (apply impl_IsName_cc <;> assumption) | (apply impl_ValidHeap_cc <;> assumption) | (apply impl_putName_cc <;> assumption) | (apply impl_NameHeap_encode_cc <;> assumption) | (apply impl_EncodeHeap_cc <;> assumption) | (first | (apply is_true; and_intros <;> (first | rfl | assumption | (apply spec_IsName_cc <;> assumption) | (apply spec_l16Ok_cc <;> assumption) | (apply spec_l16Encode_cc <;> assumption) | (apply spec_EncodeHeap_cc <;> assumption) | (apply impl_IsName_cc <;> assumption) | (apply impl_ValidHeap_cc <;> assumption) | (apply impl_putName_cc <;> assumption) | (apply impl_NameHeap_encode_cc <;> assumption) | (apply impl_EncodeHeap_cc <;> assumption))) | (apply spec_IsName_cc <;> assumption) | (apply spec_l16Ok_cc <;> assumption) | (apply spec_l16Encode_cc <;> assumption) | (apply spec_EncodeHeap_cc <;> assumption) | (apply impl_IsName_cc <;> assumption) | (apply impl_ValidHeap_cc <;> assumption) | (apply impl_putName_cc <;> assumption) | (apply impl_NameHeap_encode_cc <;> assumption) | (apply impl_EncodeHeap_cc <;> assumption)))) | (apply spec_IsName_cc <;> assumption) | (apply spec_l16Ok_cc <;> assumption) | (apply spec_l16Encode_cc <;> assumption) | (apply spec_EncodeHeap_cc <;> assumption) | (apply impl_IsName_cc <;> assumption) | (apply impl_ValidHeap_cc <;> assumption) | (apply impl_putName_cc <;> assumption) | (apply impl_NameHeap_encode_cc <;> assumption) | (apply impl_EncodeHeap_cc <;> assumption)))) | (apply spec_IsName_cc <;> assumption) | (apply spec_l16Ok_cc <;> assumption) | (apply spec_l16Encode_cc <;> assumption) | (apply spec_EncodeHeap_cc <;> assumption) | (apply impl_IsName_cc <;> assumption) | (apply impl_ValidHeap_cc <;> assumption) | (apply impl_putName_cc <;> assumption) | (apply impl_NameHeap_encode_cc <;> assumption) | (apply impl_EncodeHeap_cc <;> assumption)))) | (apply spec_IsName_cc <;> assumption) | (apply spec_l16Ok_cc <;> assumption) | (apply spec_l16Encode_cc <;> assumption) | (apply spec_EncodeHeap_cc <;> assumption) | (apply impl_IsName_cc <;> assumption) | (apply impl_ValidHeap_cc <;> assumption) | (apply impl_putName_cc <;> assumption) | (apply impl_NameHeap_encode_cc <;> assumption) | (apply impl_EncodeHeap_cc <;> assumption)) | simp [*]) ?_
  refine Tr.y ?_
  refine Tr.t (by first | exact (by first | (apply is_true; and_intros <;> (first | rfl | assumption | (apply spec_IsName_cc <;> assumption) | (apply spec_l16Ok_cc <;> assumption) | (apply spec_l16Encode_cc <;> assumption) | (apply spec_EncodeHeap_cc <;> assumption) | (apply impl_IsName_cc <;> assumption) | (apply impl_ValidHeap_cc <;> assumption) | (apply impl_putName_cc <;> assumption) | (apply impl_NameHeap_encode_cc <;> assumption) | (apply impl_EncodeHeap_cc <;> assumption) | (first | (apply is_true; and_intros <;> (first | rfl | assumption | (apply spec_IsName_cc <;> assumption) | (apply spec_l16Ok_cc <;> assumption) | (apply spec_l16Encode_cc <;> assumption) | (apply spec_EncodeHeap_cc <;> assumption) | (apply impl_IsName_cc <;> assumption) | (apply impl_ValidHeap_cc <;> assumption) | (apply impl_putName_cc <;> assumption) | (apply impl_NameHeap_encode_cc <;> assumption) | (apply impl_EncodeHeap_cc <;> assumption) | (first | (apply is_true; and_intros <;> (first | rfl | assumption | (apply spec_IsName_cc <;> assumption) | (apply spec_l16Ok_cc <;> assumption) | (apply spec_l16Encode_cc <;> assumption) | (apply spec_EncodeHeap_cc <;> assumption) | (apply impl_IsName_cc <;> assumption) | (apply impl_ValidHeap_cc <;> assumption) | (apply impl_putName_cc <;> assumption) | (apply impl_NameHeap_encode_cc <;> assumption) | (apply impl_EncodeHeap_cc <;> assumption) | (first | (apply is_true; and_intros <;> (first | rfl | assumption | (apply spec_IsName_cc <;> assumption) | (apply spec_l16Ok_cc <;> assumption) | (apply spec_l16Encode_cc <;> assumption) | (apply spec_EncodeHeap_cc <;> assumption) | (apply impl_IsName_cc <;> assumption) | (apply impl_ValidHeap_cc <;> assumption) | (apply impl_putName_cc <;> assumption) | (apply impl_NameHeap_encode_cc <;> assumption) | (apply impl_EncodeHeap_cc <;> assumption))) | (apply spec_IsName_cc <;> assumption) | (apply spec_l16Ok_cc <;> assumption) | (apply spec_l16Encode_cc <;> assumption) | (apply spec_EncodeHeap_cc <;> assumption) | (apply impl_IsName_cc <;> assumption) | (apply impl_ValidHeap_cc <;> assumption) | (apply impl_putName_cc <;> assumption) | (apply impl_NameHeap_encode_cc <;> assumption) | (apply impl_EncodeHeap_cc <;> assumption)))) | (apply spec_IsName_cc <;> assumption) | (apply spec_l16Ok_cc <;> assumption) | (apply spec_l16Encode_cc <;> assumption) | (apply spec_EncodeHeap_cc <;> assumption) | (apply impl_IsName_cc <;> assumption) | (apply impl_ValidHeap_cc <;> assumption) | (apply impl_putName_cc <;> assumption) | (apply impl_NameHeap_encode_cc <;> assumption) | (apply impl_EncodeHeap_cc <;> assumption)))) | (apply spec_IsName_cc <;> assumption) | (apply spec_l16Ok_cc <;> assumption) | (apply spec_l16Encode_cc <;> assumption) | (apply spec_EncodeHeap_cc <;> assumption) | (apply impl_IsName_cc <;> assumption) | (apply impl_ValidHeap_cc <;> assumption) | (apply impl_putName_cc <;> assumption) | (apply impl_NameHeap_encode_cc <;> assumption) | (apply impl_EncodeHeap_cc <;> assumption)))) | (apply spec_IsName_cc <;> assumption) | (apply spec_l16Ok_cc <;> assumption) | (apply spec_l16Encode_cc <;> assumption) | (apply spec_EncodeHeap_cc <;> assumption) | (apply impl_IsName_cc <;> assumption) | (apply impl_ValidHeap_cc <;> assumption) | (apply impl_putName_cc <;> assumption) | (apply impl_NameHeap_encode_cc <;> assumption) | (apply impl_EncodeHeap_cc <;> assumption)) | simp [*]) ?_
  refine Tr.t (by first | exact (by first | (apply is_true; and_intros <;> (first | rfl | assumption | (apply spec_IsName_cc <;> assumption) | (apply spec_l16Ok_cc <;> assumption) | (apply spec_l16Encode_cc <;> assumption) | (apply spec_EncodeHeap_cc <;> assumption) | (apply impl_IsName_cc <;> assumption) | (apply impl_ValidHeap_cc <;> assumption) | (apply impl_putName_cc <;> assumption) | (apply impl_NameHeap_encode_cc <;> assumption) | (apply impl_EncodeHeap_cc <;> assumption) | (first | (apply is_true; and_intros <;> (first | rfl | assumption | (apply spec_IsName_cc <;> assumption) | (apply spec_l16Ok_cc <;> assumption) | (apply spec_l16Encode_cc <;> assumption) | (apply spec_EncodeHeap_cc <;> assumption) | (apply impl_IsName_cc <;> assumption) | (apply impl_ValidHeap_cc <;> assumption) | (apply impl_putName_cc <;> assumption) | (apply impl_NameHeap_encode_cc <;> assumption) | (apply impl_EncodeHeap_cc <;> assumption) | (first | (apply is_true; and_intros <;> (first | rfl | assumption | (apply spec_IsName_cc <;> assumption) | (apply spec_l16Ok_cc <;> assumption) | (apply spec_l16Encode_cc <;> assumption) | (apply spec_EncodeHeap_cc <;> assumption) | (apply impl_IsName_cc <;> assumption) | (apply impl_ValidHeap_cc <;> assumption) | (apply impl_putName_cc <;> assumption) | (apply impl_NameHeap_encode_cc <;> assumption) | (apply impl_EncodeHeap_cc <;> assumption) | (first | (apply is_true; and_intros <;> (first | rfl | assumption | (apply spec_IsName_cc <;> assumption) | (apply spec_l16Ok_cc <;> assumption) | (apply spec_l16Encode_cc <;> assumption) | (apply spec_EncodeHeap_cc <;> assumption) | (apply impl_IsName_cc <;> assumption) | (apply impl_ValidHeap_cc <;> assumption) | (apply impl_putName_cc <;> assumption) | (apply impl_NameHeap_encode_cc <;> assumption) | (apply impl_EncodeHeap_cc <;> assumption))) | (apply spec_IsName_cc <;> assumption) | (apply spec_l16Ok_cc <;> assumption) | (apply spec_l16Encode_cc <;> assumption) | (apply spec_EncodeHeap_cc <;> assumption) | (apply impl_IsName_cc <;> assumption) | (apply impl_ValidHeap_cc <;> assumption) | (apply impl_putName_cc <;> assumption) | (apply impl_NameHeap_encode_cc <;> assumption) | (apply impl_EncodeHeap_cc <;> assumption)))) | (apply spec_IsName_cc <;> assumption) | (apply spec_l16Ok_cc <;> assumption) | (apply spec_l16Encode_cc <;> assumption) | (apply spec_EncodeHeap_cc <;> assumption) | (apply impl_IsName_cc <;> assumption) | (apply impl_ValidHeap_cc <;> assumption) | (apply impl_putName_cc <;> assumption) | (apply impl_NameHeap_encode_cc <;> assumption) | (apply impl_EncodeHeap_cc <;> assumption)))) | (apply spec_IsName_cc <;> assumption) | (apply spec_l16Ok_cc <;> assumption) | (apply spec_l16Encode_cc <;> assumption) | (apply spec_EncodeHeap_cc <;> assumption) | (apply impl_IsName_cc <;> assumption) | (apply impl_ValidHeap_cc <;> assumption) | (apply impl_putName_cc <;> assumption) | (apply impl_NameHeap_encode_cc <;> assumption) | (apply impl_EncodeHeap_cc <;> assumption)))) | (apply spec_IsName_cc <;> assumption) | (apply spec_l16Ok_cc <;> assumption) | (apply spec_l16Encode_cc <;> assumption) | (apply spec_EncodeHeap_cc <;> assumption) | (apply impl_IsName_cc <;> assumption) | (apply impl_ValidHeap_cc <;> assumption) | (apply impl_putName_cc <;> assumption) | (apply impl_NameHeap_encode_cc <;> assumption) | (apply impl_EncodeHeap_cc <;> assumption)) | simp [*]) ?_
  refine Tr.t (by first | exact (by first | (apply is_true; and_intros <;> (first | rfl | assumption | (apply spec_IsName_cc <;> assumption) | (apply spec_l16Ok_cc <;> assumption) | (apply spec_l16Encode_cc <;> assumption) | (apply spec_EncodeHeap_cc <;> assumption) | (apply impl_IsName_cc <;> assumption) | (apply impl_ValidHeap_cc <;> assumption) | (apply impl_putName_cc <;> assumption) | (apply impl_NameHeap_encode_cc <;> assumption) | (apply impl_EncodeHeap_cc <;> assumption) | (first | (apply is_true; and_intros <;> (first | rfl | assumption | (apply spec_IsName_cc <;> assumption) | (apply spec_l16Ok_cc <;> assumption) | (apply spec_l16Encode_cc <;> assumption) | (apply spec_EncodeHeap_cc <;> assumption) | (apply impl_IsName_cc <;> assumption) | (apply impl_ValidHeap_cc <;> assumption) | (apply impl_putName_cc <;> assumption) | (apply impl_NameHeap_encode_cc <;> assumption) | (apply impl_EncodeHeap_cc <;> assumption) | (first | (apply is_true; and_intros <;> (first | rfl | assumption | (apply spec_IsName_cc <;> assumption) | (apply spec_l16Ok_cc <;> assumption) | (apply spec_l16Encode_cc <;> assumption) | (apply spec_EncodeHeap_cc <;> assumption) | (apply impl_IsName_cc <;> assumption) | (apply impl_ValidHeap_cc <;> assumption) | (apply impl_putName_cc <;> assumption) | (apply impl_NameHeap_encode_cc <;> assumption) | (apply impl_EncodeHeap_cc <;> assumption) | (first | (apply is_true; and_intros <;> (first | rfl | assumption | (apply spec_IsName_cc <;> assumption) | (apply spec_l16Ok_cc <;> assumption) | (apply spec_l16Encode_cc <;> assumption) | (apply spec_EncodeHeap_cc <;> assumption) | (apply impl_IsName_cc <;> assumption) | (apply impl_ValidHeap_cc <;> assumption) | (apply impl_putName_cc <;> assumption) | (apply impl_NameHeap_encode_cc <;> assumption) | (apply impl_EncodeHeap_cc <;> assumption))) | (apply spec_IsName_cc <;> assumption) | (apply spec_l16Ok_cc <;> assumption) | (apply spec_l16Encode_cc <;> assumption) | (apply spec_EncodeHeap_cc <;> assumption) | (apply impl_IsName_cc <;> assumption) | (apply impl_ValidHeap_cc <;> assumption) | (apply impl_putName_cc <;> assumption) | (apply impl_NameHeap_encode_cc <;> assumption) | (apply impl_EncodeHeap_cc <;> assumption)))) | (apply spec_IsName_cc <;> assumption) | (apply spec_l16Ok_cc <;> assumption) | (apply spec_l16Encode_cc <;> assumption) | (apply spec_EncodeHeap_cc <;> assumption) | (apply impl_IsName_cc <;> assumption) | (apply impl_ValidHeap_cc <;> assumption) | (apply impl_putName_cc <;> assumption) | (apply impl_NameHeap_encode_cc <;> assumption) | (apply impl_EncodeHeap_cc <;> assumption)))) | (apply spec_IsName_cc <;> assumption) | (apply spec_l16Ok_cc <;> assumption) | (apply spec_l16Encode_cc <;> assumption) | (apply spec_EncodeHeap_cc <;> assumption) | (apply impl_IsName_cc <;> assumption) | (apply impl_ValidHeap_cc <;> assumption) | (apply impl_putName_cc <;> assumption) | (apply impl_NameHeap_encode_cc <;> assumption) | (apply impl_EncodeHeap_cc <;> assumption)))) | (apply spec_IsName_cc <;> assumption) | (apply spec_l16Ok_cc <;> assumption) | (apply spec_l16Encode_cc <;> assumption) | (apply spec_EncodeHeap_cc <;> assumption) | (apply impl_IsName_cc <;> assumption) | (apply impl_ValidHeap_cc <;> assumption) | (apply impl_putName_cc <;> assumption) | (apply impl_NameHeap_encode_cc <;> assumption) | (apply impl_EncodeHeap_cc <;> assumption)) | simp [*]) ?_
  refine Tr.t (by first | exact (by first | (apply is_true; and_intros <;> (first | rfl | assumption | (apply spec_IsName_cc <;> assumption) | (apply spec_l16Ok_cc <;> assumption) | (apply spec_l16Encode_cc <;> assumption) | (apply spec_EncodeHeap_cc <;> assumption) | (apply impl_IsName_cc <;> assumption) | (apply impl_ValidHeap_cc <;> assumption) | (apply impl_putName_cc <;> assumption) | (apply impl_NameHeap_encode_cc <;> assumption) | (apply impl_EncodeHeap_cc <;> assumption) | (first | (apply is_true; and_intros <;> (first | rfl | assumption | (apply spec_IsName_cc <;> assumption) | (apply spec_l16Ok_cc <;> assumption) | (apply spec_l16Encode_cc <;> assumption) | (apply spec_EncodeHeap_cc <;> assumption) | (apply impl_IsName_cc <;> assumption) | (apply impl_ValidHeap_cc <;> assumption) | (apply impl_putName_cc <;> assumption) | (apply impl_NameHeap_encode_cc <;> assumption) | (apply impl_EncodeHeap_cc <;> assumption) | (first | (apply is_true; and_intros <;> (first | rfl | assumption | (apply spec_IsName_cc <;> assumption) | (apply spec_l16Ok_cc <;> assumption) | (apply spec_l16Encode_cc <;> assumption) | (apply spec_EncodeHeap_cc <;> assumption) | (apply impl_IsName_cc <;> assumption) | (apply impl_ValidHeap_cc <;> assumption) | (apply impl_putName_cc <;> assumption) | (apply impl_NameHeap_encode_cc <;> assumption) | (apply impl_EncodeHeap_cc <;> assumption) | (first | (apply is_true; and_intros <;> (first | rfl | assumption | (apply spec_IsName_cc <;> assumption) | (apply spec_l16Ok_cc <;> assumption) | (apply spec_l16Encode_cc <;> assumption) | (apply spec_EncodeHeap_cc <;> assumption) | (apply impl_IsName_cc <;> assumption) | (apply impl_ValidHeap_cc <;> assumption) | (apply impl_putName_cc <;> assumption) | (apply impl_NameHeap_encode_cc <;> assumption) | (apply impl_EncodeHeap_cc <;> assumption))) | (apply spec_IsName_cc <;> assumption) | (apply spec_l16Ok_cc <;> assumption) | (apply spec_l16Encode_cc <;> assumption) | (apply spec_EncodeHeap_cc <;> assumption) | (apply impl_IsName_cc <;> assumption) | (apply impl_ValidHeap_cc <;> assumption) | (apply impl_putName_cc <;> assumption) | (apply impl_NameHeap_encode_cc <;> assumption) | (apply impl_EncodeHeap_cc <;> assumption)))) | (apply spec_IsName_cc <;> assumption) | (apply spec_l16Ok_cc <;> assumption) | (apply spec_l16Encode_cc <;> assumption) | (apply spec_EncodeHeap_cc <;> assumption) | (apply impl_IsName_cc <;> assumption) | (apply impl_ValidHeap_cc <;> assumption) | (apply impl_putName_cc <;> assumption) | (apply impl_NameHeap_encode_cc <;> assumption) | (apply impl_EncodeHeap_cc <;> assumption)))) | (apply spec_IsName_cc <;> assumption) | (apply spec_l16Ok_cc <;> assumption) | (apply spec_l16Encode_cc <;> assumption) | (apply spec_EncodeHeap_cc <;> assumption) | (apply impl_IsName_cc <;> assumption) | (apply impl_ValidHeap_cc <;> assumption) | (apply impl_putName_cc <;> assumption) | (apply impl_NameHeap_encode_cc <;> assumption) | (apply impl_EncodeHeap_cc <;> assumption)))) | (apply spec_IsName_cc <;> assumption) | (apply spec_l16Ok_cc <;> assumption) | (apply spec_l16Encode_cc <;> assumption) | (apply spec_EncodeHeap_cc <;> assumption) | (apply impl_IsName_cc <;> assumption) | (apply impl_ValidHeap_cc <;> assumption) | (apply impl_putName_cc <;> assumption) | (apply impl_NameHeap_encode_cc <;> assumption) | (apply impl_EncodeHeap_cc <;> assumption)) | simp [*]) ?_
  refine Tr.n (by first | (simp [laws_szStringS_k5_1, laws_szStringS_u5_2, laws_szStringS_u5_3, laws_szStringS_v, laws_szNameHeap_v, laws_toStringS_u3_1, laws_toStringS_v, laws_toNameHeap_v, spec_l01Letter_v, spec_IsName_k4_1, spec_IsName_vv, spec_l16Ok_k5_1, spec_l16Ok_vv, spec_l02Byte_v, spec_l16Encode_u3_1, spec_l16Encode_vv, spec_EncodeHeap_vv, impl_IsName_k2_1, impl_IsName_u2_2, impl_IsName_u2_3, impl_IsName_vv, impl_ValidHeap_1_v, slices_IndexFunc_string_string_k2_1, slices_IndexFunc_string_string_u2_3, slices_IndexFunc_string_string_v, slices_ContainsFunc_string_string_v, impl_ValidHeap_vv, impl_putBytes_u3_1, impl_putBytes_v, impl_putName_v, impl_NameHeap_encode_u3_1, impl_NameHeap_encode_vv, impl_EncodeHeap_vv, laws_eqStringS_v, laws_eqNameHeap_v]; done) | (simp only [laws_szStringS_k5_1, laws_szStringS_u5_2, laws_szStringS_u5_3, laws_szStringS_v, laws_szNameHeap_v, laws_toStringS_u3_1, laws_toStringS_v, laws_toNameHeap_v, spec_l01Letter_v, spec_IsName_k4_1, spec_IsName_vv, spec_l16Ok_k5_1, spec_l16Ok_vv, spec_l02Byte_v, spec_l16Encode_u3_1, spec_l16Encode_vv, spec_EncodeHeap_vv, impl_IsName_k2_1, impl_IsName_u2_2, impl_IsName_u2_3, impl_IsName_vv, impl_ValidHeap_1_v, slices_IndexFunc_string_string_k2_1, slices_IndexFunc_string_string_u2_3, slices_IndexFunc_string_string_v, slices_ContainsFunc_string_string_v, impl_ValidHeap_vv, impl_putBytes_u3_1, impl_putBytes_v, impl_putName_v, impl_NameHeap_encode_u3_1, impl_NameHeap_encode_vv, impl_EncodeHeap_vv, laws_eqStringS_v, laws_eqNameHeap_v, nth0, nth1, nth2, nth3, nth4, nth5, int_i, bool_b, str_s, list_l, cells_p, Bool.not_eq_true, bne_self_eq_false, beq_self_eq_true, Bool.not_true]; done) | (simp [laws_szStringS_k5_1, laws_szStringS_u5_2, laws_szStringS_u5_3, laws_szStringS_v, laws_szNameHeap_v, laws_toStringS_u3_1, laws_toStringS_v, laws_toNameHeap_v, spec_l01Letter_v, spec_IsName_k4_1, spec_IsName_vv, spec_l16Ok_k5_1, spec_l16Ok_vv, spec_l02Byte_v, spec_l16Encode_u3_1, spec_l16Encode_vv, spec_EncodeHeap_vv, impl_IsName_k2_1, impl_IsName_u2_2, impl_IsName_u2_3, impl_IsName_vv, impl_ValidHeap_1_v, slices_IndexFunc_string_string_k2_1, slices_IndexFunc_string_string_u2_3, slices_IndexFunc_string_string_v, slices_ContainsFunc_string_string_v, impl_ValidHeap_vv, impl_putBytes_u3_1, impl_putBytes_v, impl_putName_v, impl_NameHeap_encode_u3_1, impl_NameHeap_encode_vv, impl_EncodeHeap_vv, laws_eqStringS_v, laws_eqNameHeap_v, nth0, nth1, nth2, nth3, nth4, nth5, int_i, bool_b, str_s, list_l, cells_p]; done) | (simp [laws_szStringS_k5_1, laws_szStringS_u5_2, laws_szStringS_u5_3, laws_szStringS_v, laws_szNameHeap_v, laws_toStringS_u3_1, laws_toStringS_v, laws_toNameHeap_v, spec_l01Letter_v, spec_IsName_k4_1, spec_IsName_vv, spec_l16Ok_k5_1, spec_l16Ok_vv, spec_l02Byte_v, spec_l16Encode_u3_1, spec_l16Encode_vv, spec_EncodeHeap_vv, impl_IsName_k2_1, impl_IsName_u2_2, impl_IsName_u2_3, impl_IsName_vv, impl_ValidHeap_1_v, slices_IndexFunc_string_string_k2_1, slices_IndexFunc_string_string_u2_3, slices_IndexFunc_string_string_v, slices_ContainsFunc_string_string_v, impl_ValidHeap_vv, impl_putBytes_u3_1, impl_putBytes_v, impl_putName_v, impl_NameHeap_encode_u3_1, impl_NameHeap_encode_vv, impl_EncodeHeap_vv, laws_eqStringS_v, laws_eqNameHeap_v, nth0, nth1, nth2, nth3, nth4, nth5, int_i, bool_b, str_s, list_l, cells_p] <;> rfl)) ?_
  refine Tr.t (by first | exact (by first | (apply is_true; and_intros <;> (first | rfl | assumption | (apply spec_IsName_cc <;> assumption) | (apply spec_l16Ok_cc <;> assumption) | (apply spec_l16Encode_cc <;> assumption) | (apply spec_EncodeHeap_cc <;> assumption) | (apply impl_IsName_cc <;> assumption) | (apply impl_ValidHeap_cc <;> assumption) | (apply impl_putName_cc <;> assumption) | (apply impl_NameHeap_encode_cc <;> assumption) | (apply impl_EncodeHeap_cc <;> assumption) | (first | (apply is_true; and_intros <;> (first | rfl | assumption | (apply spec_IsName_cc <;> assumption) | (apply spec_l16Ok_cc <;> assumption) | (apply spec_l16Encode_cc <;> assumption) | (apply spec_EncodeHeap_cc <;> assumption) | (apply impl_IsName_cc <;> assumption) | (apply impl_ValidHeap_cc <;> assumption) | (apply impl_putName_cc <;> assumption) | (apply impl_NameHeap_encode_cc <;> assumption) | (apply impl_EncodeHeap_cc <;> assumption) | (first | (apply is_true; and_intros <;> (first | rfl | assumption | (apply spec_IsName_cc <;> assumption) | (apply spec_l16Ok_cc <;> assumption) | (apply spec_l16Encode_cc <;> assumption) | (apply spec_EncodeHeap_cc <;> assumption) | (apply impl_IsName_cc <;> assumption) | (apply impl_ValidHeap_cc <;> assumption) | (apply impl_putName_cc <;> assumption) | (apply impl_NameHeap_encode_cc <;> assumption) | (apply impl_EncodeHeap_cc <;> assumption) | (first | (apply is_true; and_intros <;> (first | rfl | assumption | (apply spec_IsName_cc <;> assumption) | (apply spec_l16Ok_cc <;> assumption) | (apply spec_l16Encode_cc <;> assumption) | (apply spec_EncodeHeap_cc <;> assumption) | (apply impl_IsName_cc <;> assumption) | (apply impl_ValidHeap_cc <;> assumption) | (apply impl_putName_cc <;> assumption) | (apply impl_NameHeap_encode_cc <;> assumption) | (apply impl_EncodeHeap_cc <;> assumption))) | (apply spec_IsName_cc <;> assumption) | (apply spec_l16Ok_cc <;> assumption) | (apply spec_l16Encode_cc <;> assumption) | (apply spec_EncodeHeap_cc <;> assumption) | (apply impl_IsName_cc <;> assumption) | (apply impl_ValidHeap_cc <;> assumption) | (apply impl_putName_cc <;> assumption) | (apply impl_NameHeap_encode_cc <;> assumption) | (apply impl_EncodeHeap_cc <;> assumption)))) | (apply spec_IsName_cc <;> assumption) | (apply spec_l16Ok_cc <;> assumption) | (apply spec_l16Encode_cc <;> assumption) | (apply spec_EncodeHeap_cc <;> assumption) | (apply impl_IsName_cc <;> assumption) | (apply impl_ValidHeap_cc <;> assumption) | (apply impl_putName_cc <;> assumption) | (apply impl_NameHeap_encode_cc <;> assumption) | (apply impl_EncodeHeap_cc <;> assumption)))) | (apply spec_IsName_cc <;> assumption) | (apply spec_l16Ok_cc <;> assumption) | (apply spec_l16Encode_cc <;> assumption) | (apply spec_EncodeHeap_cc <;> assumption) | (apply impl_IsName_cc <;> assumption) | (apply impl_ValidHeap_cc <;> assumption) | (apply impl_putName_cc <;> assumption) | (apply impl_NameHeap_encode_cc <;> assumption) | (apply impl_EncodeHeap_cc <;> assumption)))) | (apply spec_IsName_cc <;> assumption) | (apply spec_l16Ok_cc <;> assumption) | (apply spec_l16Encode_cc <;> assumption) | (apply spec_EncodeHeap_cc <;> assumption) | (apply impl_IsName_cc <;> assumption) | (apply impl_ValidHeap_cc <;> assumption) | (apply impl_putName_cc <;> assumption) | (apply impl_NameHeap_encode_cc <;> assumption) | (apply impl_EncodeHeap_cc <;> assumption)) | simp [*]) ?_
  refine Tr.t (by first | exact (by first | (apply is_true; and_intros <;> (first | rfl | assumption | (apply spec_IsName_cc <;> assumption) | (apply spec_l16Ok_cc <;> assumption) | (apply spec_l16Encode_cc <;> assumption) | (apply spec_EncodeHeap_cc <;> assumption) | (apply impl_IsName_cc <;> assumption) | (apply impl_ValidHeap_cc <;> assumption) | (apply impl_putName_cc <;> assumption) | (apply impl_NameHeap_encode_cc <;> assumption) | (apply impl_EncodeHeap_cc <;> assumption) | (first | (apply is_true; and_intros <;> (first | rfl | assumption | (apply spec_IsName_cc <;> assumption) | (apply spec_l16Ok_cc <;> assumption) | (apply spec_l16Encode_cc <;> assumption) | (apply spec_EncodeHeap_cc <;> assumption) | (apply impl_IsName_cc <;> assumption) | (apply impl_ValidHeap_cc <;> assumption) | (apply impl_putName_cc <;> assumption) | (apply impl_NameHeap_encode_cc <;> assumption) | (apply impl_EncodeHeap_cc <;> assumption) | (first | (apply is_true; and_intros <;> (first | rfl | assumption | (apply spec_IsName_cc <;> assumption) | (apply spec_l16Ok_cc <;> assumption) | (apply spec_l16Encode_cc <;> assumption) | (apply spec_EncodeHeap_cc <;> assumption) | (apply impl_IsName_cc <;> assumption) | (apply impl_ValidHeap_cc <;> assumption) | (apply impl_putName_cc <;> assumption) | (apply impl_NameHeap_encode_cc <;> assumption) | (apply impl_EncodeHeap_cc <;> assumption) | (first | (apply is_true; and_intros <;> (first | rfl | assumption | (apply spec_IsName_cc <;> assumption) | (apply spec_l16Ok_cc <;> assumption) | (apply spec_l16Encode_cc <;> assumption) | (apply spec_EncodeHeap_cc <;> assumption) | (apply impl_IsName_cc <;> assumption) | (apply impl_ValidHeap_cc <;> assumption) | (apply impl_putName_cc <;> assumption) | (apply impl_NameHeap_encode_cc <;> assumption) | (apply impl_EncodeHeap_cc <;> assumption))) | (apply spec_IsName_cc <;> assumption) | (apply spec_l16Ok_cc <;> assumption) | (apply spec_l16Encode_cc <;> assumption) | (apply spec_EncodeHeap_cc <;> assumption) | (apply impl_IsName_cc <;> assumption) | (apply impl_ValidHeap_cc <;> assumption) | (apply impl_putName_cc <;> assumption) | (apply impl_NameHeap_encode_cc <;> assumption) | (apply impl_EncodeHeap_cc <;> assumption)))) | (apply spec_IsName_cc <;> assumption) | (apply spec_l16Ok_cc <;> assumption) | (apply spec_l16Encode_cc <;> assumption) | (apply spec_EncodeHeap_cc <;> assumption) | (apply impl_IsName_cc <;> assumption) | (apply impl_ValidHeap_cc <;> assumption) | (apply impl_putName_cc <;> assumption) | (apply impl_NameHeap_encode_cc <;> assumption) | (apply impl_EncodeHeap_cc <;> assumption)))) | (apply spec_IsName_cc <;> assumption) | (apply spec_l16Ok_cc <;> assumption) | (apply spec_l16Encode_cc <;> assumption) | (apply spec_EncodeHeap_cc <;> assumption) | (apply impl_IsName_cc <;> assumption) | (apply impl_ValidHeap_cc <;> assumption) | (apply impl_putName_cc <;> assumption) | (apply impl_NameHeap_encode_cc <;> assumption) | (apply impl_EncodeHeap_cc <;> assumption)))) | (apply spec_IsName_cc <;> assumption) | (apply spec_l16Ok_cc <;> assumption) | (apply spec_l16Encode_cc <;> assumption) | (apply spec_EncodeHeap_cc <;> assumption) | (apply impl_IsName_cc <;> assumption) | (apply impl_ValidHeap_cc <;> assumption) | (apply impl_putName_cc <;> assumption) | (apply impl_NameHeap_encode_cc <;> assumption) | (apply impl_EncodeHeap_cc <;> assumption)) | simp [*]) ?_
  refine Tr.n (by first | (simp [laws_szStringS_k5_1, laws_szStringS_u5_2, laws_szStringS_u5_3, laws_szStringS_v, laws_szNameHeap_v, laws_toStringS_u3_1, laws_toStringS_v, laws_toNameHeap_v, spec_l01Letter_v, spec_IsName_k4_1, spec_IsName_vv, spec_l16Ok_k5_1, spec_l16Ok_vv, spec_l02Byte_v, spec_l16Encode_u3_1, spec_l16Encode_vv, spec_EncodeHeap_vv, impl_IsName_k2_1, impl_IsName_u2_2, impl_IsName_u2_3, impl_IsName_vv, impl_ValidHeap_1_v, slices_IndexFunc_string_string_k2_1, slices_IndexFunc_string_string_u2_3, slices_IndexFunc_string_string_v, slices_ContainsFunc_string_string_v, impl_ValidHeap_vv, impl_putBytes_u3_1, impl_putBytes_v, impl_putName_v, impl_NameHeap_encode_u3_1, impl_NameHeap_encode_vv, impl_EncodeHeap_vv, laws_eqStringS_v, laws_eqNameHeap_v]; done) | (simp only [laws_szStringS_k5_1, laws_szStringS_u5_2, laws_szStringS_u5_3, laws_szStringS_v, laws_szNameHeap_v, laws_toStringS_u3_1, laws_toStringS_v, laws_toNameHeap_v, spec_l01Letter_v, spec_IsName_k4_1, spec_IsName_vv, spec_l16Ok_k5_1, spec_l16Ok_vv, spec_l02Byte_v, spec_l16Encode_u3_1, spec_l16Encode_vv, spec_EncodeHeap_vv, impl_IsName_k2_1, impl_IsName_u2_2, impl_IsName_u2_3, impl_IsName_vv, impl_ValidHeap_1_v, slices_IndexFunc_string_string_k2_1, slices_IndexFunc_string_string_u2_3, slices_IndexFunc_string_string_v, slices_ContainsFunc_string_string_v, impl_ValidHeap_vv, impl_putBytes_u3_1, impl_putBytes_v, impl_putName_v, impl_NameHeap_encode_u3_1, impl_NameHeap_encode_vv, impl_EncodeHeap_vv, laws_eqStringS_v, laws_eqNameHeap_v, nth0, nth1, nth2, nth3, nth4, nth5, int_i, bool_b, str_s, list_l, cells_p, Bool.not_eq_true, bne_self_eq_false, beq_self_eq_true, Bool.not_true]; done) | (simp [laws_szStringS_k5_1, laws_szStringS_u5_2, laws_szStringS_u5_3, laws_szStringS_v, laws_szNameHeap_v, laws_toStringS_u3_1, laws_toStringS_v, laws_toNameHeap_v, spec_l01Letter_v, spec_IsName_k4_1, spec_IsName_vv, spec_l16Ok_k5_1, spec_l16Ok_vv, spec_l02Byte_v, spec_l16Encode_u3_1, spec_l16Encode_vv, spec_EncodeHeap_vv, impl_IsName_k2_1, impl_IsName_u2_2, impl_IsName_u2_3, impl_IsName_vv, impl_ValidHeap_1_v, slices_IndexFunc_string_string_k2_1, slices_IndexFunc_string_string_u2_3, slices_IndexFunc_string_string_v, slices_ContainsFunc_string_string_v, impl_ValidHeap_vv, impl_putBytes_u3_1, impl_putBytes_v, impl_putName_v, impl_NameHeap_encode_u3_1, impl_NameHeap_encode_vv, impl_EncodeHeap_vv, laws_eqStringS_v, laws_eqNameHeap_v, nth0, nth1, nth2, nth3, nth4, nth5, int_i, bool_b, str_s, list_l, cells_p]; done) | (simp [laws_szStringS_k5_1, laws_szStringS_u5_2, laws_szStringS_u5_3, laws_szStringS_v, laws_szNameHeap_v, laws_toStringS_u3_1, laws_toStringS_v, laws_toNameHeap_v, spec_l01Letter_v, spec_IsName_k4_1, spec_IsName_vv, spec_l16Ok_k5_1, spec_l16Ok_vv, spec_l02Byte_v, spec_l16Encode_u3_1, spec_l16Encode_vv, spec_EncodeHeap_vv, impl_IsName_k2_1, impl_IsName_u2_2, impl_IsName_u2_3, impl_IsName_vv, impl_ValidHeap_1_v, slices_IndexFunc_string_string_k2_1, slices_IndexFunc_string_string_u2_3, slices_IndexFunc_string_string_v, slices_ContainsFunc_string_string_v, impl_ValidHeap_vv, impl_putBytes_u3_1, impl_putBytes_v, impl_putName_v, impl_NameHeap_encode_u3_1, impl_NameHeap_encode_vv, impl_EncodeHeap_vv, laws_eqStringS_v, laws_eqNameHeap_v, nth0, nth1, nth2, nth3, nth4, nth5, int_i, bool_b, str_s, list_l, cells_p] <;> rfl)) ?_
  rfl
theorem laws_FnExactEncodeHeap_pure : ∀ xs, ArgsTyped tab [45] xs → runF tab FT D21 live 9 noLoops xs = yes := by
  intro xs h
  cases h with | cons l0 g0 h =>
  obtain ⟨z0_0, rfl⟩ := len_1 l0
  have q0 := g0 0 (by decide)
  have q0 : Typed tab (.slice 9) z0_0 := q0
  obtain ⟨y0, rfl⟩ := typed_slice q0
  cases h
  refine (laws_FnExactEncodeHeap_e y0).trans ?_
  rw [Tr.run_eq, laws_FnExactEncodeHeap_p y0 q0]
  rfl
end Go.Proofs.Ytdifjmbflnkojaa.V
