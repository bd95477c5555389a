/- What the functions of FnExactEncodeSpace answer. No condition. -/
import Derived.Test.YtdifjmbflnkojaaVFacts
namespace Go.Proofs.Ytdifjmbflnkojaa.V
open Go
set_option maxRecDepth 100000
set_option linter.unusedVariables false
set_option linter.unusedSimpArgs false
/-! laws_szInt64S -/
noncomputable def laws_szInt64S_t (a0 : List (List TC)) (a1 : Int) : Tr (Int) := (.ite ((decide ((IntKind.wrap .i64 (a1 - (a0.length : Int))) < (0 : Int))) = true) (.ok (-1 : Int))
  (.ok (IntKind.wrap .i64 (a1 - (a0.length : Int)))))
def laws_szInt64S_mk (p : Int) : Res := [(false, [⟨.int .i64, .sh, TC.i p⟩])]
noncomputable def laws_szInt64S_c (a0 : List (List TC)) (a1 : Int) : Bool := true
noncomputable def laws_szInt64S_v (a0 : List (List TC)) (a1 : Int) : Int := (bif (decide ((IntKind.wrap .i64 (a1 - (a0.length : Int))) < (0 : Int))) then (-1 : Int) else (IntKind.wrap .i64 (a1 - (a0.length : Int))))
theorem laws_szInt64S_l (a0 : List (List TC)) (a1 : Int) : (laws_szInt64S_c a0 a1) = true → (laws_szInt64S_t a0 a1).val = some (laws_szInt64S_v a0 a1) := by
  intro h
  skip
  unfold laws_szInt64S_t laws_szInt64S_v
  exact (Tr.s rfl rfl)
noncomputable def laws_szInt64S_S : List Arg → Option (Bool × Res) := fun xs => match xs with
  | [(false, [(.slice 2, TC.l a0)]), (false, [(.int .i64, TC.i a1)])] => some (true, laws_szInt64S_mk (laws_szInt64S_v a0 a1))
  | _ => .none
theorem laws_szInt64S_e (a0 : List (List TC)) (a1 : Int) : runF tab FT D0 live 88 noLoops [(false, [(.slice 2, TC.l a0)]), (false, [(.int .i64, TC.i a1)])] = (laws_szInt64S_t a0 a1).run fun p => some (laws_szInt64S_mk p) := by kernel_rfl
theorem laws_szInt64S_s : ∀ xs r, laws_szInt64S_S xs = some (true, r) → runF tab FT D0 live 88 noLoops xs = some r := by
  intro xs r h
  unfold laws_szInt64S_S at h
  split at h
  · simp only [Option.some.injEq, Prod.mk.injEq] at h
    obtain ⟨h1, rfl⟩ := h
    exact fun_told (laws_szInt64S_e _ _) (laws_szInt64S_l _ _) rfl
  · cases h
noncomputable def D1 : Dt := also D0 88 laws_szInt64S_S
theorem d1 : DOk Go.Proofs.Try.prog tab D1 := d0.also mixed_ok tab_ok names_ok noLoops_ok laws_szInt64S_s
/-! laws_szSpace -/
noncomputable def laws_szSpace_t (a0 : List (List TC)) (a1 : List (List TC)) (a2 : Int) : Tr (Int) := (.ite ((decide ((laws_szInt64S_v a0 a2) < (0 : Int))) = true) (.ok (-1 : Int))
  (.ite ((decide ((laws_szInt64S_v a1 (laws_szInt64S_v a0 a2)) < (0 : Int))) = true) (.ok (-1 : Int))
   (.ok (laws_szInt64S_v a1 (laws_szInt64S_v a0 a2)))))
def laws_szSpace_mk (p : Int) : Res := [(false, [⟨.int .i64, .sh, TC.i p⟩])]
noncomputable def laws_szSpace_c (a0 : List (List TC)) (a1 : List (List TC)) (a2 : Int) : Bool := true
noncomputable def laws_szSpace_v (a0 : List (List TC)) (a1 : List (List TC)) (a2 : Int) : Int := (bif (decide ((laws_szInt64S_v a0 a2) < (0 : Int))) then (-1 : Int) else (bif (decide ((laws_szInt64S_v a1 (laws_szInt64S_v a0 a2)) < (0 : Int))) then (-1 : Int) else (laws_szInt64S_v a1 (laws_szInt64S_v a0 a2))))
theorem laws_szSpace_l (a0 : List (List TC)) (a1 : List (List TC)) (a2 : Int) : (laws_szSpace_c a0 a1 a2) = true → (laws_szSpace_t a0 a1 a2).val = some (laws_szSpace_v a0 a1 a2) := by
  intro h
  skip
  unfold laws_szSpace_t laws_szSpace_v
  exact (Tr.s rfl (Tr.s rfl rfl))
noncomputable def laws_szSpace_S : List Arg → Option (Bool × Res) := fun xs => match xs with
  | [(true, [(.slice 2, TC.l a0), (.slice 2, TC.l a1)]), (false, [(.int .i64, TC.i a2)])] => some (true, laws_szSpace_mk (laws_szSpace_v a0 a1 a2))
  | _ => .none
theorem laws_szSpace_e (a0 : List (List TC)) (a1 : List (List TC)) (a2 : Int) : runF tab FT D1 live 44 noLoops [(true, [(.slice 2, TC.l a0), (.slice 2, TC.l a1)]), (false, [(.int .i64, TC.i a2)])] = (laws_szSpace_t a0 a1 a2).run fun p => some (laws_szSpace_mk p) := by kernel_rfl
theorem laws_szSpace_s : ∀ xs r, laws_szSpace_S xs = some (true, r) → runF tab FT D1 live 44 noLoops xs = some r := by
  intro xs r h
  unfold laws_szSpace_S at h
  split at h
  · simp only [Option.some.injEq, Prod.mk.injEq] at h
    obtain ⟨h1, rfl⟩ := h
    exact fun_told (laws_szSpace_e _ _ _) (laws_szSpace_l _ _ _) rfl
  · cases h
noncomputable def D2 : Dt := also D1 44 laws_szSpace_S
theorem d2 : DOk Go.Proofs.Try.prog tab D2 := d1.also mixed_ok tab_ok names_ok noLoops_ok laws_szSpace_s
/-! laws_toInt64S -/
def laws_toInt64S_g (x : List TC) : List TC := [TC.i ((nth x 0).int)]
def laws_toInt64S_z : List TC := [TC.i (0 : Int)]
abbrev laws_toInt64S_3_σ := List (List TC) × List (List TC) × Int
abbrev laws_toInt64S_3_ω := (List (List TC))
noncomputable def laws_toInt64S_3_step (A : List (List TC)) (X : List (List TC)) (i : Int) : Tr (laws_toInt64S_3_σ ⊕ laws_toInt64S_3_ω) := (.ite ((decide (i < (A.length : Int))) = true) (.ite ((0 : Int) ≤ i ∧ i < (A.length : Int)) (.ite ((0 : Int) ≤ i ∧ i < (X.length : Int)) (.ok (.inl (A, (X.set (i).toNat (splice (row X i) 0 [TC.i ((nth (row A i) 0).int)])), (IntKind.wrap .i64 (i + (1 : Int))))))
    .no)
   .no)
  (.ok (.inr X)))
noncomputable def laws_toInt64S_3_st : laws_toInt64S_3_σ → Tr (laws_toInt64S_3_σ ⊕ laws_toInt64S_3_ω) := fun x => (laws_toInt64S_3_step (x.1) (x.2.1) (x.2.2))
noncomputable def laws_toInt64S_o3_1 (A : List (List TC)) (X : List (List TC)) (i : Int) : Bool := is (Typed tab (.slice 2) (.l A) ∧ X = List.replicate A.length laws_toInt64S_z ∧ i = 0)
noncomputable def laws_toInt64S_u3_1 (A : List (List TC)) (X : List (List TC)) (i : Int) : List (List TC) := A.map laws_toInt64S_g
noncomputable def laws_toInt64S_3_fin (A : List (List TC)) (X : List (List TC)) (i : Int) : Told laws_toInt64S_3_ω := (.leaf (laws_toInt64S_o3_1 A X i) (laws_toInt64S_u3_1 A X i))
def laws_toInt64S_3_sl (x : laws_toInt64S_3_σ) : List Slot := [⟨.val false [⟨.slice 2, .sh, TC.l (x.1)⟩], ⟨0, 0⟩⟩, ⟨.val false [⟨.slice 2, .own true, TC.l (x.2.1)⟩], ⟨0, 0⟩⟩, ⟨.val false [⟨.int .i64, .sh, TC.i (x.2.2)⟩], ⟨0, 0⟩⟩]
def laws_toInt64S_3_out : laws_toInt64S_3_ω → Ex × List Slot := (fun x => (.exit 0, [Slot.none, ⟨.val false [⟨.slice 2, .own true, TC.l x⟩], ⟨0, 0⟩⟩]))
noncomputable def laws_toInt64S_lo3 : List Slot → Option (Told (Ex × List Slot)) := fun s => match s with
  | [⟨.val false [⟨.slice 2, .sh, TC.l A⟩], ⟨0, 0⟩⟩, ⟨.val false [⟨.slice 2, .own true, TC.l X⟩], ⟨0, 0⟩⟩, ⟨.val false [⟨.int .i64, .sh, TC.i i⟩], ⟨0, 0⟩⟩] => some (((laws_toInt64S_3_fin A X i)).map laws_toInt64S_3_out)
  | _ => .none
noncomputable def laws_toInt64S_lo : LoopTeller := fun r s => bif Nat.beq r 3 then laws_toInt64S_lo3 s else .none
theorem laws_toInt64S_3_r (A : List (List TC)) (X : List (List TC)) (i : Int) (fuel : Nat) : rounds (rnd tab FT D2 live 90 laws_toInt64S_lo 0 3) leave (fuel + 1) (laws_toInt64S_3_sl (A, X, i)) = ((laws_toInt64S_3_step A X i)).run (goOn (fun s => rounds (rnd tab FT D2 live 90 laws_toInt64S_lo 0 3) leave fuel (laws_toInt64S_3_sl s)) fun w => some (laws_toInt64S_3_out w)) := by kernel_rfl
theorem laws_toInt64S_3_h (A : List (List TC)) (X : List (List TC)) (i : Int) (ow : laws_toInt64S_3_ω) : ((laws_toInt64S_3_fin A X i)).val = some ow → ∃ fuel, loopN laws_toInt64S_3_st fuel (A, X, i) = some ow := by
  intro h
  simp only [laws_toInt64S_3_fin, Told.val] at h
  split at h
  · rename_i ho
    obtain ⟨ht, rfl, rfl⟩ := is_iff.1 ho
    cases h
    have hlen : A.length ≤ 140737488351232 := by have := typed_room ht; simp only [show (tab 2).bytes = 8 from rfl] at this; omega
    have key := loopN_copy (step := laws_toInt64S_3_st) A (List.replicate A.length laws_toInt64S_z) laws_toInt64S_g (fun Y i => (A, Y, (i : Int))) (A.map laws_toInt64S_g) (by simp) (fun x hx i _ => by rw [(List.mem_replicate.1 hx).2]; exact Nat.le_refl 1) (fun Y i hi hl => ?_) ?_ A.length 0 (by omega)
    · rw [copied_zero] at key
      exact ⟨_, key⟩
    · skip
      show (laws_toInt64S_3_step A Y (i : Int)).val = _
      unfold laws_toInt64S_3_step
      refine Tr.t (by simp; omega) ?_
      refine Tr.t (by constructor <;> omega) ?_
      refine Tr.t (by constructor <;> omega) ?_
      repeat (refine Tr.t (by first | (apply is_true; and_intros <;> (first | rfl | assumption | (first | (apply is_true; and_intros <;> (first | rfl | assumption | (first | (apply is_true; and_intros <;> (first | rfl | assumption | (first | (apply is_true; and_intros <;> (first | rfl | assumption)))))))))))) ?_)
      rw [Tr.val_ok, wrap64 (i := (i : Int) + 1) (by omega) (by omega)]; rfl
    · show (laws_toInt64S_3_step A (A.map laws_toInt64S_g) (A.length : Int)).val = _
      refine Tr.n (by simp) ?_
      rfl
  · cases h
theorem laws_toInt64S_is3 : LoopIs tab FT D2 live 90 laws_toInt64S_lo 0 3 := by
  refine loop_told (sl := laws_toInt64S_3_sl) (step := laws_toInt64S_3_st) (out := laws_toInt64S_3_out) (lor := laws_toInt64S_lo3) (fin := fun x => (laws_toInt64S_3_fin (x.1) (x.2.1) (x.2.2))) (fun _ => rfl) ?_ (fun x n => laws_toInt64S_3_r x.1 x.2.1 x.2.2 n) (fun x ow => laws_toInt64S_3_h x.1 x.2.1 x.2.2 ow)
  intro s t h
  unfold laws_toInt64S_lo3 at h
  split at h
  · cases h; exact ⟨(_, _, _), rfl, rfl⟩
  · cases h
noncomputable def laws_toInt64S_t (A : List (List TC)) : Tr (List (List TC)) := (.ite (0 ≤ (A.length : Int) ∧ (A.length : Int) ≤ (A.length : Int) ∧ (A.length : Int) * 8 ≤ 140737488355328 ∧ (A.length : Int) ≤ 140737488355328) (.ite ((laws_toInt64S_o3_1 A (List.replicate ((A.length : Int)).toNat [TC.i (0 : Int)]) (0 : Int)) = true) (.ok (laws_toInt64S_u3_1 A (List.replicate ((A.length : Int)).toNat [TC.i (0 : Int)]) (0 : Int)))
   .no)
  .no)
def laws_toInt64S_mk (p : List (List TC)) : Res := [(false, [⟨.slice 2, .own true, TC.l p⟩])]
noncomputable def laws_toInt64S_c (A : List (List TC)) : Bool := is (Typed tab (.slice 2) (.l A))
noncomputable def laws_toInt64S_v (A : List (List TC)) : List (List TC) := A.map laws_toInt64S_g
theorem laws_toInt64S_l (A : List (List TC)) : (laws_toInt64S_c A) = true → (laws_toInt64S_t A).val = some (laws_toInt64S_v A) := by
  intro h
  have ht := is_iff.1 h
  have hb := typed_room ht
  simp only [show (tab 2).bytes = 8 from rfl] at hb
  unfold laws_toInt64S_t
  refine Tr.t (by omega) ?_
  refine Tr.t (is_true ⟨ht, by rfl, rfl⟩) ?_
  rfl
noncomputable def laws_toInt64S_S : List Arg → Option (Bool × Res) := fun xs => match xs with
  | [(false, [(.slice 2, TC.l A)])] => some ((laws_toInt64S_c A), laws_toInt64S_mk (laws_toInt64S_v A))
  | _ => .none
theorem laws_toInt64S_e (A : List (List TC)) : runF tab FT D2 live 90 laws_toInt64S_lo [(false, [(.slice 2, TC.l A)])] = (laws_toInt64S_t A).run fun p => some (laws_toInt64S_mk p) := by kernel_rfl
theorem laws_toInt64S_s : ∀ xs r, laws_toInt64S_S xs = some (true, r) → runF tab FT D2 live 90 laws_toInt64S_lo xs = some r := by
  intro xs r h
  unfold laws_toInt64S_S at h
  split at h
  · simp only [Option.some.injEq, Prod.mk.injEq] at h
    obtain ⟨h1, rfl⟩ := h
    exact fun_told (laws_toInt64S_e _) (laws_toInt64S_l _) h1
  · cases h
noncomputable def D3 : Dt := also D2 90 laws_toInt64S_S
theorem d3 : DOk Go.Proofs.Try.prog tab D3 := d2.also mixed_ok tab_ok names_ok (fnLoops_one (by kernel_rfl) laws_toInt64S_is3) laws_toInt64S_s
theorem laws_toInt64S_ty {A : List (List TC)} (h : Typed tab (.slice 2) (.l A)) : Typed tab (.slice 2) (.l (A.map laws_toInt64S_g)) := by
  refine typed_map h (by decide) fun x _ _ hx => ⟨rfl, fun k hk => ?_⟩
  match k, hk with
    | 0, _ => exact typed_i (hx 0 (by decide))
/-! laws_toSpace -/
noncomputable def laws_toSpace_t (x0 : List (List TC)) (x1 : List (List TC)) : Tr (List (List TC) × List (List TC)) := (.ite ((laws_toInt64S_c x0) = true) (.ite ((laws_toInt64S_c x1) = true) (.ok ((laws_toInt64S_v x0), (laws_toInt64S_v x1)))
   .no)
  .no)
def laws_toSpace_mk (p : List (List TC) × List (List TC)) : Res := [(true, [⟨.slice 2, .own true, TC.l (p.1)⟩, ⟨.slice 2, .own true, TC.l (p.2)⟩])]
noncomputable def laws_toSpace_c (x0 : List (List TC)) (x1 : List (List TC)) : Bool := is (Typed tab (.slice 2) (.l x0) ∧ Typed tab (.slice 2) (.l x1))
noncomputable def laws_toSpace_v (x0 : List (List TC)) (x1 : List (List TC)) : List (List TC) × List (List TC) := ((laws_toInt64S_v x0), (laws_toInt64S_v x1))
theorem laws_toSpace_l (x0 : List (List TC)) (x1 : List (List TC)) : (laws_toSpace_c x0 x1) = true → (laws_toSpace_t x0 x1).val = some (laws_toSpace_v x0 x1) := by
  intro h
  obtain ⟨t0, t1⟩ := is_iff.1 h
  unfold laws_toSpace_t
  repeat (refine Tr.t (by first | (apply is_true; and_intros <;> (first | rfl | assumption | (first | (apply is_true; and_intros <;> (first | rfl | assumption | (first | (apply is_true; and_intros <;> (first | rfl | assumption | (first | (apply is_true; and_intros <;> (first | rfl | assumption)))))))))))) ?_)
  rfl
noncomputable def laws_toSpace_S : List Arg → Option (Bool × Res) := fun xs => match xs with
  | [(true, [(.slice 2, TC.l x0), (.slice 2, TC.l x1)])] => some ((laws_toSpace_c x0 x1), laws_toSpace_mk (laws_toSpace_v x0 x1))
  | _ => .none
theorem laws_toSpace_e (x0 : List (List TC)) (x1 : List (List TC)) : runF tab FT D3 live 46 noLoops [(true, [(.slice 2, TC.l x0), (.slice 2, TC.l x1)])] = (laws_toSpace_t x0 x1).run fun p => some (laws_toSpace_mk p) := by kernel_rfl
theorem laws_toSpace_s : ∀ xs r, laws_toSpace_S xs = some (true, r) → runF tab FT D3 live 46 noLoops xs = some r := by
  intro xs r h
  unfold laws_toSpace_S at h
  split at h
  · simp only [Option.some.injEq, Prod.mk.injEq] at h
    obtain ⟨h1, rfl⟩ := h
    exact fun_told (laws_toSpace_e _ _) (laws_toSpace_l _ _) h1
  · cases h
noncomputable def D4 : Dt := also D3 46 laws_toSpace_S
theorem d4 : DOk Go.Proofs.Try.prog tab D4 := d3.also mixed_ok tab_ok names_ok noLoops_ok laws_toSpace_s
/-! spec_l00In -/
noncomputable def spec_l00In_t (a0 : Int) (a1 : Int) (a2 : Int) : Tr (Bool) := (.ite ((decide (a0 ≥ a1)) = true) (.ok (decide (a0 ≤ a2)))
  (.ok false))
def spec_l00In_mk (p : Bool) : Res := [(false, [⟨.bool, .sh, TC.b p⟩])]
noncomputable def spec_l00In_c (a0 : Int) (a1 : Int) (a2 : Int) : Bool := true
noncomputable def spec_l00In_v (a0 : Int) (a1 : Int) (a2 : Int) : Bool := (bif (decide (a0 ≥ a1)) then (decide (a0 ≤ a2)) else false)
theorem spec_l00In_l (a0 : Int) (a1 : Int) (a2 : Int) : (spec_l00In_c a0 a1 a2) = true → (spec_l00In_t a0 a1 a2).val = some (spec_l00In_v a0 a1 a2) := by
  intro h
  skip
  unfold spec_l00In_t spec_l00In_v
  exact (Tr.s rfl rfl)
noncomputable def spec_l00In_S : List Arg → Option (Bool × Res) := fun xs => match xs with
  | [(false, [(.int .i64, TC.i a0)]), (false, [(.int .i64, TC.i a1)]), (false, [(.int .i64, TC.i a2)])] => some (true, spec_l00In_mk (spec_l00In_v a0 a1 a2))
  | _ => .none
theorem spec_l00In_e (a0 : Int) (a1 : Int) (a2 : Int) : runF tab FT D4 live 53 noLoops [(false, [(.int .i64, TC.i a0)]), (false, [(.int .i64, TC.i a1)]), (false, [(.int .i64, TC.i a2)])] = (spec_l00In_t a0 a1 a2).run fun p => some (spec_l00In_mk p) := by kernel_rfl
theorem spec_l00In_s : ∀ xs r, spec_l00In_S xs = some (true, r) → runF tab FT D4 live 53 noLoops xs = some r := by
  intro xs r h
  unfold spec_l00In_S at h
  split at h
  · simp only [Option.some.injEq, Prod.mk.injEq] at h
    obtain ⟨h1, rfl⟩ := h
    exact fun_told (spec_l00In_e _ _ _) (spec_l00In_l _ _ _) rfl
  · cases h
noncomputable def D5 : Dt := also D4 53 spec_l00In_S
theorem d5 : DOk Go.Proofs.Try.prog tab D5 := d4.also mixed_ok tab_ok names_ok noLoops_ok spec_l00In_s
def inR (lo hi : Int) (x : List TC) : Bool := bif decide ((nth x 0).int ≥ lo) then decide ((nth x 0).int ≤ hi) else false
def mulR (n : Int) (x : List TC) : Int := IntKind.wrap .i64 (n * (nth x 0).int)
def prodL (A : List (List TC)) : Int := A.foldl mulR 1
def gridC (d c : List TC) : List TC := [.i (IntKind.wrap .i64 (Int.tdiv (IntKind.wrap .i64 ((IntKind.wrap .i64 ((nth d 0).int + (nth c 0).int)) - (1 : Int))) ((nth c 0).int)))]
def gridL (D C : List (List TC)) : List (List TC) := List.zipWith gridC D C
theorem lenEq {D C : List (List TC)} (h : (!((C.length : Int) == (D.length : Int))) = false) : D.length = C.length := by
  have h2 : ((C.length : Int) == (D.length : Int)) = true := by simpa using h
  have h3 := eq_of_beq h2
  omega
theorem nnF {b : Bool} (h : (!(!(!b))) = false) : b = true := by simpa using h
theorem gridL_at {D C : List (List TC)} {i : Nat} (hl : D.length = C.length) (hi : i < (gridL D C).length) : (gridL D C)[i] = gridC (D.getD i []) (C.getD i []) := by
  have h1 : i < D.length := by simp [gridL] at hi; omega
  have h2 : i < C.length := by omega
  rw [getD_at h1, getD_at h2]
  exact List.getElem_zipWith
theorem inR_1 {C : List (List TC)} (h : C.all (inR 1 40) = true) {i : Nat} (hi : i < C.length) : (nth (C.getD i []) 0).int ≠ 0 := by
  have h1 := (List.all_eq_true.1 h) (C.getD i []) (mem_getD hi)
  unfold inR at h1
  intro h0
  rw [h0] at h1
  cases h1
theorem gridL_len {D C : List (List TC)} (h : D.length ≤ 140737488351232) : (gridL D C).length ≤ 140737488351232 := by simp only [gridL, List.length_zipWith]; omega
theorem gridL_ty {e : TypeId} {D C : List (List TC)} (he : (tab e).cts = [.int .i64]) (h : Typed tab (.slice e) (.l D)) : Typed tab (.slice e) (.l (gridL D C)) := by
  have hm : ∀ x, x ∈ gridL D C → ∃ d c, x = gridC d c := by
    intro x hx
    obtain ⟨i, hi, rfl⟩ := List.getElem_of_mem hx
    exact ⟨_, _, List.getElem_zipWith⟩
  cases h with
  | slice _ _ h1 h2 h3 h4 =>
    have hl : (gridL D C).length ≤ D.length := by simp only [gridL, List.length_zipWith]; omega
    refine .slice _ _ (Nat.le_trans (Nat.mul_le_mul_right _ hl) h1) (Nat.le_trans hl h2) (fun x hx => ?_) (fun x hx k hk => ?_)
    · obtain ⟨d, c, rfl⟩ := hm x hx
      rw [he]; rfl
    · obtain ⟨d, c, rfl⟩ := hm x hx
      rw [he] at hk ⊢
      match k, hk with
      | 0, _ => exact .int _ _ (wrap_wf _)
def dimsOk (D : List (List TC)) : Bool := decide ((D.length : Int) ≤ 3) && D.all (inR 0 40) && decide (prodL D ≤ 600)
def chunkOk (D C : List (List TC)) : Bool := dimsOk D && ((C.length : Int) == (D.length : Int)) && C.all (inR 1 40) && decide (prodL C ≤ 64) && (gridL D C).all (inR 0 16) && decide (prodL (gridL D C) ≤ 256)
theorem dimsOk_all {D : List (List TC)} (h : dimsOk D = true) : D.all (inR 0 40) = true := by
  unfold dimsOk at h
  simp only [Bool.and_eq_true] at h
  exact h.1.2
def le16 (x : List TC) : Bool := !(decide ((nth x 0).int > 16))
theorem inR_iff {lo hi : Int} {x : List TC} : inR lo hi x = true ↔ lo ≤ (nth x 0).int ∧ (nth x 0).int ≤ hi := by
  unfold inR
  by_cases h : lo ≤ (nth x 0).int <;> simp [h]
theorem gridC_val {d c : List TC} (hd : inR 0 40 d = true) (hc : inR 1 40 c = true) : (nth (gridC d c) 0).int = Int.tdiv ((nth d 0).int + (nth c 0).int - 1) ((nth c 0).int) ∧ 0 ≤ (nth (gridC d c) 0).int := by
  rw [inR_iff] at hd hc
  have h0 : 0 ≤ Int.tdiv ((nth d 0).int + (nth c 0).int - 1) ((nth c 0).int) := Int.tdiv_nonneg (by omega) (by omega)
  have h1 : Int.tdiv ((nth d 0).int + (nth c 0).int - 1) ((nth c 0).int) ≤ (nth d 0).int + (nth c 0).int - 1 := Int.tdiv_le_self _ (by omega)
  have e : (nth (gridC d c) 0).int = Int.tdiv ((nth d 0).int + (nth c 0).int - 1) ((nth c 0).int) := by
    show IntKind.wrap .i64 (Int.tdiv (IntKind.wrap .i64 ((IntKind.wrap .i64 ((nth d 0).int + (nth c 0).int)) - (1 : Int))) ((nth c 0).int)) = _
    rw [wrap64 (i := (nth d 0).int + (nth c 0).int) (by omega) (by omega), wrap64 (i := (nth d 0).int + (nth c 0).int - 1) (by omega) (by omega), wrap64 (by omega) (by omega)]
  rw [e]
  exact ⟨rfl, h0⟩
theorem grid_all {D C : List (List TC)} (hd : D.all (inR 0 40) = true) (hc : C.all (inR 1 40) = true) : (gridL D C).all le16 = (gridL D C).all (inR 0 16) := by
  rw [Bool.eq_iff_iff, List.all_eq_true, List.all_eq_true]
  refine forall_congr' fun x => forall_congr' fun hx => ?_
  obtain ⟨i, hi, rfl⟩ := List.getElem_of_mem hx
  have h1 : i < D.length := by simp [gridL] at hi; omega
  have h2 : i < C.length := by simp [gridL] at hi; omega
  have hg : (gridL D C)[i] = gridC D[i] C[i] := List.getElem_zipWith
  rw [hg]
  have h0 := (gridC_val (List.all_eq_true.1 hd _ (List.getElem_mem h1)) (List.all_eq_true.1 hc _ (List.getElem_mem h2))).2
  rw [inR_iff]
  unfold le16
  simp
  omega
/-! spec_l05Dims -/
abbrev spec_l05Dims_5_σ := List (List TC) × Int × Int
abbrev spec_l05Dims_5_ω := (Int) ⊕ (Int)
noncomputable def spec_l05Dims_5_step (A : List (List TC)) (n : Int) (i : Int) : Tr (spec_l05Dims_5_σ ⊕ spec_l05Dims_5_ω) := (.ite ((decide (i < (A.length : Int))) = true) (.ite ((0 : Int) ≤ i ∧ i < (A.length : Int)) (.ite ((!(spec_l00In_v ((nth (row A i) 0).int) (0 : Int) (40 : Int))) = true) (.ok (.inr (.inl n)))
    (.ite ((0 : Int) ≤ i ∧ i < (A.length : Int)) (.ok (.inl (A, (IntKind.wrap .i64 (n * (nth (row A i) 0).int)), (IntKind.wrap .i64 (i + (1 : Int))))))
     .no))
   .no)
  (.ok (.inr (.inr n))))
noncomputable def spec_l05Dims_5_st : spec_l05Dims_5_σ → Tr (spec_l05Dims_5_σ ⊕ spec_l05Dims_5_ω) := fun x => (spec_l05Dims_5_step (x.1) (x.2.1) (x.2.2))
noncomputable def spec_l05Dims_k5_1 (A : List (List TC)) (n : Int) (i : Int) : Bool := A.all (inR 0 40)
noncomputable def spec_l05Dims_o5_2 (A : List (List TC)) (n : Int) (i : Int) : Bool := is (i = 0 ∧ n = 1 ∧ Typed tab (.slice 2) (.l A))
noncomputable def spec_l05Dims_u5_2 (A : List (List TC)) (n : Int) (i : Int) : Int := (A.foldl mulR (1 : Int))
noncomputable def spec_l05Dims_o5_3 (A : List (List TC)) (n : Int) (i : Int) : Bool := is (i = 0 ∧ n = 1 ∧ Typed tab (.slice 2) (.l A))
noncomputable def spec_l05Dims_u5_3 (A : List (List TC)) (n : Int) (i : Int) : Int := ((A.take (A.findIdx fun x => !(inR 0 40) x)).foldl mulR (1 : Int))
noncomputable def spec_l05Dims_5_fin (A : List (List TC)) (n : Int) (i : Int) : Told spec_l05Dims_5_ω := (.br (spec_l05Dims_k5_1 A n i) (.leaf (spec_l05Dims_o5_2 A n i) (.inr (spec_l05Dims_u5_2 A n i))) (.leaf (spec_l05Dims_o5_3 A n i) (.inl (spec_l05Dims_u5_3 A n i))))
def spec_l05Dims_5_sl (x : spec_l05Dims_5_σ) : List Slot := [⟨.val false [⟨.slice 2, .sh, TC.l (x.1)⟩], ⟨0, 0⟩⟩, ⟨.val false [⟨.int .i64, .sh, TC.i (x.2.1)⟩], ⟨0, 0⟩⟩, ⟨.val false [⟨.int .i64, .sh, TC.i (x.2.2)⟩], ⟨0, 0⟩⟩]
def spec_l05Dims_5_out : spec_l05Dims_5_ω → Ex × List Slot := (Sum.elim (fun x => (.ret, [⟨.val false [⟨.bool, .sh, TC.b false⟩], ⟨0, 0⟩⟩, ⟨.val false [⟨.int .i64, .sh, TC.i x⟩], ⟨0, 0⟩⟩])) (fun x => (.exit 0, [Slot.none, ⟨.val false [⟨.int .i64, .sh, TC.i x⟩], ⟨0, 0⟩⟩])))
noncomputable def spec_l05Dims_lo5 : List Slot → Option (Told (Ex × List Slot)) := fun s => match s with
  | [⟨.val false [⟨.slice 2, .sh, TC.l A⟩], ⟨0, 0⟩⟩, ⟨.val false [⟨.int .i64, .sh, TC.i n⟩], ⟨0, 0⟩⟩, ⟨.val false [⟨.int .i64, .sh, TC.i i⟩], ⟨0, 0⟩⟩] => some (((spec_l05Dims_5_fin A n i)).map spec_l05Dims_5_out)
  | _ => .none
noncomputable def spec_l05Dims_lo : LoopTeller := fun r s => bif Nat.beq r 5 then spec_l05Dims_lo5 s else .none
theorem spec_l05Dims_5_r (A : List (List TC)) (n : Int) (i : Int) (fuel : Nat) : rounds (rnd tab FT D5 live 126 spec_l05Dims_lo 0 5) leave (fuel + 1) (spec_l05Dims_5_sl (A, n, i)) = ((spec_l05Dims_5_step A n i)).run (goOn (fun s => rounds (rnd tab FT D5 live 126 spec_l05Dims_lo 0 5) leave fuel (spec_l05Dims_5_sl s)) fun w => some (spec_l05Dims_5_out w)) := by kernel_rfl
theorem spec_l05Dims_5_h (A : List (List TC)) (n : Int) (i : Int) (ow : spec_l05Dims_5_ω) : ((spec_l05Dims_5_fin A n i)).val = some ow → ∃ fuel, loopN spec_l05Dims_5_st fuel (A, n, i) = some ow := by
  intro h
  have key : Typed tab (.slice 2) (.l A) → loopN spec_l05Dims_5_st (A.length + 1) (A, (1 : Int), (0 : Int)) = some (if A.all (inR 0 40) = true then (.inr (A.foldl mulR (1 : Int))) else (.inl ((A.take (A.findIdx fun x => !(inR 0 40) x)).foldl mulR (1 : Int)))) := by
    intro ht
    have hlen : A.length ≤ 140737488351232 := by have := typed_room ht; simp only [show (tab 2).bytes = 8 from rfl] at this; omega
    have key := loopN_scan (step := spec_l05Dims_5_st) A [] (inR 0 40) mulR (fun i a => (A, a, (i : Int))) (fun a => (.inr a)) (fun i a => (.inl a)) (fun i a hi => ?_) (fun a => ?_) A.length 0 (1 : Int) (by omega)
    · first | (rw [Nat.zero_add] at key; exact key) | exact key
    · skip
      show (spec_l05Dims_5_step A a (i : Int)).val = _
      unfold spec_l05Dims_5_step
      refine Tr.t (by simp; omega) ?_
      skip
      refine Tr.t (by first | omega | (constructor <;> omega)) ?_
      refine Tr.b (P := (inR 0 40) (A.getD i [])) (fun hP => ?_) (fun _ => rfl)
      refine Tr.t (by first | omega | (constructor <;> omega)) ?_
      rw [Tr.val_ok, wrap64 (i := (i : Int) + 1) (by omega) (by omega)]; rfl
    · show (spec_l05Dims_5_step A a (A.length : Int)).val = _
      refine Tr.n (by simp) ?_
      rfl
  simp only [spec_l05Dims_5_fin, Told.val] at h
  cases hk : A.all (inR 0 40) with
  | true =>
    rw [if_pos (show spec_l05Dims_k5_1 A n i = true from hk)] at h
    split at h
    · rename_i ho
      obtain ⟨rfl, rfl, ht⟩ := is_iff.1 ho
      cases h
      refine ⟨_, (key ht).trans ?_⟩
      rw [hk]; rfl
    · cases h
  | false =>
    rw [if_neg (show ¬spec_l05Dims_k5_1 A n i = true from by rw [show spec_l05Dims_k5_1 A n i = (A.all (inR 0 40)) from rfl, hk]; simp)] at h
    split at h
    · rename_i ho
      obtain ⟨rfl, rfl, ht⟩ := is_iff.1 ho
      cases h
      refine ⟨_, (key ht).trans ?_⟩
      rw [hk]; rfl
    · cases h
theorem spec_l05Dims_is5 : LoopIs tab FT D5 live 126 spec_l05Dims_lo 0 5 := by
  refine loop_told (sl := spec_l05Dims_5_sl) (step := spec_l05Dims_5_st) (out := spec_l05Dims_5_out) (lor := spec_l05Dims_lo5) (fin := fun x => (spec_l05Dims_5_fin (x.1) (x.2.1) (x.2.2))) (fun _ => rfl) ?_ (fun x n => spec_l05Dims_5_r x.1 x.2.1 x.2.2 n) (fun x ow => spec_l05Dims_5_h x.1 x.2.1 x.2.2 ow)
  intro s t h
  unfold spec_l05Dims_lo5 at h
  split at h
  · cases h; exact ⟨(_, _, _), rfl, rfl⟩
  · cases h
noncomputable def spec_l05Dims_t (A : List (List TC)) : Tr (Bool) := (.ite ((decide ((A.length : Int) > (3 : Int))) = true) (.ok false)
  (.ite ((spec_l05Dims_k5_1 A (1 : Int) (0 : Int)) = true) (.ite ((spec_l05Dims_o5_2 A (1 : Int) (0 : Int)) = true) (.ok (decide ((spec_l05Dims_u5_2 A (1 : Int) (0 : Int)) ≤ (600 : Int))))
    .no)
   (.ite ((spec_l05Dims_o5_3 A (1 : Int) (0 : Int)) = true) (.ok false)
    .no)))
def spec_l05Dims_mk (p : Bool) : Res := [(false, [⟨.bool, .sh, TC.b p⟩])]
noncomputable def spec_l05Dims_c (A : List (List TC)) : Bool := is (((spec_l05Dims_o5_2 A (1 : Int) (0 : Int)) = true) ∧ ((spec_l05Dims_o5_3 A (1 : Int) (0 : Int)) = true))
noncomputable def spec_l05Dims_v (A : List (List TC)) : Bool := (bif (decide ((A.length : Int) > (3 : Int))) then false else (bif (spec_l05Dims_k5_1 A (1 : Int) (0 : Int)) then (decide ((spec_l05Dims_u5_2 A (1 : Int) (0 : Int)) ≤ (600 : Int))) else false))
theorem spec_l05Dims_l (A : List (List TC)) : (spec_l05Dims_c A) = true → (spec_l05Dims_t A).val = some (spec_l05Dims_v A) := by
  intro h
  obtain ⟨g0, g1⟩ := is_iff.1 h
  unfold spec_l05Dims_t spec_l05Dims_v
  exact (Tr.s rfl (Tr.s (Tr.t g0 rfl) (Tr.t g1 rfl)))
noncomputable def spec_l05Dims_S : List Arg → Option (Bool × Res) := fun xs => match xs with
  | [(false, [(.slice 2, TC.l A)])] => some ((spec_l05Dims_c A), spec_l05Dims_mk (spec_l05Dims_v A))
  | _ => .none
theorem spec_l05Dims_e (A : List (List TC)) : runF tab FT D5 live 126 spec_l05Dims_lo [(false, [(.slice 2, TC.l A)])] = (spec_l05Dims_t A).run fun p => some (spec_l05Dims_mk p) := by kernel_rfl
theorem spec_l05Dims_s : ∀ xs r, spec_l05Dims_S xs = some (true, r) → runF tab FT D5 live 126 spec_l05Dims_lo xs = some r := by
  intro xs r h
  unfold spec_l05Dims_S at h
  split at h
  · simp only [Option.some.injEq, Prod.mk.injEq] at h
    obtain ⟨h1, rfl⟩ := h
    exact fun_told (spec_l05Dims_e _) (spec_l05Dims_l _) h1
  · cases h
noncomputable def D6 : Dt := also D5 126 spec_l05Dims_S
theorem d6 : DOk Go.Proofs.Try.prog tab D6 := d5.also mixed_ok tab_ok names_ok (fnLoops_one (by kernel_rfl) spec_l05Dims_is5) spec_l05Dims_s
theorem spec_l05Dims_vv (A : List (List TC)) : spec_l05Dims_v A = dimsOk A := by
  show (bif decide ((A.length : Int) > 3) then false else bif A.all (inR 0 40) then decide (prodL A ≤ 600) else false) = _
  unfold dimsOk
  rw [show decide ((A.length : Int) > 3) = !decide ((A.length : Int) ≤ 3) from by rw [← decide_not]; simp]
  cases decide ((A.length : Int) ≤ 3) <;> cases A.all (inR 0 40) <;> rfl
def spaceB (D M : List (List TC)) (i : Int) : Bool := (nth (row M i) 0).int == -1 || inR (nth (row D i) 0).int 40 (row M i)
def spaceOk (D M : List (List TC)) : Bool := dimsOk D && ((M.length : Int) == (D.length : Int)) && allI (fun i => spaceB D M (i : Int)) M.length
/-! spec_l05Space -/
noncomputable def spec_l05Space_f4 (D : List (List TC)) (M : List (List TC)) (i : Int) : (Unit) ⊕ ((Unit) ⊕ (Unit)) := (bif (!((nth (row M i) 0).int == (-1 : Int))) then (bif (!(spec_l00In_v ((nth (row M i) 0).int) ((nth (row D i) 0).int) (40 : Int))) then (.inr (.inl ())) else (.inl ())) else (.inl ()))
noncomputable def spec_l05Space_e4 (D : List (List TC)) (M : List (List TC)) : (Unit) ⊕ (Unit) := .inr ()
noncomputable def spec_l05Space_R4 (D : List (List TC)) (M : List (List TC)) (i : Int) : (Unit) ⊕ (Unit) := iter (fun i a => (spec_l05Space_f4 D M (i : Int))) (fun a => (spec_l05Space_e4 D M)) (M.length) 0 ()
abbrev spec_l05Space_4_σ := List (List TC) × List (List TC) × Int
abbrev spec_l05Space_4_ω := (Unit) ⊕ (Unit)
noncomputable def spec_l05Space_4_step (D : List (List TC)) (M : List (List TC)) (i : Int) : Tr (spec_l05Space_4_σ ⊕ spec_l05Space_4_ω) := (.ite ((decide (i < (M.length : Int))) = true) (.ite ((0 : Int) ≤ i ∧ i < (M.length : Int)) (.ite ((!((nth (row M i) 0).int == (-1 : Int))) = true) (.ite ((0 : Int) ≤ i ∧ i < (M.length : Int)) (.ite ((0 : Int) ≤ i ∧ i < (D.length : Int)) (.ite ((!(spec_l00In_v ((nth (row M i) 0).int) ((nth (row D i) 0).int) (40 : Int))) = true) (.ok (.inr (.inl ())))
       (.ok (.inl (D, M, (IntKind.wrap .i64 (i + (1 : Int)))))))
      .no)
     .no)
    (.ok (.inl (D, M, (IntKind.wrap .i64 (i + (1 : Int)))))))
   .no)
  (.ok (.inr (.inr ()))))
noncomputable def spec_l05Space_4_st : spec_l05Space_4_σ → Tr (spec_l05Space_4_σ ⊕ spec_l05Space_4_ω) := fun x => (spec_l05Space_4_step (x.1) (x.2.1) (x.2.2))
noncomputable def spec_l05Space_k4_1 (D : List (List TC)) (M : List (List TC)) (i : Int) : Bool := sumIs (spec_l05Space_R4 D M i)
noncomputable def spec_l05Space_o4_2 (D : List (List TC)) (M : List (List TC)) (i : Int) : Bool := is (i = 0 ∧ Typed tab (.slice 2) (.l M) ∧ D.length = M.length)
noncomputable def spec_l05Space_o4_3 (D : List (List TC)) (M : List (List TC)) (i : Int) : Bool := is (i = 0 ∧ Typed tab (.slice 2) (.l M) ∧ D.length = M.length)
noncomputable def spec_l05Space_4_fin (D : List (List TC)) (M : List (List TC)) (i : Int) : Told spec_l05Space_4_ω := (.br (spec_l05Space_k4_1 D M i) (.leaf (spec_l05Space_o4_2 D M i) (.inl ())) (.leaf (spec_l05Space_o4_3 D M i) (.inr ())))
def spec_l05Space_4_sl (x : spec_l05Space_4_σ) : List Slot := [⟨.bx 68 [⟨.slice 2, .sh, TC.l (x.1)⟩, ⟨.slice 2, .sh, TC.l (x.2.1)⟩], ⟨0, 0⟩⟩, ⟨.val false [⟨.int .i64, .sh, TC.i (x.2.2)⟩], ⟨0, 0⟩⟩]
def spec_l05Space_4_out : spec_l05Space_4_ω → Ex × List Slot := (Sum.elim (fun x => (.ret, [⟨.val false [⟨.bool, .sh, TC.b false⟩], ⟨0, 0⟩⟩])) (fun x => (.exit 0, [Slot.none])))
noncomputable def spec_l05Space_lo4 : List Slot → Option (Told (Ex × List Slot)) := fun s => match s with
  | [⟨.bx 68 [⟨.slice 2, .sh, TC.l D⟩, ⟨.slice 2, .sh, TC.l M⟩], ⟨0, 0⟩⟩, ⟨.val false [⟨.int .i64, .sh, TC.i i⟩], ⟨0, 0⟩⟩] => some (((spec_l05Space_4_fin D M i)).map spec_l05Space_4_out)
  | _ => .none
noncomputable def spec_l05Space_lo : LoopTeller := fun r s => bif Nat.beq r 4 then spec_l05Space_lo4 s else .none
theorem spec_l05Space_4_r (D : List (List TC)) (M : List (List TC)) (i : Int) (fuel : Nat) : rounds (rnd tab FT D6 live 89 spec_l05Space_lo 0 4) leave (fuel + 1) (spec_l05Space_4_sl (D, M, i)) = ((spec_l05Space_4_step D M i)).run (goOn (fun s => rounds (rnd tab FT D6 live 89 spec_l05Space_lo 0 4) leave fuel (spec_l05Space_4_sl s)) fun w => some (spec_l05Space_4_out w)) := by kernel_rfl
theorem spec_l05Space_f4_eq (D M : List (List TC)) (i : Int) : spec_l05Space_f4 D M i = bif spaceB D M i then Sum.inl () else Sum.inr (Sum.inl ()) := by
  unfold spec_l05Space_f4 spaceB
  rw [show spec_l00In_v ((nth (row M i) 0).int) ((nth (row D i) 0).int) 40 = inR (nth (row D i) 0).int 40 (row M i) from rfl]
  generalize ((nth (row M i) 0).int == -1) = p0, inR (nth (row D i) 0).int 40 (row M i) = p1
  cases p0 <;> cases p1 <;> rfl
theorem spec_l05Space_R4_eq (D M : List (List TC))  : spec_l05Space_R4 D M 0 = bif allI (fun i : Nat => spaceB D M (i : Int)) (M.length) then Sum.inr () else (Sum.inl ()) := by
  unfold spec_l05Space_R4
  exact (iter_all (P := (fun i : Nat => spaceB D M (i : Int))) (g := fun _ a => a) (w := Sum.inl ()) fun j a _ => spec_l05Space_f4_eq D M _)
theorem spec_l05Space_4_h (D : List (List TC)) (M : List (List TC)) (i : Int) (ow : spec_l05Space_4_ω) : ((spec_l05Space_4_fin D M i)).val = some ow → ∃ fuel, loopN spec_l05Space_4_st fuel (D, M, i) = some ow := by
  refine auto_sum (R := (spec_l05Space_R4 D M i)) rfl rfl rfl ?_
  intro ho
  have ho : is (i = 0 ∧ Typed tab (.slice 2) (.l M) ∧ D.length = M.length) = true := ho.elim id id
  obtain ⟨rfl, ht, hl⟩ := is_iff.1 ho
  have hlen : M.length ≤ 140737488351232 := by have := typed_room ht; simp only [show (tab 2).bytes = 8 from rfl] at this; omega
  refine ⟨(M.length) + 1, ?_⟩
  refine iter_loop (step := spec_l05Space_4_st) (M.length) (fun i a => (spec_l05Space_f4 D M (i : Int))) (fun a => (spec_l05Space_e4 D M)) (fun i a => (D, M, (i : Int))) (fun _ _ => True) trivial (fun i a hi hI => ⟨?_, fun _ _ => trivial⟩) (fun a hI => ?_)
  · show (spec_l05Space_4_step D M (i : Int)).val = _
    unfold spec_l05Space_4_step spec_l05Space_f4
    skip
    refine Tr.t (by simp; omega) ?_
    exact (Tr.t (by first | omega | (constructor <;> omega)) (Tr.bf (Tr.t (by first | omega | (constructor <;> omega)) (Tr.t (by first | omega | (constructor <;> omega)) (Tr.bf rfl (by rw [Tr.val_ok, wrap64 (i := (i : Int) + 1) (by omega) (by omega)]; rfl)))) (by rw [Tr.val_ok, wrap64 (i := (i : Int) + 1) (by omega) (by omega)]; rfl)))
  · show (spec_l05Space_4_step D M (M.length : Int)).val = _
    refine Tr.n (by first | (simp; done) | (simp; omega) | omega) ?_
    rfl
theorem spec_l05Space_is4 : LoopIs tab FT D6 live 89 spec_l05Space_lo 0 4 := by
  refine loop_told (sl := spec_l05Space_4_sl) (step := spec_l05Space_4_st) (out := spec_l05Space_4_out) (lor := spec_l05Space_lo4) (fin := fun x => (spec_l05Space_4_fin (x.1) (x.2.1) (x.2.2))) (fun _ => rfl) ?_ (fun x n => spec_l05Space_4_r x.1 x.2.1 x.2.2 n) (fun x ow => spec_l05Space_4_h x.1 x.2.1 x.2.2 ow)
  intro s t h
  unfold spec_l05Space_lo4 at h
  split at h
  · cases h; exact ⟨(_, _, _), rfl, rfl⟩
  · cases h
noncomputable def spec_l05Space_t (D : List (List TC)) (M : List (List TC)) : Tr (Bool) := (.ite ((spec_l05Dims_c D) = true) (.ite ((!(spec_l05Dims_v D)) = true) (.ok false)
   (.ite ((!((M.length : Int) == (D.length : Int))) = true) (.ok false)
    (.ite ((spec_l05Space_k4_1 D M (0 : Int)) = true) (.ite ((spec_l05Space_o4_2 D M (0 : Int)) = true) (.ok false)
      .no)
     (.ite ((spec_l05Space_o4_3 D M (0 : Int)) = true) (.ok true)
      .no))))
  .no)
def spec_l05Space_mk (p : Bool) : Res := [(false, [⟨.bool, .sh, TC.b p⟩])]
noncomputable def spec_l05Space_c (D : List (List TC)) (M : List (List TC)) : Bool := ((spec_l05Dims_c D) && (bif (!(spec_l05Dims_v D)) then true else (bif (!((M.length : Int) == (D.length : Int))) then true else (bif (spec_l05Space_k4_1 D M (0 : Int)) then ((spec_l05Space_o4_2 D M (0 : Int)) && true) else ((spec_l05Space_o4_3 D M (0 : Int)) && true)))))
noncomputable def spec_l05Space_v (D : List (List TC)) (M : List (List TC)) : Bool := (bif (!(spec_l05Dims_v D)) then false else (bif (!((M.length : Int) == (D.length : Int))) then false else (bif (spec_l05Space_k4_1 D M (0 : Int)) then false else true)))
theorem spec_l05Space_l (D : List (List TC)) (M : List (List TC)) : (spec_l05Space_c D M) = true → (spec_l05Space_t D M).val = some (spec_l05Space_v D M) := by
  unfold spec_l05Space_t spec_l05Space_v spec_l05Space_c
  exact fun h => (Tr.gb h fun h => (Tr.ss h (fun h => rfl) (fun h => (Tr.ss h (fun h => rfl) (fun h => (Tr.ss h (fun h => (Tr.gb h fun h => rfl)) (fun h => (Tr.gb h fun h => rfl))))))))
noncomputable def spec_l05Space_S : List Arg → Option (Bool × Res) := fun xs => match xs with
  | [(true, [(.slice 2, TC.l D), (.slice 2, TC.l M)])] => some ((spec_l05Space_c D M), spec_l05Space_mk (spec_l05Space_v D M))
  | _ => .none
theorem spec_l05Space_e (D : List (List TC)) (M : List (List TC)) : runF tab FT D6 live 89 spec_l05Space_lo [(true, [(.slice 2, TC.l D), (.slice 2, TC.l M)])] = (spec_l05Space_t D M).run fun p => some (spec_l05Space_mk p) := by kernel_rfl
theorem spec_l05Space_s : ∀ xs r, spec_l05Space_S xs = some (true, r) → runF tab FT D6 live 89 spec_l05Space_lo xs = some r := by
  intro xs r h
  unfold spec_l05Space_S at h
  split at h
  · simp only [Option.some.injEq, Prod.mk.injEq] at h
    obtain ⟨h1, rfl⟩ := h
    exact fun_told (spec_l05Space_e _ _) (spec_l05Space_l _ _) h1
  · cases h
noncomputable def D7 : Dt := also D6 89 spec_l05Space_S
theorem d7 : DOk Go.Proofs.Try.prog tab D7 := d6.also mixed_ok tab_ok names_ok (fnLoops_one (by kernel_rfl) spec_l05Space_is4) spec_l05Space_s
theorem spec_l05Space_cc {D : List (List TC)} {M : List (List TC)} (hD : Typed tab (.slice 2) (.l D)) (hM : Typed tab (.slice 2) (.l M)) : (spec_l05Space_c D M) = true := by
  unfold spec_l05Space_c
  refine andT (by first | (apply is_true; and_intros <;> (first | rfl | assumption | (first | (apply is_true; and_intros <;> (first | rfl | assumption | (first | (apply is_true; and_intros <;> (first | rfl | assumption | (first | (apply is_true; and_intros <;> (first | rfl | assumption)))))))))))) ?_
  refine bifT (fun b1 => ?_) (fun b1 => ?_)
  · skip
    rfl
  · skip
    refine bifT (fun b2 => ?_) (fun b2 => ?_)
    · skip
      rfl
    · skip
      refine bifT (fun b3 => ?_) (fun b3 => ?_)
      · skip
        refine andT (by exact is_true ⟨rfl, hM, lenEq b2⟩) ?_
        rfl
      · skip
        refine andT (by exact is_true ⟨rfl, hM, lenEq b2⟩) ?_
        rfl
theorem spec_l05Space_vv (D M : List (List TC)) : spec_l05Space_v D M = spaceOk D M := by
  unfold spec_l05Space_v spec_l05Space_k4_1
  rw [spec_l05Space_R4_eq, spec_l05Dims_vv]
  unfold spaceOk
  cases dimsOk D <;> cases ((M.length : Int) == (D.length : Int)) <;> cases allI (fun i => spaceB D M (i : Int)) M.length <;> rfl
/-! spec_l01Bytes -/
abbrev spec_l01Bytes_3_σ := Int × Int × List (List TC) × Int
abbrev spec_l01Bytes_3_ω := (List (List TC))
noncomputable def spec_l01Bytes_3_step (n : Int) (size : Int) (X : List (List TC)) (k : Int) : Tr (spec_l01Bytes_3_σ ⊕ spec_l01Bytes_3_ω) := (.ite ((decide (k < size)) = true) (.ite (0 ≤ (IntKind.wrap .u64 ((8 : Int) * (IntKind.wrap .u64 k)))) (.ite (roomFor (tab 5) (X ++ [[TC.i (IntKind.wrap .u8 (bits .i64 (fun a b => a &&& b) (Int.fdiv n (2 ^ (min ((IntKind.wrap .u64 ((8 : Int) * (IntKind.wrap .u64 k)))).toNat 64))) (255 : Int)))]]).length) (.ok (.inl (n, size, (X ++ [[TC.i (IntKind.wrap .u8 (bits .i64 (fun a b => a &&& b) (Int.fdiv n (2 ^ (min ((IntKind.wrap .u64 ((8 : Int) * (IntKind.wrap .u64 k)))).toNat 64))) (255 : Int)))]]), (IntKind.wrap .i64 (k + (1 : Int))))))
    .no)
   .no)
  (.ok (.inr X)))
noncomputable def spec_l01Bytes_3_st : spec_l01Bytes_3_σ → Tr (spec_l01Bytes_3_σ ⊕ spec_l01Bytes_3_ω) := fun x => (spec_l01Bytes_3_step (x.1) (x.2.1) (x.2.2.1) (x.2.2.2))
noncomputable def spec_l01Bytes_o3_1 (n : Int) (size : Int) (X : List (List TC)) (k : Int) : Bool := is (∃ sz : Nat, size = (sz : Int) ∧ sz ≤ 8 ∧ X = [] ∧ k = 0)
noncomputable def spec_l01Bytes_u3_1 (n : Int) (size : Int) (X : List (List TC)) (k : Int) : List (List TC) := bRows n size.toNat
noncomputable def spec_l01Bytes_3_fin (n : Int) (size : Int) (X : List (List TC)) (k : Int) : Told spec_l01Bytes_3_ω := (.leaf (spec_l01Bytes_o3_1 n size X k) (spec_l01Bytes_u3_1 n size X k))
def spec_l01Bytes_3_sl (x : spec_l01Bytes_3_σ) : List Slot := [⟨.val false [⟨.int .i64, .sh, TC.i (x.1)⟩], ⟨0, 0⟩⟩, ⟨.val false [⟨.int .i64, .sh, TC.i (x.2.1)⟩], ⟨0, 0⟩⟩, ⟨.val false [⟨.slice 5, .own true, TC.l (x.2.2.1)⟩], ⟨0, 0⟩⟩, ⟨.val false [⟨.int .i64, .sh, TC.i (x.2.2.2)⟩], ⟨0, 0⟩⟩]
def spec_l01Bytes_3_out : spec_l01Bytes_3_ω → Ex × List Slot := (fun x => (.exit 0, [Slot.none, ⟨.val false [⟨.slice 5, .own true, TC.l x⟩], ⟨0, 0⟩⟩]))
noncomputable def spec_l01Bytes_lo3 : List Slot → Option (Told (Ex × List Slot)) := fun s => match s with
  | [⟨.val false [⟨.int .i64, .sh, TC.i n⟩], ⟨0, 0⟩⟩, ⟨.val false [⟨.int .i64, .sh, TC.i size⟩], ⟨0, 0⟩⟩, ⟨.val false [⟨.slice 5, .own true, TC.l X⟩], ⟨0, 0⟩⟩, ⟨.val false [⟨.int .i64, .sh, TC.i k⟩], ⟨0, 0⟩⟩] => some (((spec_l01Bytes_3_fin n size X k)).map spec_l01Bytes_3_out)
  | _ => .none
noncomputable def spec_l01Bytes_lo : LoopTeller := fun r s => bif Nat.beq r 3 then spec_l01Bytes_lo3 s else .none
theorem spec_l01Bytes_3_r (n : Int) (size : Int) (X : List (List TC)) (k : Int) (fuel : Nat) : rounds (rnd tab FT D7 live 124 spec_l01Bytes_lo 0 3) leave (fuel + 1) (spec_l01Bytes_3_sl (n, size, X, k)) = ((spec_l01Bytes_3_step n size X k)).run (goOn (fun s => rounds (rnd tab FT D7 live 124 spec_l01Bytes_lo 0 3) leave fuel (spec_l01Bytes_3_sl s)) fun w => some (spec_l01Bytes_3_out w)) := by kernel_rfl
theorem spec_l01Bytes_3_h (n : Int) (size : Int) (X : List (List TC)) (k : Int) (ow : spec_l01Bytes_3_ω) : ((spec_l01Bytes_3_fin n size X k)).val = some ow → ∃ fuel, loopN spec_l01Bytes_3_st fuel (n, size, X, k) = some ow := by
  intro h
  refine auto_leaf (R := bRows n size.toNat) (fun ho => ?_) h
  obtain ⟨sz, rfl, h8, rfl, rfl⟩ := is_iff.1 ho
  refine ⟨sz + 1, loopN_run (step := spec_l01Bytes_3_st) (N := sz) (fun j => (n, (sz : Int), bRows n j, (j : Int))) (fun j hj => ?_) ?_ sz 0 (by omega)⟩
  · show (spec_l01Bytes_3_step n (sz : Int) (bRows n j) (j : Int)).val = _
    unfold spec_l01Bytes_3_step
    rw [bAt_u64 (by omega), bRows_succ]
    refine Tr.t (by simp; omega) ?_
    refine Tr.t (by rw [IntKind.wrap_u64]; omega) ?_
    refine Tr.t (by unfold roomFor; simp only [show (tab 5).bytes = 1 from rfl, bRows_len]; omega) ?_
    rw [Tr.val_ok, wrap64 (i := (j : Int) + 1) (by omega) (by omega)]; rfl
  · show (spec_l01Bytes_3_step n (sz : Int) (bRows n sz) (sz : Int)).val = _
    refine Tr.n (by simp) ?_
    rfl
theorem spec_l01Bytes_is3 : LoopIs tab FT D7 live 124 spec_l01Bytes_lo 0 3 := by
  refine loop_told (sl := spec_l01Bytes_3_sl) (step := spec_l01Bytes_3_st) (out := spec_l01Bytes_3_out) (lor := spec_l01Bytes_lo3) (fin := fun x => (spec_l01Bytes_3_fin (x.1) (x.2.1) (x.2.2.1) (x.2.2.2))) (fun _ => rfl) ?_ (fun x n => spec_l01Bytes_3_r x.1 x.2.1 x.2.2.1 x.2.2.2 n) (fun x ow => spec_l01Bytes_3_h x.1 x.2.1 x.2.2.1 x.2.2.2 ow)
  intro s t h
  unfold spec_l01Bytes_lo3 at h
  split at h
  · cases h; exact ⟨(_, _, _, _), rfl, rfl⟩
  · cases h
noncomputable def spec_l01Bytes_t (n : Int) (size : Int) : Tr (List UInt8) := (.ite ((spec_l01Bytes_o3_1 n size [] (0 : Int)) = true) (.ok ((spec_l01Bytes_u3_1 n size [] (0 : Int)).map byteOf))
  .no)
def spec_l01Bytes_mk (p : List UInt8) : Res := [(false, [⟨.str, .sh, TC.s p⟩])]
noncomputable def spec_l01Bytes_c (n : Int) (size : Int) : Bool := is (∃ sz : Nat, size = (sz : Int) ∧ sz ≤ 8)
noncomputable def spec_l01Bytes_v (n : Int) (size : Int) : List UInt8 := hid (bytesL n size.toNat)
theorem spec_l01Bytes_l (n : Int) (size : Int) : (spec_l01Bytes_c n size) = true → (spec_l01Bytes_t n size).val = some (spec_l01Bytes_v n size) := by
  intro h
  obtain ⟨sz, rfl, h8⟩ := is_iff.1 h
  unfold spec_l01Bytes_t
  refine Tr.t (is_true ⟨sz, rfl, h8, rfl, rfl⟩) ?_
  unfold spec_l01Bytes_v
  rw [hid_eq]; rfl
noncomputable def spec_l01Bytes_S : List Arg → Option (Bool × Res) := fun xs => match xs with
  | [(false, [(.int .i64, TC.i n)]), (false, [(.int .i64, TC.i size)])] => some ((spec_l01Bytes_c n size), spec_l01Bytes_mk (spec_l01Bytes_v n size))
  | _ => .none
theorem spec_l01Bytes_e (n : Int) (size : Int) : runF tab FT D7 live 124 spec_l01Bytes_lo [(false, [(.int .i64, TC.i n)]), (false, [(.int .i64, TC.i size)])] = (spec_l01Bytes_t n size).run fun p => some (spec_l01Bytes_mk p) := by kernel_rfl
theorem spec_l01Bytes_s : ∀ xs r, spec_l01Bytes_S xs = some (true, r) → runF tab FT D7 live 124 spec_l01Bytes_lo xs = some r := by
  intro xs r h
  unfold spec_l01Bytes_S at h
  split at h
  · simp only [Option.some.injEq, Prod.mk.injEq] at h
    obtain ⟨h1, rfl⟩ := h
    exact fun_told (spec_l01Bytes_e _ _) (spec_l01Bytes_l _ _) h1
  · cases h
noncomputable def D8 : Dt := also D7 124 spec_l01Bytes_S
theorem d8 : DOk Go.Proofs.Try.prog tab D8 := d7.also mixed_ok tab_ok names_ok (fnLoops_one (by kernel_rfl) spec_l01Bytes_is3) spec_l01Bytes_s
theorem spec_l01Bytes_h {n size : Int} : spec_l01Bytes_v n size = bytesL n size.toNat := hid_eq _
/-! spec_l01PutUint -/
noncomputable def spec_l01PutUint_t (n : Int) (size : Int) : Tr (List UInt8) := (.ite ((!(spec_l00In_v size (1 : Int) (8 : Int))) = true) (.ok ([]))
  (.ite ((decide (n < (0 : Int))) = true) (.ok ([]))
   (.ite ((decide (size < (8 : Int))) = true) (.ite (0 ≤ (IntKind.wrap .u64 ((8 : Int) * (IntKind.wrap .u64 size)))) (.ite ((!((Int.fdiv n (2 ^ (min ((IntKind.wrap .u64 ((8 : Int) * (IntKind.wrap .u64 size)))).toNat 64))) == (0 : Int))) = true) (.ok ([]))
      (.ite ((spec_l01Bytes_c n size) = true) (.ok (spec_l01Bytes_v n size))
       .no))
     .no)
    (.ite ((spec_l01Bytes_c n size) = true) (.ok (spec_l01Bytes_v n size))
     .no))))
def spec_l01PutUint_mk (p : List UInt8) : Res := [(false, [⟨.str, .sh, TC.s p⟩])]
noncomputable def spec_l01PutUint_c (n : Int) (size : Int) : Bool := (bif (!(spec_l00In_v size (1 : Int) (8 : Int))) then true else (bif (decide (n < (0 : Int))) then true else (bif (decide (size < (8 : Int))) then (is (0 ≤ (IntKind.wrap .u64 ((8 : Int) * (IntKind.wrap .u64 size)))) && (bif (!((Int.fdiv n (2 ^ (min ((IntKind.wrap .u64 ((8 : Int) * (IntKind.wrap .u64 size)))).toNat 64))) == (0 : Int))) then true else ((spec_l01Bytes_c n size) && true))) else ((spec_l01Bytes_c n size) && true))))
noncomputable def spec_l01PutUint_v (n : Int) (size : Int) : List UInt8 := (bif (!(spec_l00In_v size (1 : Int) (8 : Int))) then [] else (bif (decide (n < (0 : Int))) then [] else (bif (decide (size < (8 : Int))) then (bif (!((Int.fdiv n (2 ^ (min ((IntKind.wrap .u64 ((8 : Int) * (IntKind.wrap .u64 size)))).toNat 64))) == (0 : Int))) then [] else (spec_l01Bytes_v n size)) else (spec_l01Bytes_v n size))))
theorem spec_l01PutUint_l (n : Int) (size : Int) : (spec_l01PutUint_c n size) = true → (spec_l01PutUint_t n size).val = some (spec_l01PutUint_v n size) := by
  unfold spec_l01PutUint_t spec_l01PutUint_v spec_l01PutUint_c
  exact fun h => (Tr.ss h (fun h => rfl) (fun h => (Tr.ss h (fun h => rfl) (fun h => (Tr.ss h (fun h => (Tr.gs h fun h => (Tr.ss h (fun h => rfl) (fun h => (Tr.gb h fun h => rfl))))) (fun h => (Tr.gb h fun h => rfl)))))))
noncomputable def spec_l01PutUint_S : List Arg → Option (Bool × Res) := fun xs => match xs with
  | [(false, [(.int .i64, TC.i n)]), (false, [(.int .i64, TC.i size)])] => some ((spec_l01PutUint_c n size), spec_l01PutUint_mk (spec_l01PutUint_v n size))
  | _ => .none
theorem spec_l01PutUint_e (n : Int) (size : Int) : runF tab FT D8 live 85 noLoops [(false, [(.int .i64, TC.i n)]), (false, [(.int .i64, TC.i size)])] = (spec_l01PutUint_t n size).run fun p => some (spec_l01PutUint_mk p) := by kernel_rfl
theorem spec_l01PutUint_s : ∀ xs r, spec_l01PutUint_S xs = some (true, r) → runF tab FT D8 live 85 noLoops xs = some r := by
  intro xs r h
  unfold spec_l01PutUint_S at h
  split at h
  · simp only [Option.some.injEq, Prod.mk.injEq] at h
    obtain ⟨h1, rfl⟩ := h
    exact fun_told (spec_l01PutUint_e _ _) (spec_l01PutUint_l _ _) h1
  · cases h
noncomputable def D9 : Dt := also D8 85 spec_l01PutUint_S
theorem d9 : DOk Go.Proofs.Try.prog tab D9 := d8.also mixed_ok tab_ok names_ok noLoops_ok spec_l01PutUint_s
theorem spec_l01PutUint_cc {n : Int} {size : Int} (hz : ∃ sz : Nat, size = (sz : Int) ∧ sz ≤ 8) : (spec_l01PutUint_c n size) = true := by
  unfold spec_l01PutUint_c
  refine bifT (fun b1 => ?_) (fun b1 => ?_)
  · skip
    rfl
  · skip
    refine bifT (fun b2 => ?_) (fun b2 => ?_)
    · skip
      rfl
    · skip
      refine bifT (fun b3 => ?_) (fun b3 => ?_)
      · skip
        refine andT (is_true (by rw [IntKind.wrap_u64]; omega)) ?_
        refine bifT (fun b4 => ?_) (fun b4 => ?_)
        · skip
          rfl
        · skip
          refine andT (by exact is_true hz) ?_
          rfl
      · skip
        refine andT (by exact is_true hz) ?_
        rfl
theorem spec_l01PutUint_at {n : Int} {sz : Nat} (h1 : 1 ≤ sz) (h7 : sz < 8) (h0 : 0 ≤ n) (h : n < 2 ^ (8 * sz)) : spec_l01PutUint_v n (sz : Int) = bytesL n sz := by
  unfold spec_l01PutUint_v
  rw [show spec_l00In_v (sz : Int) 1 8 = true from by unfold spec_l00In_v; rw [show decide ((sz : Int) ≥ 1) = true from by simp; omega, show decide ((sz : Int) ≤ 8) = true from by simp; omega]; rfl]
  rw [show decide (n < 0) = false from by simp; omega, show decide ((sz : Int) < 8) = true from by simp; omega]
  have e : (IntKind.wrap .u64 ((8 : Int) * (IntKind.wrap .u64 (sz : Int)))) = ((8 * sz : Nat) : Int) := by
    rw [IntKind.wrap_u64, IntKind.wrap_u64]; omega
  rw [e, Int.toNat_natCast, Nat.min_eq_left (by omega), shr_zero h0 h]
  exact spec_l01Bytes_h
theorem putLen {n : Int} {sz : Nat} (h : sz ≤ 8) : (spec_l01PutUint_v n (sz : Int)).length ≤ 8 := by
  have hb : (spec_l01Bytes_v n (sz : Int)).length ≤ 8 := by
    rw [spec_l01Bytes_h, Int.toNat_natCast, bytesL_len]; exact h
  have hc : ∀ (c : Bool) (x y : List UInt8), x.length ≤ 8 → y.length ≤ 8 → (bif c then x else y).length ≤ 8 := by
    intro c x y hx hy
    cases c
    · exact hy
    · exact hx
  unfold spec_l01PutUint_v
  exact hc _ _ _ (Nat.zero_le _) (hc _ _ _ (Nat.zero_le _) (hc _ _ _ (hc _ _ _ (Nat.zero_le _) hb) hb))
theorem putC {n : Int} {sz : Nat} (h : sz ≤ 8) : spec_l01PutUint_c n (sz : Int) = true := spec_l01PutUint_cc ⟨sz, rfl, h⟩
def spMost (M : List (List TC)) (i : Nat) : Int := bif (nth (row M (i : Int)) 0).int == -1 then 255 else (nth (row M (i : Int)) 0).int
def spStep (D M : List (List TC)) (i : Nat) (a : List UInt8) : List UInt8 := a ++ (bytesL (nth (row D (i : Int)) 0).int 1 ++ bytesL (spMost M i) 1)
def encSpace (D M : List (List TC)) : List UInt8 := bif spaceOk D M then foldI (spStep D M) D.length (bytesL (D.length : Int) 1) else []
theorem spaceOk_parts {D M : List (List TC)} (h : spaceOk D M = true) : D.length ≤ 3 ∧ M.length = D.length ∧ ∀ i, i < D.length → (0 ≤ (nth (row D (i : Int)) 0).int ∧ (nth (row D (i : Int)) 0).int < 256) ∧ 0 ≤ spMost M i ∧ spMost M i < 256 := by
  unfold spaceOk dimsOk at h
  simp only [Bool.and_eq_true, decide_eq_true_eq, beq_iff_eq] at h
  obtain ⟨⟨⟨⟨h1, h2⟩, _⟩, h3⟩, h4⟩ := h
  refine ⟨by omega, by omega, fun i hi => ?_⟩
  have h5 := inR_iff.1 (List.all_eq_true.1 h2 _ (mem_getD hi))
  have h6 := allI_iff.1 h4 i (by omega)
  refine ⟨⟨h5.1, Int.lt_of_le_of_lt h5.2 (by decide)⟩, ?_⟩
  unfold spaceB at h6
  unfold spMost
  cases hm : ((nth (row M (i : Int)) 0).int == -1) with
  | true => simp
  | false =>
    rw [hm, Bool.false_or] at h6
    have h7 := inR_iff.1 h6
    have h8 : 0 ≤ (nth (row D (i : Int)) 0).int := h5.1
    simp only [cond_false]
    omega
theorem spaceOk_len {D M : List (List TC)} (h : spaceOk D M = true) : D.length = M.length ∧ D.length ≤ 64 := by
  have := spaceOk_parts h; omega
/-! spec_EncodeSpace -/
noncomputable def spec_EncodeSpace_f5 (D : List (List TC)) (M : List (List TC)) (i : Int) (s : List UInt8) : (List UInt8) ⊕ ((List UInt8)) := (bif ((nth (row M i) 0).int == (-1 : Int)) then (.inl (s ++ ((spec_l01PutUint_v ((nth (row D i) 0).int) (1 : Int)) ++ (spec_l01PutUint_v (255 : Int) (1 : Int))))) else (.inl (s ++ ((spec_l01PutUint_v ((nth (row D i) 0).int) (1 : Int)) ++ (spec_l01PutUint_v ((nth (row M i) 0).int) (1 : Int))))))
noncomputable def spec_EncodeSpace_e5 (D : List (List TC)) (M : List (List TC)) (s : List UInt8) : (List UInt8) := s
noncomputable def spec_EncodeSpace_R5 (D : List (List TC)) (M : List (List TC)) (s : List UInt8) (i : Int) : (List UInt8) := iter (fun i a => (spec_EncodeSpace_f5 D M (i : Int) a)) (fun a => (spec_EncodeSpace_e5 D M a)) (D.length) 0 s
abbrev spec_EncodeSpace_5_σ := List (List TC) × List (List TC) × List UInt8 × Int
abbrev spec_EncodeSpace_5_ω := (List UInt8)
noncomputable def spec_EncodeSpace_5_step (D : List (List TC)) (M : List (List TC)) (s : List UInt8) (i : Int) : Tr (spec_EncodeSpace_5_σ ⊕ spec_EncodeSpace_5_ω) := (.ite ((decide (i < (D.length : Int))) = true) (.ite ((0 : Int) ≤ i ∧ i < (M.length : Int)) (.ite (((nth (row M i) 0).int == (-1 : Int)) = true) (.ite ((0 : Int) ≤ i ∧ i < (D.length : Int)) (.ite ((spec_l01PutUint_c ((nth (row D i) 0).int) (1 : Int)) = true) (.ite ((spec_l01PutUint_c (255 : Int) (1 : Int)) = true) (.ite ((((spec_l01PutUint_v ((nth (row D i) 0).int) (1 : Int)).length + (spec_l01PutUint_v (255 : Int) (1 : Int)).length : Nat) : Int) ≤ 9223372036854775807) (.ite (((s.length + ((spec_l01PutUint_v ((nth (row D i) 0).int) (1 : Int)) ++ (spec_l01PutUint_v (255 : Int) (1 : Int))).length : Nat) : Int) ≤ 9223372036854775807) (.ok (.inl (D, M, (s ++ ((spec_l01PutUint_v ((nth (row D i) 0).int) (1 : Int)) ++ (spec_l01PutUint_v (255 : Int) (1 : Int)))), (IntKind.wrap .i64 (i + (1 : Int))))))
         .no)
        .no)
       .no)
      .no)
     .no)
    (.ite ((0 : Int) ≤ i ∧ i < (D.length : Int)) (.ite ((spec_l01PutUint_c ((nth (row D i) 0).int) (1 : Int)) = true) (.ite ((spec_l01PutUint_c ((nth (row M i) 0).int) (1 : Int)) = true) (.ite ((((spec_l01PutUint_v ((nth (row D i) 0).int) (1 : Int)).length + (spec_l01PutUint_v ((nth (row M i) 0).int) (1 : Int)).length : Nat) : Int) ≤ 9223372036854775807) (.ite (((s.length + ((spec_l01PutUint_v ((nth (row D i) 0).int) (1 : Int)) ++ (spec_l01PutUint_v ((nth (row M i) 0).int) (1 : Int))).length : Nat) : Int) ≤ 9223372036854775807) (.ok (.inl (D, M, (s ++ ((spec_l01PutUint_v ((nth (row D i) 0).int) (1 : Int)) ++ (spec_l01PutUint_v ((nth (row M i) 0).int) (1 : Int)))), (IntKind.wrap .i64 (i + (1 : Int))))))
         .no)
        .no)
       .no)
      .no)
     .no))
   .no)
  (.ok (.inr s)))
noncomputable def spec_EncodeSpace_5_st : spec_EncodeSpace_5_σ → Tr (spec_EncodeSpace_5_σ ⊕ spec_EncodeSpace_5_ω) := fun x => (spec_EncodeSpace_5_step (x.1) (x.2.1) (x.2.2.1) (x.2.2.2))
noncomputable def spec_EncodeSpace_o5_1 (D : List (List TC)) (M : List (List TC)) (s : List UInt8) (i : Int) : Bool := is (i = 0 ∧ Typed tab (.slice 2) (.l D) ∧ s.length ≤ 8 ∧ D.length ≤ 64 ∧ D.length = M.length)
noncomputable def spec_EncodeSpace_u5_1 (D : List (List TC)) (M : List (List TC)) (s : List UInt8) (i : Int) : List UInt8 := (spec_EncodeSpace_R5 D M s i)
noncomputable def spec_EncodeSpace_5_fin (D : List (List TC)) (M : List (List TC)) (s : List UInt8) (i : Int) : Told spec_EncodeSpace_5_ω := (.leaf (spec_EncodeSpace_o5_1 D M s i) (spec_EncodeSpace_u5_1 D M s i))
def spec_EncodeSpace_5_sl (x : spec_EncodeSpace_5_σ) : List Slot := [⟨.bx 68 [⟨.slice 2, .sh, TC.l (x.1)⟩, ⟨.slice 2, .sh, TC.l (x.2.1)⟩], ⟨0, 0⟩⟩, ⟨.val false [⟨.str, .sh, TC.s (x.2.2.1)⟩], ⟨0, 0⟩⟩, ⟨.val false [⟨.int .i64, .sh, TC.i (x.2.2.2)⟩], ⟨0, 0⟩⟩]
def spec_EncodeSpace_5_out : spec_EncodeSpace_5_ω → Ex × List Slot := (fun x => (.exit 0, [Slot.none, ⟨.val false [⟨.str, .sh, TC.s x⟩], ⟨0, 0⟩⟩]))
noncomputable def spec_EncodeSpace_lo5 : List Slot → Option (Told (Ex × List Slot)) := fun s => match s with
  | [⟨.bx 68 [⟨.slice 2, .sh, TC.l D⟩, ⟨.slice 2, .sh, TC.l M⟩], ⟨0, 0⟩⟩, ⟨.val false [⟨.str, .sh, TC.s s⟩], ⟨0, 0⟩⟩, ⟨.val false [⟨.int .i64, .sh, TC.i i⟩], ⟨0, 0⟩⟩] => some (((spec_EncodeSpace_5_fin D M s i)).map spec_EncodeSpace_5_out)
  | _ => .none
noncomputable def spec_EncodeSpace_lo : LoopTeller := fun r s => bif Nat.beq r 5 then spec_EncodeSpace_lo5 s else .none
theorem spec_EncodeSpace_5_r (D : List (List TC)) (M : List (List TC)) (s : List UInt8) (i : Int) (fuel : Nat) : rounds (rnd tab FT D9 live 45 spec_EncodeSpace_lo 0 5) leave (fuel + 1) (spec_EncodeSpace_5_sl (D, M, s, i)) = ((spec_EncodeSpace_5_step D M s i)).run (goOn (fun s => rounds (rnd tab FT D9 live 45 spec_EncodeSpace_lo 0 5) leave fuel (spec_EncodeSpace_5_sl s)) fun w => some (spec_EncodeSpace_5_out w)) := by kernel_rfl
theorem spec_EncodeSpace_5_h (D : List (List TC)) (M : List (List TC)) (s : List UInt8) (i : Int) (ow : spec_EncodeSpace_5_ω) : ((spec_EncodeSpace_5_fin D M s i)).val = some ow → ∃ fuel, loopN spec_EncodeSpace_5_st fuel (D, M, s, i) = some ow := by
  refine auto_leaf (R := (spec_EncodeSpace_R5 D M s i)) ?_
  intro ho
  have ho : is (i = 0 ∧ Typed tab (.slice 2) (.l D) ∧ s.length ≤ 8 ∧ D.length ≤ 64 ∧ D.length = M.length) = true := ho
  obtain ⟨rfl, ht, hs0, hlim, hl⟩ := is_iff.1 ho
  have hlen : D.length ≤ 140737488351232 := by have := typed_room ht; simp only [show (tab 2).bytes = 8 from rfl] at this; omega
  refine ⟨(D.length) + 1, ?_⟩
  refine iter_loop (step := spec_EncodeSpace_5_st) (D.length) (fun i a => (spec_EncodeSpace_f5 D M (i : Int) a)) (fun a => (spec_EncodeSpace_e5 D M a)) (fun i a => (D, M, a, (i : Int))) (fun i (a : List UInt8) => a.length ≤ 8 + 24 * i) (by simpa using hs0) (fun i a hi hI => ⟨?_, fun a' h => by
    unfold spec_EncodeSpace_f5 at h
    have hI : a.length ≤ 8 + 24 * i := hI
    have e0 : (spec_l01PutUint_v (nth (row D (i : Int)) 0).int (1 : Int)).length ≤ 8 := putLen (sz := 1) (by omega)
    have e1 : (spec_l01PutUint_v (nth (row M (i : Int)) 0).int (1 : Int)).length ≤ 8 := putLen (sz := 1) (by omega)
    have e2 : (spec_l01PutUint_v 255 (1 : Int)).length ≤ 8 := putLen (sz := 1) (by omega)
    cases hc0 : ((nth (row M (i : Int)) 0).int == -1) <;> rw [hc0] at h <;> (cases h; show List.length _ ≤ 8 + 24 * (i + 1); simp only [List.length_append]; omega)⟩) (fun a hI => ?_)
  · show (spec_EncodeSpace_5_step D M a (i : Int)).val = _
    unfold spec_EncodeSpace_5_step spec_EncodeSpace_f5
    have hI : a.length ≤ 8 + 24 * i := hI
    have e0 : (spec_l01PutUint_v (nth (row D (i : Int)) 0).int (1 : Int)).length ≤ 8 := putLen (sz := 1) (by omega)
    have e1 : (spec_l01PutUint_v (nth (row M (i : Int)) 0).int (1 : Int)).length ≤ 8 := putLen (sz := 1) (by omega)
    have e2 : (spec_l01PutUint_v 255 (1 : Int)).length ≤ 8 := putLen (sz := 1) (by omega)
    refine Tr.t (by simp; omega) ?_
    exact (Tr.t (by first | omega | (constructor <;> omega) | (simp only [List.length_append]; omega) | (exact putC (sz := 1) (by omega))) (Tr.bf (Tr.t (by first | omega | (constructor <;> omega) | (simp only [List.length_append]; omega) | (exact putC (sz := 1) (by omega))) (Tr.t (by first | (simp only [List.length_append]; omega) | (exact putC (sz := 1) (by omega)) | (first | (apply is_true; and_intros <;> (first | rfl | assumption | (apply spec_l05Space_cc <;> assumption) | (apply spec_l01PutUint_cc <;> assumption) | (first | (apply is_true; and_intros <;> (first | rfl | assumption | (apply spec_l05Space_cc <;> assumption) | (apply spec_l01PutUint_cc <;> assumption) | (first | (apply is_true; and_intros <;> (first | rfl | assumption | (apply spec_l05Space_cc <;> assumption) | (apply spec_l01PutUint_cc <;> assumption))) | (apply spec_l05Space_cc <;> assumption) | (apply spec_l01PutUint_cc <;> assumption)))) | (apply spec_l05Space_cc <;> assumption) | (apply spec_l01PutUint_cc <;> assumption)))) | (apply spec_l05Space_cc <;> assumption) | (apply spec_l01PutUint_cc <;> assumption))) (Tr.t (by first | (simp only [List.length_append]; omega) | (exact putC (sz := 1) (by omega)) | (first | (apply is_true; and_intros <;> (first | rfl | assumption | (apply spec_l05Space_cc <;> assumption) | (apply spec_l01PutUint_cc <;> assumption) | (first | (apply is_true; and_intros <;> (first | rfl | assumption | (apply spec_l05Space_cc <;> assumption) | (apply spec_l01PutUint_cc <;> assumption) | (first | (apply is_true; and_intros <;> (first | rfl | assumption | (apply spec_l05Space_cc <;> assumption) | (apply spec_l01PutUint_cc <;> assumption))) | (apply spec_l05Space_cc <;> assumption) | (apply spec_l01PutUint_cc <;> assumption)))) | (apply spec_l05Space_cc <;> assumption) | (apply spec_l01PutUint_cc <;> assumption)))) | (apply spec_l05Space_cc <;> assumption) | (apply spec_l01PutUint_cc <;> assumption))) (Tr.t (by first | omega | (constructor <;> omega) | (simp only [List.length_append]; omega) | (exact putC (sz := 1) (by omega))) (Tr.t (by first | omega | (constructor <;> omega) | (simp only [List.length_append]; omega) | (exact putC (sz := 1) (by omega))) (by rw [Tr.val_ok, wrap64 (i := (i : Int) + 1) (by omega) (by omega)]; rfl)))))) (Tr.t (by first | omega | (constructor <;> omega) | (simp only [List.length_append]; omega) | (exact putC (sz := 1) (by omega))) (Tr.t (by first | (simp only [List.length_append]; omega) | (exact putC (sz := 1) (by omega)) | (first | (apply is_true; and_intros <;> (first | rfl | assumption | (apply spec_l05Space_cc <;> assumption) | (apply spec_l01PutUint_cc <;> assumption) | (first | (apply is_true; and_intros <;> (first | rfl | assumption | (apply spec_l05Space_cc <;> assumption) | (apply spec_l01PutUint_cc <;> assumption) | (first | (apply is_true; and_intros <;> (first | rfl | assumption | (apply spec_l05Space_cc <;> assumption) | (apply spec_l01PutUint_cc <;> assumption))) | (apply spec_l05Space_cc <;> assumption) | (apply spec_l01PutUint_cc <;> assumption)))) | (apply spec_l05Space_cc <;> assumption) | (apply spec_l01PutUint_cc <;> assumption)))) | (apply spec_l05Space_cc <;> assumption) | (apply spec_l01PutUint_cc <;> assumption))) (Tr.t (by first | (simp only [List.length_append]; omega) | (exact putC (sz := 1) (by omega)) | (first | (apply is_true; and_intros <;> (first | rfl | assumption | (apply spec_l05Space_cc <;> assumption) | (apply spec_l01PutUint_cc <;> assumption) | (first | (apply is_true; and_intros <;> (first | rfl | assumption | (apply spec_l05Space_cc <;> assumption) | (apply spec_l01PutUint_cc <;> assumption) | (first | (apply is_true; and_intros <;> (first | rfl | assumption | (apply spec_l05Space_cc <;> assumption) | (apply spec_l01PutUint_cc <;> assumption))) | (apply spec_l05Space_cc <;> assumption) | (apply spec_l01PutUint_cc <;> assumption)))) | (apply spec_l05Space_cc <;> assumption) | (apply spec_l01PutUint_cc <;> assumption)))) | (apply spec_l05Space_cc <;> assumption) | (apply spec_l01PutUint_cc <;> assumption))) (Tr.t (by first | omega | (constructor <;> omega) | (simp only [List.length_append]; omega) | (exact putC (sz := 1) (by omega))) (Tr.t (by first | omega | (constructor <;> omega) | (simp only [List.length_append]; omega) | (exact putC (sz := 1) (by omega))) (by rw [Tr.val_ok, wrap64 (i := (i : Int) + 1) (by omega) (by omega)]; rfl))))))))
  · show (spec_EncodeSpace_5_step D M a (D.length : Int)).val = _
    refine Tr.n (by first | (simp; done) | (simp; omega) | omega) ?_
    rfl
theorem spec_EncodeSpace_is5 : LoopIs tab FT D9 live 45 spec_EncodeSpace_lo 0 5 := by
  refine loop_told (sl := spec_EncodeSpace_5_sl) (step := spec_EncodeSpace_5_st) (out := spec_EncodeSpace_5_out) (lor := spec_EncodeSpace_lo5) (fin := fun x => (spec_EncodeSpace_5_fin (x.1) (x.2.1) (x.2.2.1) (x.2.2.2))) (fun _ => rfl) ?_ (fun x n => spec_EncodeSpace_5_r x.1 x.2.1 x.2.2.1 x.2.2.2 n) (fun x ow => spec_EncodeSpace_5_h x.1 x.2.1 x.2.2.1 x.2.2.2 ow)
  intro s t h
  unfold spec_EncodeSpace_lo5 at h
  split at h
  · cases h; exact ⟨(_, _, _, _), rfl, rfl⟩
  · cases h
noncomputable def spec_EncodeSpace_t (D : List (List TC)) (M : List (List TC)) : Tr (List UInt8) := (.ite ((spec_l05Space_c D M) = true) (.ite ((!(spec_l05Space_v D M)) = true) (.ok ([]))
   (.ite ((spec_l01PutUint_c (D.length : Int) (1 : Int)) = true) (.ite ((spec_EncodeSpace_o5_1 D M (spec_l01PutUint_v (D.length : Int) (1 : Int)) (0 : Int)) = true) (.ok (spec_EncodeSpace_u5_1 D M (spec_l01PutUint_v (D.length : Int) (1 : Int)) (0 : Int)))
     .no)
    .no))
  .no)
def spec_EncodeSpace_mk (p : List UInt8) : Res := [(false, [⟨.str, .sh, TC.s p⟩])]
noncomputable def spec_EncodeSpace_c (D : List (List TC)) (M : List (List TC)) : Bool := ((spec_l05Space_c D M) && (bif (!(spec_l05Space_v D M)) then true else ((spec_l01PutUint_c (D.length : Int) (1 : Int)) && ((spec_EncodeSpace_o5_1 D M (spec_l01PutUint_v (D.length : Int) (1 : Int)) (0 : Int)) && true))))
noncomputable def spec_EncodeSpace_v (D : List (List TC)) (M : List (List TC)) : List UInt8 := (bif (!(spec_l05Space_v D M)) then [] else (spec_EncodeSpace_u5_1 D M (spec_l01PutUint_v (D.length : Int) (1 : Int)) (0 : Int)))
theorem spec_EncodeSpace_l (D : List (List TC)) (M : List (List TC)) : (spec_EncodeSpace_c D M) = true → (spec_EncodeSpace_t D M).val = some (spec_EncodeSpace_v D M) := by
  unfold spec_EncodeSpace_t spec_EncodeSpace_v spec_EncodeSpace_c
  exact fun h => (Tr.gb h fun h => (Tr.ss h (fun h => rfl) (fun h => (Tr.gb h fun h => (Tr.gb h fun h => rfl)))))
noncomputable def spec_EncodeSpace_S : List Arg → Option (Bool × Res) := fun xs => match xs with
  | [(true, [(.slice 2, TC.l D), (.slice 2, TC.l M)])] => some ((spec_EncodeSpace_c D M), spec_EncodeSpace_mk (spec_EncodeSpace_v D M))
  | _ => .none
theorem spec_EncodeSpace_e (D : List (List TC)) (M : List (List TC)) : runF tab FT D9 live 45 spec_EncodeSpace_lo [(true, [(.slice 2, TC.l D), (.slice 2, TC.l M)])] = (spec_EncodeSpace_t D M).run fun p => some (spec_EncodeSpace_mk p) := by kernel_rfl
theorem spec_EncodeSpace_s : ∀ xs r, spec_EncodeSpace_S xs = some (true, r) → runF tab FT D9 live 45 spec_EncodeSpace_lo xs = some r := by
  intro xs r h
  unfold spec_EncodeSpace_S at h
  split at h
  · simp only [Option.some.injEq, Prod.mk.injEq] at h
    obtain ⟨h1, rfl⟩ := h
    exact fun_told (spec_EncodeSpace_e _ _) (spec_EncodeSpace_l _ _) h1
  · cases h
noncomputable def D10 : Dt := also D9 45 spec_EncodeSpace_S
theorem d10 : DOk Go.Proofs.Try.prog tab D10 := d9.also mixed_ok tab_ok names_ok (fnLoops_one (by kernel_rfl) spec_EncodeSpace_is5) spec_EncodeSpace_s
theorem spec_EncodeSpace_cc {D : List (List TC)} {M : List (List TC)} (hD : Typed tab (.slice 2) (.l D)) (hM : Typed tab (.slice 2) (.l M)) : (spec_EncodeSpace_c D M) = true := by
  unfold spec_EncodeSpace_c
  refine andT (by first | (apply is_true; and_intros <;> (first | rfl | assumption | (apply spec_l05Space_cc <;> assumption) | (apply spec_l01PutUint_cc <;> assumption) | (first | (apply is_true; and_intros <;> (first | rfl | assumption | (apply spec_l05Space_cc <;> assumption) | (apply spec_l01PutUint_cc <;> assumption) | (first | (apply is_true; and_intros <;> (first | rfl | assumption | (apply spec_l05Space_cc <;> assumption) | (apply spec_l01PutUint_cc <;> assumption) | (first | (apply is_true; and_intros <;> (first | rfl | assumption | (apply spec_l05Space_cc <;> assumption) | (apply spec_l01PutUint_cc <;> assumption))) | (apply spec_l05Space_cc <;> assumption) | (apply spec_l01PutUint_cc <;> assumption)))) | (apply spec_l05Space_cc <;> assumption) | (apply spec_l01PutUint_cc <;> assumption)))) | (apply spec_l05Space_cc <;> assumption) | (apply spec_l01PutUint_cc <;> assumption)))) | (apply spec_l05Space_cc <;> assumption) | (apply spec_l01PutUint_cc <;> assumption)) ?_
  refine bifT (fun b1 => ?_) (fun b1 => ?_)
  · skip
    rfl
  · skip
    refine andT (by exact putC (sz := 1) (by omega)) ?_
    refine andT (by exact is_true ⟨rfl, hD, putLen (sz := 1) (by omega), (spaceOk_len ((spec_l05Space_vv _ _).symm.trans (notF b1))).2, (spaceOk_len ((spec_l05Space_vv _ _).symm.trans (notF b1))).1⟩) ?_
    rfl
theorem spec_EncodeSpace_vv (D M : List (List TC)) : spec_EncodeSpace_v D M = encSpace D M := by
  unfold spec_EncodeSpace_v spec_EncodeSpace_u5_1 encSpace
  rw [spec_l05Space_vv]
  cases h : spaceOk D M with
  | false => rfl
  | true =>
    obtain ⟨h1, h2, h3⟩ := spaceOk_parts h
    show spec_EncodeSpace_R5 D M (spec_l01PutUint_v (D.length : Int) 1) 0 = foldI (spStep D M) D.length (bytesL (D.length : Int) 1)
    rw [show spec_l01PutUint_v (D.length : Int) 1 = bytesL (D.length : Int) 1 from spec_l01PutUint_at (sz := 1) (by omega) (by omega) (by omega) (by omega)]
    unfold spec_EncodeSpace_R5
    refine iter_each (g := spStep D M) (fin := fun a => spec_EncodeSpace_e5 D M a) fun j a hj => ?_
    obtain ⟨h4, h5⟩ := h3 j hj
    unfold spec_EncodeSpace_f5 spStep
    rw [show spec_l01PutUint_v (nth (row D (j : Int)) 0).int 1 = bytesL (nth (row D (j : Int)) 0).int 1 from spec_l01PutUint_at (sz := 1) (by omega) (by omega) h4.1 h4.2]
    rw [show spec_l01PutUint_v 255 1 = bytesL 255 1 from spec_l01PutUint_at (sz := 1) (by omega) (by omega) (by omega) (by omega)]
    unfold spMost at h5 ⊢
    cases hm : ((nth (row M (j : Int)) 0).int == -1) with
    | true => rfl
    | false =>
      rw [hm] at h5
      simp only [cond_false] at h5 ⊢
      rw [show spec_l01PutUint_v (nth (row M (j : Int)) 0).int 1 = bytesL (nth (row M (j : Int)) 0).int 1 from spec_l01PutUint_at (sz := 1) (by omega) (by omega) h5.1 h5.2]
/-! impl_within -/
noncomputable def impl_within_t (a0 : Int) (a1 : Int) (a2 : Int) : Tr (Bool) := (.ite ((decide (a0 ≥ a1)) = true) (.ok (decide (a0 ≤ a2)))
  (.ok false))
def impl_within_mk (p : Bool) : Res := [(false, [⟨.bool, .sh, TC.b p⟩])]
noncomputable def impl_within_c (a0 : Int) (a1 : Int) (a2 : Int) : Bool := true
noncomputable def impl_within_v (a0 : Int) (a1 : Int) (a2 : Int) : Bool := (bif (decide (a0 ≥ a1)) then (decide (a0 ≤ a2)) else false)
theorem impl_within_l (a0 : Int) (a1 : Int) (a2 : Int) : (impl_within_c a0 a1 a2) = true → (impl_within_t a0 a1 a2).val = some (impl_within_v a0 a1 a2) := by
  intro h
  skip
  unfold impl_within_t impl_within_v
  exact (Tr.s rfl rfl)
noncomputable def impl_within_S : List Arg → Option (Bool × Res) := fun xs => match xs with
  | [(false, [(.int .i64, TC.i a0)]), (false, [(.int .i64, TC.i a1)]), (false, [(.int .i64, TC.i a2)])] => some (true, impl_within_mk (impl_within_v a0 a1 a2))
  | _ => .none
theorem impl_within_e (a0 : Int) (a1 : Int) (a2 : Int) : runF tab FT D10 live 54 noLoops [(false, [(.int .i64, TC.i a0)]), (false, [(.int .i64, TC.i a1)]), (false, [(.int .i64, TC.i a2)])] = (impl_within_t a0 a1 a2).run fun p => some (impl_within_mk p) := by kernel_rfl
theorem impl_within_s : ∀ xs r, impl_within_S xs = some (true, r) → runF tab FT D10 live 54 noLoops xs = some r := by
  intro xs r h
  unfold impl_within_S at h
  split at h
  · simp only [Option.some.injEq, Prod.mk.injEq] at h
    obtain ⟨h1, rfl⟩ := h
    exact fun_told (impl_within_e _ _ _) (impl_within_l _ _ _) rfl
  · cases h
noncomputable def D11 : Dt := also D10 54 impl_within_S
theorem d11 : DOk Go.Proofs.Try.prog tab D11 := d10.also mixed_ok tab_ok names_ok noLoops_ok impl_within_s
/-! impl_allWithin_1 -/
noncomputable def impl_allWithin_1_t (a0 : Int) (a1 : List TC) (a2 : List TC) : Tr (Bool) := .ok (!(impl_within_v a0 ((nth a1 0).int) ((nth a2 0).int)))
def impl_allWithin_1_mk (p : Bool) : Res := [(false, [⟨.bool, .sh, TC.b p⟩])]
noncomputable def impl_allWithin_1_c (a0 : Int) (a1 : List TC) (a2 : List TC) : Bool := true
noncomputable def impl_allWithin_1_v (a0 : Int) (a1 : List TC) (a2 : List TC) : Bool := (!(impl_within_v a0 ((nth a1 0).int) ((nth a2 0).int)))
theorem impl_allWithin_1_l (a0 : Int) (a1 : List TC) (a2 : List TC) : (impl_allWithin_1_c a0 a1 a2) = true → (impl_allWithin_1_t a0 a1 a2).val = some (impl_allWithin_1_v a0 a1 a2) := by
  intro h
  skip
  unfold impl_allWithin_1_t impl_allWithin_1_v
  exact rfl
noncomputable def impl_allWithin_1_S : List Arg → Option (Bool × Res) := fun xs => match xs with
  | [(false, [(.int .i64, TC.i a0)]), (false, [(.ptr 2, TC.p a1)]), (false, [(.ptr 2, TC.p a2)])] => some (true, impl_allWithin_1_mk (impl_allWithin_1_v a0 a1 a2))
  | _ => .none
theorem impl_allWithin_1_e (a0 : Int) (a1 : List TC) (a2 : List TC) : runF tab FT D11 live 121 noLoops [(false, [(.int .i64, TC.i a0)]), (false, [(.ptr 2, TC.p a1)]), (false, [(.ptr 2, TC.p a2)])] = (impl_allWithin_1_t a0 a1 a2).run fun p => some (impl_allWithin_1_mk p) := by kernel_rfl
theorem impl_allWithin_1_s : ∀ xs r, impl_allWithin_1_S xs = some (true, r) → runF tab FT D11 live 121 noLoops xs = some r := by
  intro xs r h
  unfold impl_allWithin_1_S at h
  split at h
  · simp only [Option.some.injEq, Prod.mk.injEq] at h
    obtain ⟨h1, rfl⟩ := h
    exact fun_told (impl_allWithin_1_e _ _ _) (impl_allWithin_1_l _ _ _) rfl
  · cases h
noncomputable def D12 : Dt := also D11 121 impl_allWithin_1_S
theorem d12 : DOk Go.Proofs.Try.prog tab D12 := d11.also mixed_ok tab_ok names_ok noLoops_ok impl_allWithin_1_s
/-! slices_IndexFunc_int64_int64 -/
abbrev slices_IndexFunc_int64_int64_2_σ := List (List TC) × List TC × List TC × Int × Int
abbrev slices_IndexFunc_int64_int64_2_ω := (Int) ⊕ (Unit)
noncomputable def slices_IndexFunc_int64_int64_2_step (A : List (List TC)) (lw : List TC) (hg : List TC) (m : Int) (i : Int) : Tr (slices_IndexFunc_int64_int64_2_σ ⊕ slices_IndexFunc_int64_int64_2_ω) := (.ite ((decide (i < m)) = true) (.ite ((0 : Int) ≤ i ∧ i < (A.length : Int)) (.ite ((!(impl_within_v ((nth (row A i) 0).int) ((nth lw 0).int) ((nth hg 0).int))) = true) (.ok (.inr (.inl i)))
    (.ok (.inl (A, lw, hg, m, (IntKind.wrap .i64 (i + (1 : Int)))))))
   .no)
  (.ok (.inr (.inr ()))))
noncomputable def slices_IndexFunc_int64_int64_2_st : slices_IndexFunc_int64_int64_2_σ → Tr (slices_IndexFunc_int64_int64_2_σ ⊕ slices_IndexFunc_int64_int64_2_ω) := fun x => (slices_IndexFunc_int64_int64_2_step (x.1) (x.2.1) (x.2.2.1) (x.2.2.2.1) (x.2.2.2.2))
noncomputable def slices_IndexFunc_int64_int64_k2_1 (A : List (List TC)) (lw : List TC) (hg : List TC) (m : Int) (i : Int) : Bool := A.all (inR (nth lw 0).int (nth hg 0).int)
noncomputable def slices_IndexFunc_int64_int64_o2_2 (A : List (List TC)) (lw : List TC) (hg : List TC) (m : Int) (i : Int) : Bool := is (i = 0 ∧ Typed tab (.slice 2) (.l A) ∧ m = (A.length : Int))
noncomputable def slices_IndexFunc_int64_int64_o2_3 (A : List (List TC)) (lw : List TC) (hg : List TC) (m : Int) (i : Int) : Bool := is (i = 0 ∧ Typed tab (.slice 2) (.l A) ∧ m = (A.length : Int))
noncomputable def slices_IndexFunc_int64_int64_u2_3 (A : List (List TC)) (lw : List TC) (hg : List TC) (m : Int) (i : Int) : Int := (Int.ofNat (A.findIdx fun x => !(inR (nth lw 0).int (nth hg 0).int) x))
noncomputable def slices_IndexFunc_int64_int64_2_fin (A : List (List TC)) (lw : List TC) (hg : List TC) (m : Int) (i : Int) : Told slices_IndexFunc_int64_int64_2_ω := (.br (slices_IndexFunc_int64_int64_k2_1 A lw hg m i) (.leaf (slices_IndexFunc_int64_int64_o2_2 A lw hg m i) (.inr ())) (.leaf (slices_IndexFunc_int64_int64_o2_3 A lw hg m i) (.inl (slices_IndexFunc_int64_int64_u2_3 A lw hg m i))))
def slices_IndexFunc_int64_int64_2_sl (x : slices_IndexFunc_int64_int64_2_σ) : List Slot := [⟨.val false [⟨.slice 2, .sh, TC.l (x.1)⟩], ⟨0, 0⟩⟩, ⟨.val false [⟨.func, .sh, TC.f 121 [(2, x.2.1), (2, x.2.2.1)]⟩], ⟨0, 0⟩⟩, ⟨.val false [⟨.int .i64, .sh, TC.i (x.2.2.2.1)⟩], ⟨0, 0⟩⟩, ⟨.val false [⟨.int .i64, .sh, TC.i (x.2.2.2.2)⟩], ⟨0, 0⟩⟩]
def slices_IndexFunc_int64_int64_2_out : slices_IndexFunc_int64_int64_2_ω → Ex × List Slot := (Sum.elim (fun x => (.ret, [⟨.val false [⟨.int .i64, .sh, TC.i x⟩], ⟨0, 0⟩⟩])) (fun x => (.exit 0, [Slot.none])))
noncomputable def slices_IndexFunc_int64_int64_lo2 : List Slot → Option (Told (Ex × List Slot)) := fun s => match s with
  | [⟨.val false [⟨.slice 2, .sh, TC.l A⟩], ⟨0, 0⟩⟩, ⟨.val false [⟨.func, .sh, TC.f 121 [(2, lw), (2, hg)]⟩], ⟨0, 0⟩⟩, ⟨.val false [⟨.int .i64, .sh, TC.i m⟩], ⟨0, 0⟩⟩, ⟨.val false [⟨.int .i64, .sh, TC.i i⟩], ⟨0, 0⟩⟩] => some (((slices_IndexFunc_int64_int64_2_fin A lw hg m i)).map slices_IndexFunc_int64_int64_2_out)
  | _ => .none
noncomputable def slices_IndexFunc_int64_int64_lo : LoopTeller := fun r s => bif Nat.beq r 2 then slices_IndexFunc_int64_int64_lo2 s else .none
theorem slices_IndexFunc_int64_int64_2_r (A : List (List TC)) (lw : List TC) (hg : List TC) (m : Int) (i : Int) (fuel : Nat) : rounds (rnd tab FT D12 live 140 slices_IndexFunc_int64_int64_lo 0 2) leave (fuel + 1) (slices_IndexFunc_int64_int64_2_sl (A, lw, hg, m, i)) = ((slices_IndexFunc_int64_int64_2_step A lw hg m i)).run (goOn (fun s => rounds (rnd tab FT D12 live 140 slices_IndexFunc_int64_int64_lo 0 2) leave fuel (slices_IndexFunc_int64_int64_2_sl s)) fun w => some (slices_IndexFunc_int64_int64_2_out w)) := by kernel_rfl
theorem slices_IndexFunc_int64_int64_2_h (A : List (List TC)) (lw : List TC) (hg : List TC) (m : Int) (i : Int) (ow : slices_IndexFunc_int64_int64_2_ω) : ((slices_IndexFunc_int64_int64_2_fin A lw hg m i)).val = some ow → ∃ fuel, loopN slices_IndexFunc_int64_int64_2_st fuel (A, lw, hg, m, i) = some ow := by
  intro h
  have key : Typed tab (.slice 2) (.l A) → loopN slices_IndexFunc_int64_int64_2_st (A.length + 1) (A, lw, hg, (A.length : Int), (0 : Int)) = some (if A.all (inR (nth lw 0).int (nth hg 0).int) = true then (.inr ()) else (.inl (Int.ofNat (A.findIdx fun x => !(inR (nth lw 0).int (nth hg 0).int) x)))) := by
    intro ht
    have hlen : A.length ≤ 140737488351232 := by have := typed_room ht; simp only [show (tab 2).bytes = 8 from rfl] at this; omega
    have key := loopN_scan (step := slices_IndexFunc_int64_int64_2_st) A [] (inR (nth lw 0).int (nth hg 0).int) (fun a _ => a) (fun i a => (A, lw, hg, (A.length : Int), (i : Int))) (fun a => (.inr ())) (fun i a => (.inl (i : Int))) (fun i a hi => ?_) (fun a => ?_) A.length 0 () (by omega)
    · first | (rw [Nat.zero_add] at key; exact key) | exact key
    · skip
      show (slices_IndexFunc_int64_int64_2_step A lw hg (A.length : Int) (i : Int)).val = _
      unfold slices_IndexFunc_int64_int64_2_step
      refine Tr.t (by simp; omega) ?_
      skip
      refine Tr.t (by first | omega | (constructor <;> omega)) ?_
      refine Tr.b (P := (inR (nth lw 0).int (nth hg 0).int) (A.getD i [])) (fun hP => ?_) (fun _ => rfl)
      rw [Tr.val_ok, wrap64 (i := (i : Int) + 1) (by omega) (by omega)]; rfl
    · show (slices_IndexFunc_int64_int64_2_step A lw hg (A.length : Int) (A.length : Int)).val = _
      refine Tr.n (by simp) ?_
      rfl
  simp only [slices_IndexFunc_int64_int64_2_fin, Told.val] at h
  cases hk : A.all (inR (nth lw 0).int (nth hg 0).int) with
  | true =>
    rw [if_pos (show slices_IndexFunc_int64_int64_k2_1 A lw hg m i = true from hk)] at h
    split at h
    · rename_i ho
      obtain ⟨rfl, ht, rfl⟩ := is_iff.1 ho
      cases h
      refine ⟨_, (key ht).trans ?_⟩
      rw [hk]; rfl
    · cases h
  | false =>
    rw [if_neg (show ¬slices_IndexFunc_int64_int64_k2_1 A lw hg m i = true from by rw [show slices_IndexFunc_int64_int64_k2_1 A lw hg m i = (A.all (inR (nth lw 0).int (nth hg 0).int)) from rfl, hk]; simp)] at h
    split at h
    · rename_i ho
      obtain ⟨rfl, ht, rfl⟩ := is_iff.1 ho
      cases h
      refine ⟨_, (key ht).trans ?_⟩
      rw [hk]; rfl
    · cases h
theorem slices_IndexFunc_int64_int64_is2 : LoopIs tab FT D12 live 140 slices_IndexFunc_int64_int64_lo 0 2 := by
  refine loop_told (sl := slices_IndexFunc_int64_int64_2_sl) (step := slices_IndexFunc_int64_int64_2_st) (out := slices_IndexFunc_int64_int64_2_out) (lor := slices_IndexFunc_int64_int64_lo2) (fin := fun x => (slices_IndexFunc_int64_int64_2_fin (x.1) (x.2.1) (x.2.2.1) (x.2.2.2.1) (x.2.2.2.2))) (fun _ => rfl) ?_ (fun x n => slices_IndexFunc_int64_int64_2_r x.1 x.2.1 x.2.2.1 x.2.2.2.1 x.2.2.2.2 n) (fun x ow => slices_IndexFunc_int64_int64_2_h x.1 x.2.1 x.2.2.1 x.2.2.2.1 x.2.2.2.2 ow)
  intro s t h
  unfold slices_IndexFunc_int64_int64_lo2 at h
  split at h
  · cases h; exact ⟨(_, _, _, _, _), rfl, rfl⟩
  · cases h
noncomputable def slices_IndexFunc_int64_int64_t (A : List (List TC)) (lw : List TC) (hg : List TC) : Tr (Int) := (.ite ((slices_IndexFunc_int64_int64_k2_1 A lw hg (A.length : Int) (0 : Int)) = true) (.ite ((slices_IndexFunc_int64_int64_o2_2 A lw hg (A.length : Int) (0 : Int)) = true) (.ok (-1 : Int))
   .no)
  (.ite ((slices_IndexFunc_int64_int64_o2_3 A lw hg (A.length : Int) (0 : Int)) = true) (.ok (slices_IndexFunc_int64_int64_u2_3 A lw hg (A.length : Int) (0 : Int)))
   .no))
def slices_IndexFunc_int64_int64_mk (p : Int) : Res := [(false, [⟨.int .i64, .sh, TC.i p⟩])]
noncomputable def slices_IndexFunc_int64_int64_c (A : List (List TC)) (lw : List TC) (hg : List TC) : Bool := is (Typed tab (.slice 2) (.l A))
noncomputable def slices_IndexFunc_int64_int64_v (A : List (List TC)) (lw : List TC) (hg : List TC) : Int := if (A.all (inR (nth lw 0).int (nth hg 0).int)) = true then -1 else (Int.ofNat (A.findIdx fun x => !(inR (nth lw 0).int (nth hg 0).int) x))
theorem slices_IndexFunc_int64_int64_l (A : List (List TC)) (lw : List TC) (hg : List TC) : (slices_IndexFunc_int64_int64_c A lw hg) = true → (slices_IndexFunc_int64_int64_t A lw hg).val = some (slices_IndexFunc_int64_int64_v A lw hg) := by
  intro h
  have ht := is_iff.1 h
  unfold slices_IndexFunc_int64_int64_t
  cases hk : A.all (inR (nth lw 0).int (nth hg 0).int) with
  | true =>
    refine Tr.t (show A.all (inR (nth lw 0).int (nth hg 0).int) = true from hk) ?_
    refine Tr.t (by first | (apply is_true; and_intros <;> (first | rfl | assumption | (apply spec_l05Space_cc <;> assumption) | (apply spec_l01PutUint_cc <;> assumption) | (apply spec_EncodeSpace_cc <;> assumption) | (first | (apply is_true; and_intros <;> (first | rfl | assumption | (apply spec_l05Space_cc <;> assumption) | (apply spec_l01PutUint_cc <;> assumption) | (apply spec_EncodeSpace_cc <;> assumption) | (first | (apply is_true; and_intros <;> (first | rfl | assumption | (apply spec_l05Space_cc <;> assumption) | (apply spec_l01PutUint_cc <;> assumption) | (apply spec_EncodeSpace_cc <;> assumption) | (first | (apply is_true; and_intros <;> (first | rfl | assumption | (apply spec_l05Space_cc <;> assumption) | (apply spec_l01PutUint_cc <;> assumption) | (apply spec_EncodeSpace_cc <;> assumption))) | (apply spec_l05Space_cc <;> assumption) | (apply spec_l01PutUint_cc <;> assumption) | (apply spec_EncodeSpace_cc <;> assumption)))) | (apply spec_l05Space_cc <;> assumption) | (apply spec_l01PutUint_cc <;> assumption) | (apply spec_EncodeSpace_cc <;> assumption)))) | (apply spec_l05Space_cc <;> assumption) | (apply spec_l01PutUint_cc <;> assumption) | (apply spec_EncodeSpace_cc <;> assumption)))) | (apply spec_l05Space_cc <;> assumption) | (apply spec_l01PutUint_cc <;> assumption) | (apply spec_EncodeSpace_cc <;> assumption)) ?_
    show _ = some (slices_IndexFunc_int64_int64_v A lw hg); unfold slices_IndexFunc_int64_int64_v; rw [if_pos hk]; rfl
  | false =>
    refine Tr.n (show ¬A.all (inR (nth lw 0).int (nth hg 0).int) = true from by rw [hk]; simp) ?_
    refine Tr.t (by first | (apply is_true; and_intros <;> (first | rfl | assumption | (apply spec_l05Space_cc <;> assumption) | (apply spec_l01PutUint_cc <;> assumption) | (apply spec_EncodeSpace_cc <;> assumption) | (first | (apply is_true; and_intros <;> (first | rfl | assumption | (apply spec_l05Space_cc <;> assumption) | (apply spec_l01PutUint_cc <;> assumption) | (apply spec_EncodeSpace_cc <;> assumption) | (first | (apply is_true; and_intros <;> (first | rfl | assumption | (apply spec_l05Space_cc <;> assumption) | (apply spec_l01PutUint_cc <;> assumption) | (apply spec_EncodeSpace_cc <;> assumption) | (first | (apply is_true; and_intros <;> (first | rfl | assumption | (apply spec_l05Space_cc <;> assumption) | (apply spec_l01PutUint_cc <;> assumption) | (apply spec_EncodeSpace_cc <;> assumption))) | (apply spec_l05Space_cc <;> assumption) | (apply spec_l01PutUint_cc <;> assumption) | (apply spec_EncodeSpace_cc <;> assumption)))) | (apply spec_l05Space_cc <;> assumption) | (apply spec_l01PutUint_cc <;> assumption) | (apply spec_EncodeSpace_cc <;> assumption)))) | (apply spec_l05Space_cc <;> assumption) | (apply spec_l01PutUint_cc <;> assumption) | (apply spec_EncodeSpace_cc <;> assumption)))) | (apply spec_l05Space_cc <;> assumption) | (apply spec_l01PutUint_cc <;> assumption) | (apply spec_EncodeSpace_cc <;> assumption)) ?_
    show _ = some (slices_IndexFunc_int64_int64_v A lw hg); unfold slices_IndexFunc_int64_int64_v; rw [if_neg (by rw [hk]; simp)]; rfl
noncomputable def slices_IndexFunc_int64_int64_S : List Arg → Option (Bool × Res) := fun xs => match xs with
  | [(false, [(.slice 2, TC.l A)]), (false, [(.func, TC.f 121 [(2, lw), (2, hg)])])] => some ((slices_IndexFunc_int64_int64_c A lw hg), slices_IndexFunc_int64_int64_mk (slices_IndexFunc_int64_int64_v A lw hg))
  | _ => .none
theorem slices_IndexFunc_int64_int64_e (A : List (List TC)) (lw : List TC) (hg : List TC) : runF tab FT D12 live 140 slices_IndexFunc_int64_int64_lo [(false, [(.slice 2, TC.l A)]), (false, [(.func, TC.f 121 [(2, lw), (2, hg)])])] = (slices_IndexFunc_int64_int64_t A lw hg).run fun p => some (slices_IndexFunc_int64_int64_mk p) := by kernel_rfl
theorem slices_IndexFunc_int64_int64_s : ∀ xs r, slices_IndexFunc_int64_int64_S xs = some (true, r) → runF tab FT D12 live 140 slices_IndexFunc_int64_int64_lo xs = some r := by
  intro xs r h
  unfold slices_IndexFunc_int64_int64_S at h
  split at h
  · simp only [Option.some.injEq, Prod.mk.injEq] at h
    obtain ⟨h1, rfl⟩ := h
    exact fun_told (slices_IndexFunc_int64_int64_e _ _ _) (slices_IndexFunc_int64_int64_l _ _ _) h1
  · cases h
noncomputable def D13 : Dt := also D12 140 slices_IndexFunc_int64_int64_S
theorem d13 : DOk Go.Proofs.Try.prog tab D13 := d12.also mixed_ok tab_ok names_ok (fnLoops_one (by kernel_rfl) slices_IndexFunc_int64_int64_is2) slices_IndexFunc_int64_int64_s
/-! slices_ContainsFunc_int64_int64 -/
noncomputable def slices_ContainsFunc_int64_int64_t (A : List (List TC)) (lw : List TC) (hg : List TC) : Tr (Bool) := (.ite ((slices_IndexFunc_int64_int64_c A lw hg) = true) (.ok (decide ((slices_IndexFunc_int64_int64_v A lw hg) ≥ (0 : Int))))
  .no)
def slices_ContainsFunc_int64_int64_mk (p : Bool) : Res := [(false, [⟨.bool, .sh, TC.b p⟩])]
noncomputable def slices_ContainsFunc_int64_int64_c (A : List (List TC)) (lw : List TC) (hg : List TC) : Bool := is (Typed tab (.slice 2) (.l A))
noncomputable def slices_ContainsFunc_int64_int64_v (A : List (List TC)) (lw : List TC) (hg : List TC) : Bool := !(A.all (inR (nth lw 0).int (nth hg 0).int))
theorem slices_ContainsFunc_int64_int64_l (A : List (List TC)) (lw : List TC) (hg : List TC) : (slices_ContainsFunc_int64_int64_c A lw hg) = true → (slices_ContainsFunc_int64_int64_t A lw hg).val = some (slices_ContainsFunc_int64_int64_v A lw hg) := by
  intro h
  have ht := is_iff.1 h
  unfold slices_ContainsFunc_int64_int64_t
  refine Tr.t (by first | (apply is_true; and_intros <;> (first | rfl | assumption | (apply spec_l05Space_cc <;> assumption) | (apply spec_l01PutUint_cc <;> assumption) | (apply spec_EncodeSpace_cc <;> assumption) | (first | (apply is_true; and_intros <;> (first | rfl | assumption | (apply spec_l05Space_cc <;> assumption) | (apply spec_l01PutUint_cc <;> assumption) | (apply spec_EncodeSpace_cc <;> assumption) | (first | (apply is_true; and_intros <;> (first | rfl | assumption | (apply spec_l05Space_cc <;> assumption) | (apply spec_l01PutUint_cc <;> assumption) | (apply spec_EncodeSpace_cc <;> assumption) | (first | (apply is_true; and_intros <;> (first | rfl | assumption | (apply spec_l05Space_cc <;> assumption) | (apply spec_l01PutUint_cc <;> assumption) | (apply spec_EncodeSpace_cc <;> assumption))) | (apply spec_l05Space_cc <;> assumption) | (apply spec_l01PutUint_cc <;> assumption) | (apply spec_EncodeSpace_cc <;> assumption)))) | (apply spec_l05Space_cc <;> assumption) | (apply spec_l01PutUint_cc <;> assumption) | (apply spec_EncodeSpace_cc <;> assumption)))) | (apply spec_l05Space_cc <;> assumption) | (apply spec_l01PutUint_cc <;> assumption) | (apply spec_EncodeSpace_cc <;> assumption)))) | (apply spec_l05Space_cc <;> assumption) | (apply spec_l01PutUint_cc <;> assumption) | (apply spec_EncodeSpace_cc <;> assumption)) ?_
  show some (decide (slices_IndexFunc_int64_int64_v A lw hg ≥ 0)) = some (!(A.all (inR (nth lw 0).int (nth hg 0).int)))
  unfold slices_IndexFunc_int64_int64_v
  cases hk : A.all (inR (nth lw 0).int (nth hg 0).int) <;> simp
noncomputable def slices_ContainsFunc_int64_int64_S : List Arg → Option (Bool × Res) := fun xs => match xs with
  | [(false, [(.slice 2, TC.l A)]), (false, [(.func, TC.f 121 [(2, lw), (2, hg)])])] => some ((slices_ContainsFunc_int64_int64_c A lw hg), slices_ContainsFunc_int64_int64_mk (slices_ContainsFunc_int64_int64_v A lw hg))
  | _ => .none
theorem slices_ContainsFunc_int64_int64_e (A : List (List TC)) (lw : List TC) (hg : List TC) : runF tab FT D13 live 120 noLoops [(false, [(.slice 2, TC.l A)]), (false, [(.func, TC.f 121 [(2, lw), (2, hg)])])] = (slices_ContainsFunc_int64_int64_t A lw hg).run fun p => some (slices_ContainsFunc_int64_int64_mk p) := by kernel_rfl
theorem slices_ContainsFunc_int64_int64_s : ∀ xs r, slices_ContainsFunc_int64_int64_S xs = some (true, r) → runF tab FT D13 live 120 noLoops xs = some r := by
  intro xs r h
  unfold slices_ContainsFunc_int64_int64_S at h
  split at h
  · simp only [Option.some.injEq, Prod.mk.injEq] at h
    obtain ⟨h1, rfl⟩ := h
    exact fun_told (slices_ContainsFunc_int64_int64_e _ _ _) (slices_ContainsFunc_int64_int64_l _ _ _) h1
  · cases h
noncomputable def D14 : Dt := also D13 120 slices_ContainsFunc_int64_int64_S
theorem d14 : DOk Go.Proofs.Try.prog tab D14 := d13.also mixed_ok tab_ok names_ok noLoops_ok slices_ContainsFunc_int64_int64_s
/-! impl_allWithin -/
noncomputable def impl_allWithin_t (a0 : List (List TC)) (a1 : Int) (a2 : Int) : Tr (Bool) := (.ite ((slices_ContainsFunc_int64_int64_c a0 [TC.i a1] [TC.i a2]) = true) (.ok (!(slices_ContainsFunc_int64_int64_v a0 [TC.i a1] [TC.i a2])))
  .no)
def impl_allWithin_mk (p : Bool) : Res := [(false, [⟨.bool, .sh, TC.b p⟩])]
noncomputable def impl_allWithin_c (a0 : List (List TC)) (a1 : Int) (a2 : Int) : Bool := (slices_ContainsFunc_int64_int64_c a0 [TC.i a1] [TC.i a2])
noncomputable def impl_allWithin_v (a0 : List (List TC)) (a1 : Int) (a2 : Int) : Bool := (!(slices_ContainsFunc_int64_int64_v a0 [TC.i a1] [TC.i a2]))
theorem impl_allWithin_l (a0 : List (List TC)) (a1 : Int) (a2 : Int) : (impl_allWithin_c a0 a1 a2) = true → (impl_allWithin_t a0 a1 a2).val = some (impl_allWithin_v a0 a1 a2) := by
  intro h
  have hc0 : (slices_ContainsFunc_int64_int64_c a0 [TC.i a1] [TC.i a2]) = true := h
  unfold impl_allWithin_t
  exact (Tr.t hc0 rfl)
noncomputable def impl_allWithin_S : List Arg → Option (Bool × Res) := fun xs => match xs with
  | [(false, [(.slice 2, TC.l a0)]), (false, [(.int .i64, TC.i a1)]), (false, [(.int .i64, TC.i a2)])] => some ((impl_allWithin_c a0 a1 a2), impl_allWithin_mk (impl_allWithin_v a0 a1 a2))
  | _ => .none
theorem impl_allWithin_e (a0 : List (List TC)) (a1 : Int) (a2 : Int) : runF tab FT D14 live 79 noLoops [(false, [(.slice 2, TC.l a0)]), (false, [(.int .i64, TC.i a1)]), (false, [(.int .i64, TC.i a2)])] = (impl_allWithin_t a0 a1 a2).run fun p => some (impl_allWithin_mk p) := by kernel_rfl
theorem impl_allWithin_s : ∀ xs r, impl_allWithin_S xs = some (true, r) → runF tab FT D14 live 79 noLoops xs = some r := by
  intro xs r h
  unfold impl_allWithin_S at h
  split at h
  · simp only [Option.some.injEq, Prod.mk.injEq] at h
    obtain ⟨h1, rfl⟩ := h
    exact fun_told (impl_allWithin_e _ _ _) (impl_allWithin_l _ _ _) h1
  · cases h
noncomputable def D15 : Dt := also D14 79 impl_allWithin_S
theorem d15 : DOk Go.Proofs.Try.prog tab D15 := d14.also mixed_ok tab_ok names_ok noLoops_ok impl_allWithin_s
/-! impl_product -/
abbrev impl_product_3_σ := Int × List (List TC) × Int × Int
abbrev impl_product_3_ω := (Int)
noncomputable def impl_product_3_step (n : Int) (A : List (List TC)) (m : Int) (i : Int) : Tr (impl_product_3_σ ⊕ impl_product_3_ω) := (.ite ((decide (i < m)) = true) (.ite ((0 : Int) ≤ i ∧ i < (A.length : Int)) (.ok (.inl ((IntKind.wrap .i64 (n * (nth (row A i) 0).int)), A, m, (IntKind.wrap .i64 (i + (1 : Int))))))
   .no)
  (.ok (.inr n)))
noncomputable def impl_product_3_st : impl_product_3_σ → Tr (impl_product_3_σ ⊕ impl_product_3_ω) := fun x => (impl_product_3_step (x.1) (x.2.1) (x.2.2.1) (x.2.2.2))
noncomputable def impl_product_o3_1 (n : Int) (A : List (List TC)) (m : Int) (i : Int) : Bool := is (i = 0 ∧ n = 1 ∧ Typed tab (.slice 2) (.l A) ∧ m = (A.length : Int))
noncomputable def impl_product_u3_1 (n : Int) (A : List (List TC)) (m : Int) (i : Int) : Int := (A.foldl mulR (1 : Int))
noncomputable def impl_product_3_fin (n : Int) (A : List (List TC)) (m : Int) (i : Int) : Told impl_product_3_ω := (.leaf (impl_product_o3_1 n A m i) (impl_product_u3_1 n A m i))
def impl_product_3_sl (x : impl_product_3_σ) : List Slot := [⟨.val false [⟨.int .i64, .sh, TC.i (x.1)⟩], ⟨0, 0⟩⟩, ⟨.val false [⟨.slice 2, .sh, TC.l (x.2.1)⟩], ⟨0, 0⟩⟩, ⟨.val false [⟨.int .i64, .sh, TC.i (x.2.2.1)⟩], ⟨0, 0⟩⟩, ⟨.val false [⟨.int .i64, .sh, TC.i (x.2.2.2)⟩], ⟨0, 0⟩⟩]
def impl_product_3_out : impl_product_3_ω → Ex × List Slot := (fun x => (.exit 0, [Slot.none, ⟨.val false [⟨.int .i64, .sh, TC.i x⟩], ⟨0, 0⟩⟩]))
noncomputable def impl_product_lo3 : List Slot → Option (Told (Ex × List Slot)) := fun s => match s with
  | [⟨.val false [⟨.int .i64, .sh, TC.i n⟩], ⟨0, 0⟩⟩, ⟨.val false [⟨.slice 2, .sh, TC.l A⟩], ⟨0, 0⟩⟩, ⟨.val false [⟨.int .i64, .sh, TC.i m⟩], ⟨0, 0⟩⟩, ⟨.val false [⟨.int .i64, .sh, TC.i i⟩], ⟨0, 0⟩⟩] => some (((impl_product_3_fin n A m i)).map impl_product_3_out)
  | _ => .none
noncomputable def impl_product_lo : LoopTeller := fun r s => bif Nat.beq r 3 then impl_product_lo3 s else .none
theorem impl_product_3_r (n : Int) (A : List (List TC)) (m : Int) (i : Int) (fuel : Nat) : rounds (rnd tab FT D15 live 141 impl_product_lo 0 3) leave (fuel + 1) (impl_product_3_sl (n, A, m, i)) = ((impl_product_3_step n A m i)).run (goOn (fun s => rounds (rnd tab FT D15 live 141 impl_product_lo 0 3) leave fuel (impl_product_3_sl s)) fun w => some (impl_product_3_out w)) := by kernel_rfl
theorem impl_product_3_h (n : Int) (A : List (List TC)) (m : Int) (i : Int) (ow : impl_product_3_ω) : ((impl_product_3_fin n A m i)).val = some ow → ∃ fuel, loopN impl_product_3_st fuel (n, A, m, i) = some ow := by
  intro h
  have key : Typed tab (.slice 2) (.l A) → loopN impl_product_3_st (A.length + 1) ((1 : Int), A, (A.length : Int), (0 : Int)) = some ((A.foldl mulR (1 : Int))) := by
    intro ht
    have hlen : A.length ≤ 140737488351232 := by have := typed_room ht; simp only [show (tab 2).bytes = 8 from rfl] at this; omega
    have key := loopN_scan (step := impl_product_3_st) A [] (fun _ => true) mulR (fun i a => (a, A, (A.length : Int), (i : Int))) (fun a => a) (fun i a => a) (fun i a hi => ?_) (fun a => ?_) A.length 0 (1 : Int) (by omega)
    · first | (rw [Nat.zero_add] at key; exact key) | exact key | (simpa using key)
    · skip
      show (impl_product_3_step a A (A.length : Int) (i : Int)).val = _
      unfold impl_product_3_step
      refine Tr.t (by simp; omega) ?_
      show _ = some _
      refine Tr.t (by first | omega | (constructor <;> omega)) ?_
      rw [Tr.val_ok, wrap64 (i := (i : Int) + 1) (by omega) (by omega)]; rfl
    · show (impl_product_3_step a A (A.length : Int) (A.length : Int)).val = _
      refine Tr.n (by simp) ?_
      rfl
  simp only [impl_product_3_fin, Told.val] at h
  split at h
  · rename_i ho
    obtain ⟨rfl, rfl, ht, rfl⟩ := is_iff.1 ho
    cases h
    exact ⟨_, key ht⟩
  · cases h
theorem impl_product_is3 : LoopIs tab FT D15 live 141 impl_product_lo 0 3 := by
  refine loop_told (sl := impl_product_3_sl) (step := impl_product_3_st) (out := impl_product_3_out) (lor := impl_product_lo3) (fin := fun x => (impl_product_3_fin (x.1) (x.2.1) (x.2.2.1) (x.2.2.2))) (fun _ => rfl) ?_ (fun x n => impl_product_3_r x.1 x.2.1 x.2.2.1 x.2.2.2 n) (fun x ow => impl_product_3_h x.1 x.2.1 x.2.2.1 x.2.2.2 ow)
  intro s t h
  unfold impl_product_lo3 at h
  split at h
  · cases h; exact ⟨(_, _, _, _), rfl, rfl⟩
  · cases h
noncomputable def impl_product_t (A : List (List TC)) : Tr (Int) := (.ite ((impl_product_o3_1 (1 : Int) A (A.length : Int) (0 : Int)) = true) (.ok (impl_product_u3_1 (1 : Int) A (A.length : Int) (0 : Int)))
  .no)
def impl_product_mk (p : Int) : Res := [(false, [⟨.int .i64, .sh, TC.i p⟩])]
noncomputable def impl_product_c (A : List (List TC)) : Bool := (impl_product_o3_1 (1 : Int) A (A.length : Int) (0 : Int))
noncomputable def impl_product_v (A : List (List TC)) : Int := (impl_product_u3_1 (1 : Int) A (A.length : Int) (0 : Int))
theorem impl_product_l (A : List (List TC)) : (impl_product_c A) = true → (impl_product_t A).val = some (impl_product_v A) := by
  intro h
  have hc0 : (impl_product_o3_1 (1 : Int) A (A.length : Int) (0 : Int)) = true := h
  unfold impl_product_t
  exact (Tr.t hc0 rfl)
noncomputable def impl_product_S : List Arg → Option (Bool × Res) := fun xs => match xs with
  | [(false, [(.slice 2, TC.l A)])] => some ((impl_product_c A), impl_product_mk (impl_product_v A))
  | _ => .none
theorem impl_product_e (A : List (List TC)) : runF tab FT D15 live 141 impl_product_lo [(false, [(.slice 2, TC.l A)])] = (impl_product_t A).run fun p => some (impl_product_mk p) := by kernel_rfl
theorem impl_product_s : ∀ xs r, impl_product_S xs = some (true, r) → runF tab FT D15 live 141 impl_product_lo xs = some r := by
  intro xs r h
  unfold impl_product_S at h
  split at h
  · simp only [Option.some.injEq, Prod.mk.injEq] at h
    obtain ⟨h1, rfl⟩ := h
    exact fun_told (impl_product_e _) (impl_product_l _) h1
  · cases h
noncomputable def D16 : Dt := also D15 141 impl_product_S
theorem d16 : DOk Go.Proofs.Try.prog tab D16 := d15.also mixed_ok tab_ok names_ok (fnLoops_one (by kernel_rfl) impl_product_is3) impl_product_s
/-! impl_ValidDims -/
noncomputable def impl_ValidDims_t (A : List (List TC)) : Tr (Bool) := (.ite ((decide ((A.length : Int) ≤ (3 : Int))) = true) (.ite ((impl_allWithin_c A (0 : Int) (40 : Int)) = true) (.ite ((impl_allWithin_v A (0 : Int) (40 : Int)) = true) (.ite ((impl_product_c A) = true) (.ok (decide ((impl_product_v A) ≤ (600 : Int))))
     .no)
    (.ok false))
   .no)
  (.ok false))
def impl_ValidDims_mk (p : Bool) : Res := [(false, [⟨.bool, .sh, TC.b p⟩])]
noncomputable def impl_ValidDims_c (A : List (List TC)) : Bool := is (((impl_allWithin_c A (0 : Int) (40 : Int)) = true) ∧ ((impl_product_c A) = true))
noncomputable def impl_ValidDims_v (A : List (List TC)) : Bool := (bif (decide ((A.length : Int) ≤ (3 : Int))) then (bif (impl_allWithin_v A (0 : Int) (40 : Int)) then (decide ((impl_product_v A) ≤ (600 : Int))) else false) else false)
theorem impl_ValidDims_l (A : List (List TC)) : (impl_ValidDims_c A) = true → (impl_ValidDims_t A).val = some (impl_ValidDims_v A) := by
  intro h
  obtain ⟨g0, g1⟩ := is_iff.1 h
  unfold impl_ValidDims_t impl_ValidDims_v
  exact (Tr.s (Tr.t g0 (Tr.s (Tr.t g1 rfl) rfl)) rfl)
noncomputable def impl_ValidDims_S : List Arg → Option (Bool × Res) := fun xs => match xs with
  | [(false, [(.slice 2, TC.l A)])] => some ((impl_ValidDims_c A), impl_ValidDims_mk (impl_ValidDims_v A))
  | _ => .none
theorem impl_ValidDims_e (A : List (List TC)) : runF tab FT D16 live 127 noLoops [(false, [(.slice 2, TC.l A)])] = (impl_ValidDims_t A).run fun p => some (impl_ValidDims_mk p) := by kernel_rfl
theorem impl_ValidDims_s : ∀ xs r, impl_ValidDims_S xs = some (true, r) → runF tab FT D16 live 127 noLoops xs = some r := by
  intro xs r h
  unfold impl_ValidDims_S at h
  split at h
  · simp only [Option.some.injEq, Prod.mk.injEq] at h
    obtain ⟨h1, rfl⟩ := h
    exact fun_told (impl_ValidDims_e _) (impl_ValidDims_l _) h1
  · cases h
noncomputable def D17 : Dt := also D16 127 impl_ValidDims_S
theorem d17 : DOk Go.Proofs.Try.prog tab D17 := d16.also mixed_ok tab_ok names_ok noLoops_ok impl_ValidDims_s
theorem impl_ValidDims_vv (A : List (List TC)) : impl_ValidDims_v A = dimsOk A := by
  show (bif decide ((A.length : Int) ≤ 3) then bif (!(!(A.all (inR 0 40)))) then decide (prodL A ≤ 600) else false else false) = _
  unfold dimsOk
  cases decide ((A.length : Int) ≤ 3) <;> cases A.all (inR 0 40) <;> rfl
/-! impl_ValidSpace -/
noncomputable def impl_ValidSpace_f4 (D : List (List TC)) (Q : List (List TC)) (M : List (List TC)) (m : Int) (i : Int) : (Unit) ⊕ ((Unit) ⊕ (Unit)) := (bif (!((nth (row M i) 0).int == (-1 : Int))) then (bif (!(impl_within_v ((nth (row M i) 0).int) ((nth (row D i) 0).int) (40 : Int))) then (.inr (.inl ())) else (.inl ())) else (.inl ()))
noncomputable def impl_ValidSpace_e4 (D : List (List TC)) (Q : List (List TC)) (M : List (List TC)) (m : Int) : (Unit) ⊕ (Unit) := .inr ()
noncomputable def impl_ValidSpace_R4 (D : List (List TC)) (Q : List (List TC)) (M : List (List TC)) (m : Int) (i : Int) : (Unit) ⊕ (Unit) := iter (fun i a => (impl_ValidSpace_f4 D Q M m (i : Int))) (fun a => (impl_ValidSpace_e4 D Q M m)) (M.length) 0 ()
abbrev impl_ValidSpace_4_σ := List (List TC) × List (List TC) × List (List TC) × Int × Int
abbrev impl_ValidSpace_4_ω := (Unit) ⊕ (Unit)
noncomputable def impl_ValidSpace_4_step (D : List (List TC)) (Q : List (List TC)) (M : List (List TC)) (m : Int) (i : Int) : Tr (impl_ValidSpace_4_σ ⊕ impl_ValidSpace_4_ω) := (.ite ((decide (i < m)) = true) (.ite ((0 : Int) ≤ i ∧ i < (M.length : Int)) (.ite ((!((nth (row M i) 0).int == (-1 : Int))) = true) (.ite ((0 : Int) ≤ i ∧ i < (D.length : Int)) (.ite ((!(impl_within_v ((nth (row M i) 0).int) ((nth (row D i) 0).int) (40 : Int))) = true) (.ok (.inr (.inl ())))
      (.ok (.inl (D, Q, M, m, (IntKind.wrap .i64 (i + (1 : Int)))))))
     .no)
    (.ok (.inl (D, Q, M, m, (IntKind.wrap .i64 (i + (1 : Int)))))))
   .no)
  (.ok (.inr (.inr ()))))
noncomputable def impl_ValidSpace_4_st : impl_ValidSpace_4_σ → Tr (impl_ValidSpace_4_σ ⊕ impl_ValidSpace_4_ω) := fun x => (impl_ValidSpace_4_step (x.1) (x.2.1) (x.2.2.1) (x.2.2.2.1) (x.2.2.2.2))
noncomputable def impl_ValidSpace_k4_1 (D : List (List TC)) (Q : List (List TC)) (M : List (List TC)) (m : Int) (i : Int) : Bool := sumIs (impl_ValidSpace_R4 D Q M m i)
noncomputable def impl_ValidSpace_o4_2 (D : List (List TC)) (Q : List (List TC)) (M : List (List TC)) (m : Int) (i : Int) : Bool := is (i = 0 ∧ Typed tab (.slice 2) (.l M) ∧ m = (M.length : Int) ∧ D.length = M.length)
noncomputable def impl_ValidSpace_o4_3 (D : List (List TC)) (Q : List (List TC)) (M : List (List TC)) (m : Int) (i : Int) : Bool := is (i = 0 ∧ Typed tab (.slice 2) (.l M) ∧ m = (M.length : Int) ∧ D.length = M.length)
noncomputable def impl_ValidSpace_4_fin (D : List (List TC)) (Q : List (List TC)) (M : List (List TC)) (m : Int) (i : Int) : Told impl_ValidSpace_4_ω := (.br (impl_ValidSpace_k4_1 D Q M m i) (.leaf (impl_ValidSpace_o4_2 D Q M m i) (.inl ())) (.leaf (impl_ValidSpace_o4_3 D Q M m i) (.inr ())))
def impl_ValidSpace_4_sl (x : impl_ValidSpace_4_σ) : List Slot := [⟨.bx 68 [⟨.slice 2, .sh, TC.l (x.1)⟩, ⟨.slice 2, .sh, TC.l (x.2.1)⟩], ⟨0, 0⟩⟩, ⟨.val false [⟨.slice 2, .sh, TC.l (x.2.2.1)⟩], ⟨0, 0⟩⟩, ⟨.val false [⟨.int .i64, .sh, TC.i (x.2.2.2.1)⟩], ⟨0, 0⟩⟩, ⟨.val false [⟨.int .i64, .sh, TC.i (x.2.2.2.2)⟩], ⟨0, 0⟩⟩]
def impl_ValidSpace_4_out : impl_ValidSpace_4_ω → Ex × List Slot := (Sum.elim (fun x => (.ret, [⟨.val false [⟨.bool, .sh, TC.b false⟩], ⟨0, 0⟩⟩])) (fun x => (.exit 0, [Slot.none])))
noncomputable def impl_ValidSpace_lo4 : List Slot → Option (Told (Ex × List Slot)) := fun s => match s with
  | [⟨.bx 68 [⟨.slice 2, .sh, TC.l D⟩, ⟨.slice 2, .sh, TC.l Q⟩], ⟨0, 0⟩⟩, ⟨.val false [⟨.slice 2, .sh, TC.l M⟩], ⟨0, 0⟩⟩, ⟨.val false [⟨.int .i64, .sh, TC.i m⟩], ⟨0, 0⟩⟩, ⟨.val false [⟨.int .i64, .sh, TC.i i⟩], ⟨0, 0⟩⟩] => some (((impl_ValidSpace_4_fin D Q M m i)).map impl_ValidSpace_4_out)
  | _ => .none
noncomputable def impl_ValidSpace_lo : LoopTeller := fun r s => bif Nat.beq r 4 then impl_ValidSpace_lo4 s else .none
theorem impl_ValidSpace_4_r (D : List (List TC)) (Q : List (List TC)) (M : List (List TC)) (m : Int) (i : Int) (fuel : Nat) : rounds (rnd tab FT D17 live 91 impl_ValidSpace_lo 0 4) leave (fuel + 1) (impl_ValidSpace_4_sl (D, Q, M, m, i)) = ((impl_ValidSpace_4_step D Q M m i)).run (goOn (fun s => rounds (rnd tab FT D17 live 91 impl_ValidSpace_lo 0 4) leave fuel (impl_ValidSpace_4_sl s)) fun w => some (impl_ValidSpace_4_out w)) := by kernel_rfl
theorem impl_ValidSpace_f4_eq (D Q M : List (List TC)) (m : Int) (i : Int) : impl_ValidSpace_f4 D Q M m i = bif spaceB D M i then Sum.inl () else Sum.inr (Sum.inl ()) := by
  unfold impl_ValidSpace_f4 spaceB
  rw [show impl_within_v ((nth (row M i) 0).int) ((nth (row D i) 0).int) 40 = inR (nth (row D i) 0).int 40 (row M i) from rfl]
  generalize ((nth (row M i) 0).int == -1) = p0, inR (nth (row D i) 0).int 40 (row M i) = p1
  cases p0 <;> cases p1 <;> rfl
theorem impl_ValidSpace_R4_eq (D Q M : List (List TC)) (m : Int)  : impl_ValidSpace_R4 D Q M m 0 = bif allI (fun i : Nat => spaceB D M (i : Int)) (M.length) then Sum.inr () else (Sum.inl ()) := by
  unfold impl_ValidSpace_R4
  exact (iter_all (P := (fun i : Nat => spaceB D M (i : Int))) (g := fun _ a => a) (w := Sum.inl ()) fun j a _ => impl_ValidSpace_f4_eq D Q M m _)
theorem impl_ValidSpace_4_h (D : List (List TC)) (Q : List (List TC)) (M : List (List TC)) (m : Int) (i : Int) (ow : impl_ValidSpace_4_ω) : ((impl_ValidSpace_4_fin D Q M m i)).val = some ow → ∃ fuel, loopN impl_ValidSpace_4_st fuel (D, Q, M, m, i) = some ow := by
  refine auto_sum (R := (impl_ValidSpace_R4 D Q M m i)) rfl rfl rfl ?_
  intro ho
  have ho : is (i = 0 ∧ Typed tab (.slice 2) (.l M) ∧ m = (M.length : Int) ∧ D.length = M.length) = true := ho.elim id id
  obtain ⟨rfl, ht, rfl, hl⟩ := is_iff.1 ho
  have hlen : M.length ≤ 140737488351232 := by have := typed_room ht; simp only [show (tab 2).bytes = 8 from rfl] at this; omega
  refine ⟨(M.length) + 1, ?_⟩
  refine iter_loop (step := impl_ValidSpace_4_st) (M.length) (fun i a => (impl_ValidSpace_f4 D Q M (M.length : Int) (i : Int))) (fun a => (impl_ValidSpace_e4 D Q M (M.length : Int))) (fun i a => (D, Q, M, (M.length : Int), (i : Int))) (fun _ _ => True) trivial (fun i a hi hI => ⟨?_, fun _ _ => trivial⟩) (fun a hI => ?_)
  · show (impl_ValidSpace_4_step D Q M (M.length : Int) (i : Int)).val = _
    unfold impl_ValidSpace_4_step impl_ValidSpace_f4
    skip
    refine Tr.t (by simp; omega) ?_
    exact (Tr.t (by first | omega | (constructor <;> omega)) (Tr.bf (Tr.t (by first | omega | (constructor <;> omega)) (Tr.bf rfl (by rw [Tr.val_ok, wrap64 (i := (i : Int) + 1) (by omega) (by omega)]; rfl))) (by rw [Tr.val_ok, wrap64 (i := (i : Int) + 1) (by omega) (by omega)]; rfl)))
  · show (impl_ValidSpace_4_step D Q M (M.length : Int) (M.length : Int)).val = _
    refine Tr.n (by first | (simp; done) | (simp; omega) | omega) ?_
    rfl
theorem impl_ValidSpace_is4 : LoopIs tab FT D17 live 91 impl_ValidSpace_lo 0 4 := by
  refine loop_told (sl := impl_ValidSpace_4_sl) (step := impl_ValidSpace_4_st) (out := impl_ValidSpace_4_out) (lor := impl_ValidSpace_lo4) (fin := fun x => (impl_ValidSpace_4_fin (x.1) (x.2.1) (x.2.2.1) (x.2.2.2.1) (x.2.2.2.2))) (fun _ => rfl) ?_ (fun x n => impl_ValidSpace_4_r x.1 x.2.1 x.2.2.1 x.2.2.2.1 x.2.2.2.2 n) (fun x ow => impl_ValidSpace_4_h x.1 x.2.1 x.2.2.1 x.2.2.2.1 x.2.2.2.2 ow)
  intro s t h
  unfold impl_ValidSpace_lo4 at h
  split at h
  · cases h; exact ⟨(_, _, _, _, _), rfl, rfl⟩
  · cases h
noncomputable def impl_ValidSpace_t (D : List (List TC)) (M : List (List TC)) : Tr (Bool) := (.ite ((impl_ValidDims_c D) = true) (.ite ((!(impl_ValidDims_v D)) = true) (.ok false)
   (.ite ((!((M.length : Int) == (D.length : Int))) = true) (.ok false)
    (.ite ((impl_ValidSpace_k4_1 D M M (M.length : Int) (0 : Int)) = true) (.ite ((impl_ValidSpace_o4_2 D M M (M.length : Int) (0 : Int)) = true) (.ok false)
      .no)
     (.ite ((impl_ValidSpace_o4_3 D M M (M.length : Int) (0 : Int)) = true) (.ok true)
      .no))))
  .no)
def impl_ValidSpace_mk (p : Bool) : Res := [(false, [⟨.bool, .sh, TC.b p⟩])]
noncomputable def impl_ValidSpace_c (D : List (List TC)) (M : List (List TC)) : Bool := ((impl_ValidDims_c D) && (bif (!(impl_ValidDims_v D)) then true else (bif (!((M.length : Int) == (D.length : Int))) then true else (bif (impl_ValidSpace_k4_1 D M M (M.length : Int) (0 : Int)) then ((impl_ValidSpace_o4_2 D M M (M.length : Int) (0 : Int)) && true) else ((impl_ValidSpace_o4_3 D M M (M.length : Int) (0 : Int)) && true)))))
noncomputable def impl_ValidSpace_v (D : List (List TC)) (M : List (List TC)) : Bool := (bif (!(impl_ValidDims_v D)) then false else (bif (!((M.length : Int) == (D.length : Int))) then false else (bif (impl_ValidSpace_k4_1 D M M (M.length : Int) (0 : Int)) then false else true)))
theorem impl_ValidSpace_l (D : List (List TC)) (M : List (List TC)) : (impl_ValidSpace_c D M) = true → (impl_ValidSpace_t D M).val = some (impl_ValidSpace_v D M) := by
  unfold impl_ValidSpace_t impl_ValidSpace_v impl_ValidSpace_c
  exact fun h => (Tr.gb h fun h => (Tr.ss h (fun h => rfl) (fun h => (Tr.ss h (fun h => rfl) (fun h => (Tr.ss h (fun h => (Tr.gb h fun h => rfl)) (fun h => (Tr.gb h fun h => rfl))))))))
noncomputable def impl_ValidSpace_S : List Arg → Option (Bool × Res) := fun xs => match xs with
  | [(true, [(.slice 2, TC.l D), (.slice 2, TC.l M)])] => some ((impl_ValidSpace_c D M), impl_ValidSpace_mk (impl_ValidSpace_v D M))
  | _ => .none
theorem impl_ValidSpace_e (D : List (List TC)) (M : List (List TC)) : runF tab FT D17 live 91 impl_ValidSpace_lo [(true, [(.slice 2, TC.l D), (.slice 2, TC.l M)])] = (impl_ValidSpace_t D M).run fun p => some (impl_ValidSpace_mk p) := by kernel_rfl
theorem impl_ValidSpace_s : ∀ xs r, impl_ValidSpace_S xs = some (true, r) → runF tab FT D17 live 91 impl_ValidSpace_lo xs = some r := by
  intro xs r h
  unfold impl_ValidSpace_S at h
  split at h
  · simp only [Option.some.injEq, Prod.mk.injEq] at h
    obtain ⟨h1, rfl⟩ := h
    exact fun_told (impl_ValidSpace_e _ _) (impl_ValidSpace_l _ _) h1
  · cases h
noncomputable def D18 : Dt := also D17 91 impl_ValidSpace_S
theorem d18 : DOk Go.Proofs.Try.prog tab D18 := d17.also mixed_ok tab_ok names_ok (fnLoops_one (by kernel_rfl) impl_ValidSpace_is4) impl_ValidSpace_s
theorem impl_ValidSpace_cc {D : List (List TC)} {M : List (List TC)} (hD : Typed tab (.slice 2) (.l D)) (hM : Typed tab (.slice 2) (.l M)) : (impl_ValidSpace_c D M) = true := by
  unfold impl_ValidSpace_c
  refine andT (by first | (apply is_true; and_intros <;> (first | rfl | assumption | (apply spec_l05Space_cc <;> assumption) | (apply spec_l01PutUint_cc <;> assumption) | (apply spec_EncodeSpace_cc <;> assumption) | (first | (apply is_true; and_intros <;> (first | rfl | assumption | (apply spec_l05Space_cc <;> assumption) | (apply spec_l01PutUint_cc <;> assumption) | (apply spec_EncodeSpace_cc <;> assumption) | (first | (apply is_true; and_intros <;> (first | rfl | assumption | (apply spec_l05Space_cc <;> assumption) | (apply spec_l01PutUint_cc <;> assumption) | (apply spec_EncodeSpace_cc <;> assumption) | (first | (apply is_true; and_intros <;> (first | rfl | assumption | (apply spec_l05Space_cc <;> assumption) | (apply spec_l01PutUint_cc <;> assumption) | (apply spec_EncodeSpace_cc <;> assumption))) | (apply spec_l05Space_cc <;> assumption) | (apply spec_l01PutUint_cc <;> assumption) | (apply spec_EncodeSpace_cc <;> assumption)))) | (apply spec_l05Space_cc <;> assumption) | (apply spec_l01PutUint_cc <;> assumption) | (apply spec_EncodeSpace_cc <;> assumption)))) | (apply spec_l05Space_cc <;> assumption) | (apply spec_l01PutUint_cc <;> assumption) | (apply spec_EncodeSpace_cc <;> assumption)))) | (apply spec_l05Space_cc <;> assumption) | (apply spec_l01PutUint_cc <;> assumption) | (apply spec_EncodeSpace_cc <;> assumption)) ?_
  refine bifT (fun b1 => ?_) (fun b1 => ?_)
  · skip
    rfl
  · skip
    refine bifT (fun b2 => ?_) (fun b2 => ?_)
    · skip
      rfl
    · skip
      refine bifT (fun b3 => ?_) (fun b3 => ?_)
      · skip
        refine andT (by exact is_true ⟨rfl, hM, rfl, lenEq b2⟩) ?_
        rfl
      · skip
        refine andT (by exact is_true ⟨rfl, hM, rfl, lenEq b2⟩) ?_
        rfl
theorem impl_ValidSpace_vv (D M : List (List TC)) : impl_ValidSpace_v D M = spaceOk D M := by
  unfold impl_ValidSpace_v impl_ValidSpace_k4_1
  rw [impl_ValidSpace_R4_eq, impl_ValidDims_vv]
  unfold spaceOk
  cases dimsOk D <;> cases ((M.length : Int) == (D.length : Int)) <;> cases allI (fun i => spaceB D M (i : Int)) M.length <;> rfl
/-! impl_putBytes -/
abbrev impl_putBytes_3_σ := Int × List (List TC) × Int × Int
abbrev impl_putBytes_3_ω := (List (List TC))
noncomputable def impl_putBytes_3_step (n : Int) (X : List (List TC)) (m : Int) (k : Int) : Tr (impl_putBytes_3_σ ⊕ impl_putBytes_3_ω) := (.ite ((decide (k < m)) = true) (.ite (0 ≤ (IntKind.wrap .i64 ((8 : Int) * k))) (.ite ((0 : Int) ≤ k ∧ k < (X.length : Int)) (.ok (.inl (n, (X.set (k).toNat (splice (row X k) 0 [TC.i (IntKind.wrap .u8 (Int.fdiv n (2 ^ (min ((IntKind.wrap .i64 ((8 : Int) * k))).toNat 64))))])), m, (IntKind.wrap .i64 (k + (1 : Int))))))
    .no)
   .no)
  (.ok (.inr X)))
noncomputable def impl_putBytes_3_st : impl_putBytes_3_σ → Tr (impl_putBytes_3_σ ⊕ impl_putBytes_3_ω) := fun x => (impl_putBytes_3_step (x.1) (x.2.1) (x.2.2.1) (x.2.2.2))
noncomputable def impl_putBytes_o3_1 (n : Int) (X : List (List TC)) (m : Int) (k : Int) : Bool := is (∃ sz : Nat, m = (sz : Int) ∧ sz ≤ 8 ∧ X = List.replicate sz [TC.i 0] ∧ k = 0)
noncomputable def impl_putBytes_u3_1 (n : Int) (X : List (List TC)) (m : Int) (k : Int) : List (List TC) := bRows n m.toNat
noncomputable def impl_putBytes_3_fin (n : Int) (X : List (List TC)) (m : Int) (k : Int) : Told impl_putBytes_3_ω := (.leaf (impl_putBytes_o3_1 n X m k) (impl_putBytes_u3_1 n X m k))
def impl_putBytes_3_sl (x : impl_putBytes_3_σ) : List Slot := [⟨.val false [⟨.int .i64, .sh, TC.i (x.1)⟩], ⟨0, 0⟩⟩, ⟨.val false [⟨.slice 5, .own true, TC.l (x.2.1)⟩], ⟨0, 0⟩⟩, ⟨.val false [⟨.int .i64, .sh, TC.i (x.2.2.1)⟩], ⟨0, 0⟩⟩, ⟨.val false [⟨.int .i64, .sh, TC.i (x.2.2.2)⟩], ⟨0, 0⟩⟩]
def impl_putBytes_3_out : impl_putBytes_3_ω → Ex × List Slot := (fun x => (.exit 0, [Slot.none, ⟨.val false [⟨.slice 5, .own true, TC.l x⟩], ⟨0, 0⟩⟩]))
noncomputable def impl_putBytes_lo3 : List Slot → Option (Told (Ex × List Slot)) := fun s => match s with
  | [⟨.val false [⟨.int .i64, .sh, TC.i n⟩], ⟨0, 0⟩⟩, ⟨.val false [⟨.slice 5, .own true, TC.l X⟩], ⟨0, 0⟩⟩, ⟨.val false [⟨.int .i64, .sh, TC.i m⟩], ⟨0, 0⟩⟩, ⟨.val false [⟨.int .i64, .sh, TC.i k⟩], ⟨0, 0⟩⟩] => some (((impl_putBytes_3_fin n X m k)).map impl_putBytes_3_out)
  | _ => .none
noncomputable def impl_putBytes_lo : LoopTeller := fun r s => bif Nat.beq r 3 then impl_putBytes_lo3 s else .none
theorem impl_putBytes_3_r (n : Int) (X : List (List TC)) (m : Int) (k : Int) (fuel : Nat) : rounds (rnd tab FT D18 live 117 impl_putBytes_lo 0 3) leave (fuel + 1) (impl_putBytes_3_sl (n, X, m, k)) = ((impl_putBytes_3_step n X m k)).run (goOn (fun s => rounds (rnd tab FT D18 live 117 impl_putBytes_lo 0 3) leave fuel (impl_putBytes_3_sl s)) fun w => some (impl_putBytes_3_out w)) := by kernel_rfl
theorem impl_putBytes_3_h (n : Int) (X : List (List TC)) (m : Int) (k : Int) (ow : impl_putBytes_3_ω) : ((impl_putBytes_3_fin n X m k)).val = some ow → ∃ fuel, loopN impl_putBytes_3_st fuel (n, X, m, k) = some ow := by
  intro h
  refine auto_leaf (R := bRows n m.toNat) (fun ho => ?_) h
  obtain ⟨sz, rfl, h8, rfl, rfl⟩ := is_iff.1 ho
  rw [wr_zero (n := n)]
  refine ⟨sz + 1, loopN_run (step := impl_putBytes_3_st) (N := sz) (fun j => (n, (wr sz (bAt n) (fun _ => [TC.i 0]) (fun p => decide (p < j))), (sz : Int), (j : Int))) (fun j hj => ?_) ?_ sz 0 (by omega)⟩
  · have e := wr_step (L := sz) (p0 := j) (F := bAt n) (O := fun _ => [TC.i 0]) (vis := fun p => decide (p < j)) (vis' := fun p => decide (p < j + 1)) hj (fun _ => rfl) (fun _ => rfl) (fun p _ => by
      rw [Bool.eq_iff_iff]; simp only [Bool.or_eq_true, decide_eq_true_eq, beq_iff_eq]; omega)
    show (impl_putBytes_3_step n (wr sz (bAt n) (fun _ => [TC.i 0]) (fun p => decide (p < j))) (sz : Int) (j : Int)).val = _
    unfold impl_putBytes_3_step
    rw [bAt_i64 (by omega)]
    refine Tr.t (by simp; omega) ?_
    refine Tr.t (by rw [wrap64 (by omega) (by omega)]; omega) ?_
    refine Tr.t ⟨by omega, by rw [wr_len]; omega⟩ ?_
    rw [Tr.val_ok, wrap64 (i := (j : Int) + 1) (by omega) (by omega)]
    show some (Sum.inl (n, (wr sz (bAt n) (fun _ => [TC.i 0]) (fun p => decide (p < j))).set j (splice ((wr sz (bAt n) (fun _ => [TC.i 0]) (fun p => decide (p < j))).getD j []) 0 (bAt n j)), (sz : Int), ((j + 1 : Nat) : Int))) = _
    rw [e]
  · show (impl_putBytes_3_step n (wr sz (bAt n) (fun _ => [TC.i 0]) (fun p => decide (p < sz))) (sz : Int) (sz : Int)).val = _
    refine Tr.n (by simp) ?_
    rw [wr_bRows]
    rfl
theorem impl_putBytes_is3 : LoopIs tab FT D18 live 117 impl_putBytes_lo 0 3 := by
  refine loop_told (sl := impl_putBytes_3_sl) (step := impl_putBytes_3_st) (out := impl_putBytes_3_out) (lor := impl_putBytes_lo3) (fin := fun x => (impl_putBytes_3_fin (x.1) (x.2.1) (x.2.2.1) (x.2.2.2))) (fun _ => rfl) ?_ (fun x n => impl_putBytes_3_r x.1 x.2.1 x.2.2.1 x.2.2.2 n) (fun x ow => impl_putBytes_3_h x.1 x.2.1 x.2.2.1 x.2.2.2 ow)
  intro s t h
  unfold impl_putBytes_lo3 at h
  split at h
  · cases h; exact ⟨(_, _, _, _), rfl, rfl⟩
  · cases h
noncomputable def impl_putBytes_t (n : Int) (size : Int) : Tr (List UInt8) := (.ite (0 ≤ size ∧ size ≤ size ∧ size * 1 ≤ 140737488355328 ∧ size ≤ 140737488355328) (.ite ((impl_putBytes_o3_1 n (List.replicate (size).toNat [TC.i (0 : Int)]) ((List.replicate (size).toNat [TC.i (0 : Int)]).length : Int) (0 : Int)) = true) (.ok ((impl_putBytes_u3_1 n (List.replicate (size).toNat [TC.i (0 : Int)]) ((List.replicate (size).toNat [TC.i (0 : Int)]).length : Int) (0 : Int)).map byteOf))
   .no)
  .no)
def impl_putBytes_mk (p : List UInt8) : Res := [(false, [⟨.str, .sh, TC.s p⟩])]
noncomputable def impl_putBytes_c (n : Int) (size : Int) : Bool := is (∃ sz : Nat, size = (sz : Int) ∧ sz ≤ 8)
noncomputable def impl_putBytes_v (n : Int) (size : Int) : List UInt8 := hid (bytesL n size.toNat)
theorem impl_putBytes_l (n : Int) (size : Int) : (impl_putBytes_c n size) = true → (impl_putBytes_t n size).val = some (impl_putBytes_v n size) := by
  intro h
  obtain ⟨sz, rfl, h8⟩ := is_iff.1 h
  unfold impl_putBytes_t
  refine Tr.t (by omega) ?_
  refine Tr.t (is_true ⟨sz, by simp, h8, rfl, rfl⟩) ?_
  unfold impl_putBytes_v
  rw [hid_eq]; simp; rfl
noncomputable def impl_putBytes_S : List Arg → Option (Bool × Res) := fun xs => match xs with
  | [(false, [(.int .i64, TC.i n)]), (false, [(.int .i64, TC.i size)])] => some ((impl_putBytes_c n size), impl_putBytes_mk (impl_putBytes_v n size))
  | _ => .none
theorem impl_putBytes_e (n : Int) (size : Int) : runF tab FT D18 live 117 impl_putBytes_lo [(false, [(.int .i64, TC.i n)]), (false, [(.int .i64, TC.i size)])] = (impl_putBytes_t n size).run fun p => some (impl_putBytes_mk p) := by kernel_rfl
theorem impl_putBytes_s : ∀ xs r, impl_putBytes_S xs = some (true, r) → runF tab FT D18 live 117 impl_putBytes_lo xs = some r := by
  intro xs r h
  unfold impl_putBytes_S at h
  split at h
  · simp only [Option.some.injEq, Prod.mk.injEq] at h
    obtain ⟨h1, rfl⟩ := h
    exact fun_told (impl_putBytes_e _ _) (impl_putBytes_l _ _) h1
  · cases h
noncomputable def D19 : Dt := also D18 117 impl_putBytes_S
theorem d19 : DOk Go.Proofs.Try.prog tab D19 := d18.also mixed_ok tab_ok names_ok (fnLoops_one (by kernel_rfl) impl_putBytes_is3) impl_putBytes_s
theorem impl_putBytes_h {n size : Int} : impl_putBytes_v n size = bytesL n size.toNat := hid_eq _
theorem impl_putBytes_len {n : Int} {sz : Nat} : (impl_putBytes_v n (sz : Int)).length = sz := by rw [impl_putBytes_h]; exact bytesL_len
/-! impl_Space_encode -/
noncomputable def impl_Space_encode_f3 (Q : List (List TC)) (M : List (List TC)) (D : List (List TC)) (m : Int) (i : Int) (s : List UInt8) : (List UInt8) ⊕ ((List UInt8)) := (bif ((nth (row M i) 0).int == (-1 : Int)) then (.inl ((s ++ (impl_putBytes_v ((nth (row D i) 0).int) (1 : Int))) ++ (impl_putBytes_v (255 : Int) (1 : Int)))) else (.inl ((s ++ (impl_putBytes_v ((nth (row D i) 0).int) (1 : Int))) ++ (impl_putBytes_v ((nth (row M i) 0).int) (1 : Int)))))
noncomputable def impl_Space_encode_e3 (Q : List (List TC)) (M : List (List TC)) (D : List (List TC)) (m : Int) (s : List UInt8) : (List UInt8) := s
noncomputable def impl_Space_encode_R3 (Q : List (List TC)) (M : List (List TC)) (s : List UInt8) (D : List (List TC)) (m : Int) (i : Int) : (List UInt8) := iter (fun i a => (impl_Space_encode_f3 Q M D m (i : Int) a)) (fun a => (impl_Space_encode_e3 Q M D m a)) (D.length) 0 s
abbrev impl_Space_encode_3_σ := List (List TC) × List (List TC) × List UInt8 × List (List TC) × Int × Int
abbrev impl_Space_encode_3_ω := (List UInt8)
noncomputable def impl_Space_encode_3_step (Q : List (List TC)) (M : List (List TC)) (s : List UInt8) (D : List (List TC)) (m : Int) (i : Int) : Tr (impl_Space_encode_3_σ ⊕ impl_Space_encode_3_ω) := (.ite ((decide (i < m)) = true) (.ite ((0 : Int) ≤ i ∧ i < (D.length : Int)) (.ite ((impl_putBytes_c ((nth (row D i) 0).int) (1 : Int)) = true) (.ite (((s.length + (impl_putBytes_v ((nth (row D i) 0).int) (1 : Int)).length : Nat) : Int) ≤ 9223372036854775807) (.ite ((0 : Int) ≤ i ∧ i < (M.length : Int)) (.ite (((nth (row M i) 0).int == (-1 : Int)) = true) (.ite ((impl_putBytes_c (255 : Int) (1 : Int)) = true) (.ite ((((s ++ (impl_putBytes_v ((nth (row D i) 0).int) (1 : Int))).length + (impl_putBytes_v (255 : Int) (1 : Int)).length : Nat) : Int) ≤ 9223372036854775807) (.ok (.inl (Q, M, ((s ++ (impl_putBytes_v ((nth (row D i) 0).int) (1 : Int))) ++ (impl_putBytes_v (255 : Int) (1 : Int))), D, m, (IntKind.wrap .i64 (i + (1 : Int))))))
         .no)
        .no)
       (.ite ((0 : Int) ≤ i ∧ i < (M.length : Int)) (.ite ((impl_putBytes_c ((nth (row M i) 0).int) (1 : Int)) = true) (.ite ((((s ++ (impl_putBytes_v ((nth (row D i) 0).int) (1 : Int))).length + (impl_putBytes_v ((nth (row M i) 0).int) (1 : Int)).length : Nat) : Int) ≤ 9223372036854775807) (.ok (.inl (Q, M, ((s ++ (impl_putBytes_v ((nth (row D i) 0).int) (1 : Int))) ++ (impl_putBytes_v ((nth (row M i) 0).int) (1 : Int))), D, m, (IntKind.wrap .i64 (i + (1 : Int))))))
          .no)
         .no)
        .no))
      .no)
     .no)
    .no)
   .no)
  (.ok (.inr s)))
noncomputable def impl_Space_encode_3_st : impl_Space_encode_3_σ → Tr (impl_Space_encode_3_σ ⊕ impl_Space_encode_3_ω) := fun x => (impl_Space_encode_3_step (x.1) (x.2.1) (x.2.2.1) (x.2.2.2.1) (x.2.2.2.2.1) (x.2.2.2.2.2))
noncomputable def impl_Space_encode_o3_1 (Q : List (List TC)) (M : List (List TC)) (s : List UInt8) (D : List (List TC)) (m : Int) (i : Int) : Bool := is (i = 0 ∧ Typed tab (.slice 2) (.l D) ∧ m = (D.length : Int) ∧ s.length ≤ 8 ∧ D.length ≤ 64 ∧ D.length = M.length)
noncomputable def impl_Space_encode_u3_1 (Q : List (List TC)) (M : List (List TC)) (s : List UInt8) (D : List (List TC)) (m : Int) (i : Int) : List UInt8 := (impl_Space_encode_R3 Q M s D m i)
noncomputable def impl_Space_encode_3_fin (Q : List (List TC)) (M : List (List TC)) (s : List UInt8) (D : List (List TC)) (m : Int) (i : Int) : Told impl_Space_encode_3_ω := (.leaf (impl_Space_encode_o3_1 Q M s D m i) (impl_Space_encode_u3_1 Q M s D m i))
def impl_Space_encode_3_sl (x : impl_Space_encode_3_σ) : List Slot := [⟨.bx 68 [⟨.slice 2, .sh, TC.l (x.1)⟩, ⟨.slice 2, .sh, TC.l (x.2.1)⟩], ⟨0, 0⟩⟩, ⟨.val false [⟨.str, .sh, TC.s (x.2.2.1)⟩], ⟨0, 0⟩⟩, ⟨.val false [⟨.slice 2, .sh, TC.l (x.2.2.2.1)⟩], ⟨0, 0⟩⟩, ⟨.val false [⟨.int .i64, .sh, TC.i (x.2.2.2.2.1)⟩], ⟨0, 0⟩⟩, ⟨.val false [⟨.int .i64, .sh, TC.i (x.2.2.2.2.2)⟩], ⟨0, 0⟩⟩]
def impl_Space_encode_3_out : impl_Space_encode_3_ω → Ex × List Slot := (fun x => (.exit 0, [Slot.none, ⟨.val false [⟨.str, .sh, TC.s x⟩], ⟨0, 0⟩⟩]))
noncomputable def impl_Space_encode_lo3 : List Slot → Option (Told (Ex × List Slot)) := fun s => match s with
  | [⟨.bx 68 [⟨.slice 2, .sh, TC.l Q⟩, ⟨.slice 2, .sh, TC.l M⟩], ⟨0, 0⟩⟩, ⟨.val false [⟨.str, .sh, TC.s s⟩], ⟨0, 0⟩⟩, ⟨.val false [⟨.slice 2, .sh, TC.l D⟩], ⟨0, 0⟩⟩, ⟨.val false [⟨.int .i64, .sh, TC.i m⟩], ⟨0, 0⟩⟩, ⟨.val false [⟨.int .i64, .sh, TC.i i⟩], ⟨0, 0⟩⟩] => some (((impl_Space_encode_3_fin Q M s D m i)).map impl_Space_encode_3_out)
  | _ => .none
noncomputable def impl_Space_encode_lo : LoopTeller := fun r s => bif Nat.beq r 3 then impl_Space_encode_lo3 s else .none
theorem impl_Space_encode_3_r (Q : List (List TC)) (M : List (List TC)) (s : List UInt8) (D : List (List TC)) (m : Int) (i : Int) (fuel : Nat) : rounds (rnd tab FT D19 live 92 impl_Space_encode_lo 0 3) leave (fuel + 1) (impl_Space_encode_3_sl (Q, M, s, D, m, i)) = ((impl_Space_encode_3_step Q M s D m i)).run (goOn (fun s => rounds (rnd tab FT D19 live 92 impl_Space_encode_lo 0 3) leave fuel (impl_Space_encode_3_sl s)) fun w => some (impl_Space_encode_3_out w)) := by kernel_rfl
theorem impl_Space_encode_3_h (Q : List (List TC)) (M : List (List TC)) (s : List UInt8) (D : List (List TC)) (m : Int) (i : Int) (ow : impl_Space_encode_3_ω) : ((impl_Space_encode_3_fin Q M s D m i)).val = some ow → ∃ fuel, loopN impl_Space_encode_3_st fuel (Q, M, s, D, m, i) = some ow := by
  refine auto_leaf (R := (impl_Space_encode_R3 Q M s D m i)) ?_
  intro ho
  have ho : is (i = 0 ∧ Typed tab (.slice 2) (.l D) ∧ m = (D.length : Int) ∧ s.length ≤ 8 ∧ D.length ≤ 64 ∧ D.length = M.length) = true := ho
  obtain ⟨rfl, ht, rfl, hs0, hlim, hl⟩ := is_iff.1 ho
  have hlen : D.length ≤ 140737488351232 := by have := typed_room ht; simp only [show (tab 2).bytes = 8 from rfl] at this; omega
  refine ⟨(D.length) + 1, ?_⟩
  refine iter_loop (step := impl_Space_encode_3_st) (D.length) (fun i a => (impl_Space_encode_f3 Q M D (D.length : Int) (i : Int) a)) (fun a => (impl_Space_encode_e3 Q M D (D.length : Int) a)) (fun i a => (Q, M, a, D, (D.length : Int), (i : Int))) (fun i (a : List UInt8) => a.length ≤ 8 + 24 * i) (by simpa using hs0) (fun i a hi hI => ⟨?_, fun a' h => by
    unfold impl_Space_encode_f3 at h
    have hI : a.length ≤ 8 + 24 * i := hI
    have e0 : (impl_putBytes_v (nth (row D (i : Int)) 0).int (1 : Int)).length = 1 := impl_putBytes_len (sz := 1)
    have e1 : (impl_putBytes_v (nth (row M (i : Int)) 0).int (1 : Int)).length = 1 := impl_putBytes_len (sz := 1)
    have e2 : (impl_putBytes_v 255 (1 : Int)).length = 1 := impl_putBytes_len (sz := 1)
    cases hc0 : ((nth (row M (i : Int)) 0).int == -1) <;> rw [hc0] at h <;> (cases h; show List.length _ ≤ 8 + 24 * (i + 1); simp only [List.length_append]; omega)⟩) (fun a hI => ?_)
  · show (impl_Space_encode_3_step Q M a D (D.length : Int) (i : Int)).val = _
    unfold impl_Space_encode_3_step impl_Space_encode_f3
    have hI : a.length ≤ 8 + 24 * i := hI
    have e0 : (impl_putBytes_v (nth (row D (i : Int)) 0).int (1 : Int)).length = 1 := impl_putBytes_len (sz := 1)
    have e1 : (impl_putBytes_v (nth (row M (i : Int)) 0).int (1 : Int)).length = 1 := impl_putBytes_len (sz := 1)
    have e2 : (impl_putBytes_v 255 (1 : Int)).length = 1 := impl_putBytes_len (sz := 1)
    refine Tr.t (by simp; omega) ?_
    exact (Tr.t (by first | omega | (constructor <;> omega) | (simp only [List.length_append]; omega) | (exact is_true ⟨1, rfl, by omega⟩)) (Tr.t (by first | (simp only [List.length_append]; omega) | (exact is_true ⟨1, rfl, by omega⟩) | (first | (apply is_true; and_intros <;> (first | rfl | assumption | (apply spec_l05Space_cc <;> assumption) | (apply spec_l01PutUint_cc <;> assumption) | (apply spec_EncodeSpace_cc <;> assumption) | (apply impl_ValidSpace_cc <;> assumption) | (first | (apply is_true; and_intros <;> (first | rfl | assumption | (apply spec_l05Space_cc <;> assumption) | (apply spec_l01PutUint_cc <;> assumption) | (apply spec_EncodeSpace_cc <;> assumption) | (apply impl_ValidSpace_cc <;> assumption) | (first | (apply is_true; and_intros <;> (first | rfl | assumption | (apply spec_l05Space_cc <;> assumption) | (apply spec_l01PutUint_cc <;> assumption) | (apply spec_EncodeSpace_cc <;> assumption) | (apply impl_ValidSpace_cc <;> assumption))) | (apply spec_l05Space_cc <;> assumption) | (apply spec_l01PutUint_cc <;> assumption) | (apply spec_EncodeSpace_cc <;> assumption) | (apply impl_ValidSpace_cc <;> assumption)))) | (apply spec_l05Space_cc <;> assumption) | (apply spec_l01PutUint_cc <;> assumption) | (apply spec_EncodeSpace_cc <;> assumption) | (apply impl_ValidSpace_cc <;> assumption)))) | (apply spec_l05Space_cc <;> assumption) | (apply spec_l01PutUint_cc <;> assumption) | (apply spec_EncodeSpace_cc <;> assumption) | (apply impl_ValidSpace_cc <;> assumption))) (Tr.t (by first | omega | (constructor <;> omega) | (simp only [List.length_append]; omega) | (exact is_true ⟨1, rfl, by omega⟩)) (Tr.t (by first | omega | (constructor <;> omega) | (simp only [List.length_append]; omega) | (exact is_true ⟨1, rfl, by omega⟩)) (Tr.bf (Tr.t (by first | (simp only [List.length_append]; omega) | (exact is_true ⟨1, rfl, by omega⟩) | (first | (apply is_true; and_intros <;> (first | rfl | assumption | (apply spec_l05Space_cc <;> assumption) | (apply spec_l01PutUint_cc <;> assumption) | (apply spec_EncodeSpace_cc <;> assumption) | (apply impl_ValidSpace_cc <;> assumption) | (first | (apply is_true; and_intros <;> (first | rfl | assumption | (apply spec_l05Space_cc <;> assumption) | (apply spec_l01PutUint_cc <;> assumption) | (apply spec_EncodeSpace_cc <;> assumption) | (apply impl_ValidSpace_cc <;> assumption) | (first | (apply is_true; and_intros <;> (first | rfl | assumption | (apply spec_l05Space_cc <;> assumption) | (apply spec_l01PutUint_cc <;> assumption) | (apply spec_EncodeSpace_cc <;> assumption) | (apply impl_ValidSpace_cc <;> assumption))) | (apply spec_l05Space_cc <;> assumption) | (apply spec_l01PutUint_cc <;> assumption) | (apply spec_EncodeSpace_cc <;> assumption) | (apply impl_ValidSpace_cc <;> assumption)))) | (apply spec_l05Space_cc <;> assumption) | (apply spec_l01PutUint_cc <;> assumption) | (apply spec_EncodeSpace_cc <;> assumption) | (apply impl_ValidSpace_cc <;> assumption)))) | (apply spec_l05Space_cc <;> assumption) | (apply spec_l01PutUint_cc <;> assumption) | (apply spec_EncodeSpace_cc <;> assumption) | (apply impl_ValidSpace_cc <;> assumption))) (Tr.t (by first | omega | (constructor <;> omega) | (simp only [List.length_append]; omega) | (exact is_true ⟨1, rfl, by omega⟩)) (by rw [Tr.val_ok, wrap64 (i := (i : Int) + 1) (by omega) (by omega)]; rfl))) (Tr.t (by first | omega | (constructor <;> omega) | (simp only [List.length_append]; omega) | (exact is_true ⟨1, rfl, by omega⟩)) (Tr.t (by first | (simp only [List.length_append]; omega) | (exact is_true ⟨1, rfl, by omega⟩) | (first | (apply is_true; and_intros <;> (first | rfl | assumption | (apply spec_l05Space_cc <;> assumption) | (apply spec_l01PutUint_cc <;> assumption) | (apply spec_EncodeSpace_cc <;> assumption) | (apply impl_ValidSpace_cc <;> assumption) | (first | (apply is_true; and_intros <;> (first | rfl | assumption | (apply spec_l05Space_cc <;> assumption) | (apply spec_l01PutUint_cc <;> assumption) | (apply spec_EncodeSpace_cc <;> assumption) | (apply impl_ValidSpace_cc <;> assumption) | (first | (apply is_true; and_intros <;> (first | rfl | assumption | (apply spec_l05Space_cc <;> assumption) | (apply spec_l01PutUint_cc <;> assumption) | (apply spec_EncodeSpace_cc <;> assumption) | (apply impl_ValidSpace_cc <;> assumption))) | (apply spec_l05Space_cc <;> assumption) | (apply spec_l01PutUint_cc <;> assumption) | (apply spec_EncodeSpace_cc <;> assumption) | (apply impl_ValidSpace_cc <;> assumption)))) | (apply spec_l05Space_cc <;> assumption) | (apply spec_l01PutUint_cc <;> assumption) | (apply spec_EncodeSpace_cc <;> assumption) | (apply impl_ValidSpace_cc <;> assumption)))) | (apply spec_l05Space_cc <;> assumption) | (apply spec_l01PutUint_cc <;> assumption) | (apply spec_EncodeSpace_cc <;> assumption) | (apply impl_ValidSpace_cc <;> assumption))) (Tr.t (by first | omega | (constructor <;> omega) | (simp only [List.length_append]; omega) | (exact is_true ⟨1, rfl, by omega⟩)) (by rw [Tr.val_ok, wrap64 (i := (i : Int) + 1) (by omega) (by omega)]; rfl)))))))))
  · show (impl_Space_encode_3_step Q M a D (D.length : Int) (D.length : Int)).val = _
    refine Tr.n (by first | (simp; done) | (simp; omega) | omega) ?_
    rfl
theorem impl_Space_encode_is3 : LoopIs tab FT D19 live 92 impl_Space_encode_lo 0 3 := by
  refine loop_told (sl := impl_Space_encode_3_sl) (step := impl_Space_encode_3_st) (out := impl_Space_encode_3_out) (lor := impl_Space_encode_lo3) (fin := fun x => (impl_Space_encode_3_fin (x.1) (x.2.1) (x.2.2.1) (x.2.2.2.1) (x.2.2.2.2.1) (x.2.2.2.2.2))) (fun _ => rfl) ?_ (fun x n => impl_Space_encode_3_r x.1 x.2.1 x.2.2.1 x.2.2.2.1 x.2.2.2.2.1 x.2.2.2.2.2 n) (fun x ow => impl_Space_encode_3_h x.1 x.2.1 x.2.2.1 x.2.2.2.1 x.2.2.2.2.1 x.2.2.2.2.2 ow)
  intro s t h
  unfold impl_Space_encode_lo3 at h
  split at h
  · cases h; exact ⟨(_, _, _, _, _, _), rfl, rfl⟩
  · cases h
noncomputable def impl_Space_encode_t (D : List (List TC)) (M : List (List TC)) : Tr (List UInt8) := (.ite ((impl_putBytes_c (D.length : Int) (1 : Int)) = true) (.ite ((impl_Space_encode_o3_1 D M (impl_putBytes_v (D.length : Int) (1 : Int)) D (D.length : Int) (0 : Int)) = true) (.ok (impl_Space_encode_u3_1 D M (impl_putBytes_v (D.length : Int) (1 : Int)) D (D.length : Int) (0 : Int)))
   .no)
  .no)
def impl_Space_encode_mk (p : List UInt8) : Res := [(false, [⟨.str, .sh, TC.s p⟩])]
noncomputable def impl_Space_encode_c (D : List (List TC)) (M : List (List TC)) : Bool := ((impl_putBytes_c (D.length : Int) (1 : Int)) && ((impl_Space_encode_o3_1 D M (impl_putBytes_v (D.length : Int) (1 : Int)) D (D.length : Int) (0 : Int)) && true))
noncomputable def impl_Space_encode_v (D : List (List TC)) (M : List (List TC)) : List UInt8 := (impl_Space_encode_u3_1 D M (impl_putBytes_v (D.length : Int) (1 : Int)) D (D.length : Int) (0 : Int))
theorem impl_Space_encode_l (D : List (List TC)) (M : List (List TC)) : (impl_Space_encode_c D M) = true → (impl_Space_encode_t D M).val = some (impl_Space_encode_v D M) := by
  unfold impl_Space_encode_t impl_Space_encode_v impl_Space_encode_c
  exact fun h => (Tr.gb h fun h => (Tr.gb h fun h => rfl))
noncomputable def impl_Space_encode_S : List Arg → Option (Bool × Res) := fun xs => match xs with
  | [(true, [(.slice 2, TC.l D), (.slice 2, TC.l M)])] => some ((impl_Space_encode_c D M), impl_Space_encode_mk (impl_Space_encode_v D M))
  | _ => .none
theorem impl_Space_encode_e (D : List (List TC)) (M : List (List TC)) : runF tab FT D19 live 92 impl_Space_encode_lo [(true, [(.slice 2, TC.l D), (.slice 2, TC.l M)])] = (impl_Space_encode_t D M).run fun p => some (impl_Space_encode_mk p) := by kernel_rfl
theorem impl_Space_encode_s : ∀ xs r, impl_Space_encode_S xs = some (true, r) → runF tab FT D19 live 92 impl_Space_encode_lo xs = some r := by
  intro xs r h
  unfold impl_Space_encode_S at h
  split at h
  · simp only [Option.some.injEq, Prod.mk.injEq] at h
    obtain ⟨h1, rfl⟩ := h
    exact fun_told (impl_Space_encode_e _ _) (impl_Space_encode_l _ _) h1
  · cases h
noncomputable def D20 : Dt := also D19 92 impl_Space_encode_S
theorem d20 : DOk Go.Proofs.Try.prog tab D20 := d19.also mixed_ok tab_ok names_ok (fnLoops_one (by kernel_rfl) impl_Space_encode_is3) impl_Space_encode_s
theorem impl_Space_encode_cc {D : List (List TC)} {M : List (List TC)} (hD : Typed tab (.slice 2) (.l D)) (hl : D.length = M.length ∧ D.length ≤ 64) : (impl_Space_encode_c D M) = true := by
  unfold impl_Space_encode_c
  refine andT (by exact is_true ⟨1, rfl, by omega⟩) ?_
  refine andT (by exact is_true ⟨rfl, hD, rfl, by rw [show (impl_putBytes_v (D.length : Int) 1).length = 1 from impl_putBytes_len (sz := 1)]; omega, hl.2, hl.1⟩) ?_
  rfl
theorem impl_Space_encode_vv (D M : List (List TC)) : impl_Space_encode_v D M = foldI (spStep D M) D.length (bytesL (D.length : Int) 1) := by
  show impl_Space_encode_R3 D M (impl_putBytes_v (D.length : Int) 1) D (D.length : Int) 0 = _
  rw [impl_putBytes_h]
  unfold impl_Space_encode_R3
  refine iter_each (g := spStep D M) (fin := fun a => impl_Space_encode_e3 D M D (D.length : Int) a) fun j a hj => ?_
  unfold impl_Space_encode_f3 spStep spMost
  rw [impl_putBytes_h, impl_putBytes_h, impl_putBytes_h]
  cases ((nth (row M (j : Int)) 0).int == -1)
  · simp only [cond_false, List.append_assoc]; rfl
  · simp only [cond_true, List.append_assoc]; rfl
/-! impl_EncodeSpace -/
noncomputable def impl_EncodeSpace_t (D : List (List TC)) (M : List (List TC)) : Tr (List UInt8) := (.ite ((impl_ValidSpace_c D M) = true) (.ite ((!(impl_ValidSpace_v D M)) = true) (.ok ([]))
   (.ite ((impl_Space_encode_c D M) = true) (.ok (impl_Space_encode_v D M))
    .no))
  .no)
def impl_EncodeSpace_mk (p : List UInt8) : Res := [(false, [⟨.str, .sh, TC.s p⟩])]
noncomputable def impl_EncodeSpace_c (D : List (List TC)) (M : List (List TC)) : Bool := ((impl_ValidSpace_c D M) && (bif (!(impl_ValidSpace_v D M)) then true else ((impl_Space_encode_c D M) && true)))
noncomputable def impl_EncodeSpace_v (D : List (List TC)) (M : List (List TC)) : List UInt8 := (bif (!(impl_ValidSpace_v D M)) then [] else (impl_Space_encode_v D M))
theorem impl_EncodeSpace_l (D : List (List TC)) (M : List (List TC)) : (impl_EncodeSpace_c D M) = true → (impl_EncodeSpace_t D M).val = some (impl_EncodeSpace_v D M) := by
  unfold impl_EncodeSpace_t impl_EncodeSpace_v impl_EncodeSpace_c
  exact fun h => (Tr.gb h fun h => (Tr.ss h (fun h => rfl) (fun h => (Tr.gb h fun h => rfl))))
noncomputable def impl_EncodeSpace_S : List Arg → Option (Bool × Res) := fun xs => match xs with
  | [(true, [(.slice 2, TC.l D), (.slice 2, TC.l M)])] => some ((impl_EncodeSpace_c D M), impl_EncodeSpace_mk (impl_EncodeSpace_v D M))
  | _ => .none
theorem impl_EncodeSpace_e (D : List (List TC)) (M : List (List TC)) : runF tab FT D20 live 47 noLoops [(true, [(.slice 2, TC.l D), (.slice 2, TC.l M)])] = (impl_EncodeSpace_t D M).run fun p => some (impl_EncodeSpace_mk p) := by kernel_rfl
theorem impl_EncodeSpace_s : ∀ xs r, impl_EncodeSpace_S xs = some (true, r) → runF tab FT D20 live 47 noLoops xs = some r := by
  intro xs r h
  unfold impl_EncodeSpace_S at h
  split at h
  · simp only [Option.some.injEq, Prod.mk.injEq] at h
    obtain ⟨h1, rfl⟩ := h
    exact fun_told (impl_EncodeSpace_e _ _) (impl_EncodeSpace_l _ _) h1
  · cases h
noncomputable def D21 : Dt := also D20 47 impl_EncodeSpace_S
theorem d21 : DOk Go.Proofs.Try.prog tab D21 := d20.also mixed_ok tab_ok names_ok noLoops_ok impl_EncodeSpace_s
theorem impl_EncodeSpace_cc {D : List (List TC)} {M : List (List TC)} (hD : Typed tab (.slice 2) (.l D)) (hM : Typed tab (.slice 2) (.l M)) : (impl_EncodeSpace_c D M) = true := by
  unfold impl_EncodeSpace_c
  refine andT (by first | (apply is_true; and_intros <;> (first | rfl | assumption | (apply spec_l05Space_cc <;> assumption) | (apply spec_l01PutUint_cc <;> assumption) | (apply spec_EncodeSpace_cc <;> assumption) | (apply impl_ValidSpace_cc <;> assumption) | (apply impl_Space_encode_cc <;> assumption) | (first | (apply is_true; and_intros <;> (first | rfl | assumption | (apply spec_l05Space_cc <;> assumption) | (apply spec_l01PutUint_cc <;> assumption) | (apply spec_EncodeSpace_cc <;> assumption) | (apply impl_ValidSpace_cc <;> assumption) | (apply impl_Space_encode_cc <;> assumption) | (first | (apply is_true; and_intros <;> (first | rfl | assumption | (apply spec_l05Space_cc <;> assumption) | (apply spec_l01PutUint_cc <;> assumption) | (apply spec_EncodeSpace_cc <;> assumption) | (apply impl_ValidSpace_cc <;> assumption) | (apply impl_Space_encode_cc <;> assumption) | (first | (apply is_true; and_intros <;> (first | rfl | assumption | (apply spec_l05Space_cc <;> assumption) | (apply spec_l01PutUint_cc <;> assumption) | (apply spec_EncodeSpace_cc <;> assumption) | (apply impl_ValidSpace_cc <;> assumption) | (apply impl_Space_encode_cc <;> assumption))) | (apply spec_l05Space_cc <;> assumption) | (apply spec_l01PutUint_cc <;> assumption) | (apply spec_EncodeSpace_cc <;> assumption) | (apply impl_ValidSpace_cc <;> assumption) | (apply impl_Space_encode_cc <;> assumption)))) | (apply spec_l05Space_cc <;> assumption) | (apply spec_l01PutUint_cc <;> assumption) | (apply spec_EncodeSpace_cc <;> assumption) | (apply impl_ValidSpace_cc <;> assumption) | (apply impl_Space_encode_cc <;> assumption)))) | (apply spec_l05Space_cc <;> assumption) | (apply spec_l01PutUint_cc <;> assumption) | (apply spec_EncodeSpace_cc <;> assumption) | (apply impl_ValidSpace_cc <;> assumption) | (apply impl_Space_encode_cc <;> assumption)))) | (apply spec_l05Space_cc <;> assumption) | (apply spec_l01PutUint_cc <;> assumption) | (apply spec_EncodeSpace_cc <;> assumption) | (apply impl_ValidSpace_cc <;> assumption) | (apply impl_Space_encode_cc <;> assumption)) ?_
  refine bifT (fun b1 => ?_) (fun b1 => ?_)
  · skip
    rfl
  · skip
    refine andT (by exact impl_Space_encode_cc hD (spaceOk_len ((impl_ValidSpace_vv _ _).symm.trans (notF b1)))) ?_
    rfl
theorem impl_EncodeSpace_vv (D M : List (List TC)) : impl_EncodeSpace_v D M = encSpace D M := by
  unfold impl_EncodeSpace_v encSpace
  rw [impl_ValidSpace_vv, impl_Space_encode_vv]
  cases spaceOk D M <;> rfl
/-! laws_eqInt64S -/
abbrev laws_eqInt64S_4_σ := List (List TC) × List (List TC) × Int
abbrev laws_eqInt64S_4_ω := (Unit) ⊕ (Unit)
noncomputable def laws_eqInt64S_4_step (A : List (List TC)) (C : List (List TC)) (i : Int) : Tr (laws_eqInt64S_4_σ ⊕ laws_eqInt64S_4_ω) := (.ite ((decide (i < (A.length : Int))) = true) (.ite ((0 : Int) ≤ i ∧ i < (A.length : Int)) (.ite ((0 : Int) ≤ i ∧ i < (C.length : Int)) (.ite ((!((nth (row A i) 0).int == (nth (row C i) 0).int)) = true) (.ok (.inr (.inl ())))
     (.ok (.inl (A, C, (IntKind.wrap .i64 (i + (1 : Int)))))))
    .no)
   .no)
  (.ok (.inr (.inr ()))))
noncomputable def laws_eqInt64S_4_st : laws_eqInt64S_4_σ → Tr (laws_eqInt64S_4_σ ⊕ laws_eqInt64S_4_ω) := fun x => (laws_eqInt64S_4_step (x.1) (x.2.1) (x.2.2))
noncomputable def laws_eqInt64S_o4_1 (A : List (List TC)) (C : List (List TC)) (i : Int) : Bool := is (A = C ∧ i = 0 ∧ Typed tab (.slice 2) (.l A))
noncomputable def laws_eqInt64S_4_fin (A : List (List TC)) (C : List (List TC)) (i : Int) : Told laws_eqInt64S_4_ω := (.leaf (laws_eqInt64S_o4_1 A C i) (.inr ()))
def laws_eqInt64S_4_sl (x : laws_eqInt64S_4_σ) : List Slot := [⟨.val false [⟨.slice 2, .sh, TC.l (x.1)⟩], ⟨0, 0⟩⟩, ⟨.val false [⟨.slice 2, .sh, TC.l (x.2.1)⟩], ⟨0, 0⟩⟩, ⟨.val false [⟨.int .i64, .sh, TC.i (x.2.2)⟩], ⟨0, 0⟩⟩]
def laws_eqInt64S_4_out : laws_eqInt64S_4_ω → Ex × List Slot := (Sum.elim (fun x => (.ret, [⟨.val false [⟨.bool, .sh, TC.b false⟩], ⟨0, 0⟩⟩])) (fun x => (.exit 0, [Slot.none])))
noncomputable def laws_eqInt64S_lo4 : List Slot → Option (Told (Ex × List Slot)) := fun s => match s with
  | [⟨.val false [⟨.slice 2, .sh, TC.l A⟩], ⟨0, 0⟩⟩, ⟨.val false [⟨.slice 2, .sh, TC.l C⟩], ⟨0, 0⟩⟩, ⟨.val false [⟨.int .i64, .sh, TC.i i⟩], ⟨0, 0⟩⟩] => some (((laws_eqInt64S_4_fin A C i)).map laws_eqInt64S_4_out)
  | _ => .none
noncomputable def laws_eqInt64S_lo : LoopTeller := fun r s => bif Nat.beq r 4 then laws_eqInt64S_lo4 s else .none
theorem laws_eqInt64S_4_r (A : List (List TC)) (C : List (List TC)) (i : Int) (fuel : Nat) : rounds (rnd tab FT D21 live 93 laws_eqInt64S_lo 0 4) leave (fuel + 1) (laws_eqInt64S_4_sl (A, C, i)) = ((laws_eqInt64S_4_step A C i)).run (goOn (fun s => rounds (rnd tab FT D21 live 93 laws_eqInt64S_lo 0 4) leave fuel (laws_eqInt64S_4_sl s)) fun w => some (laws_eqInt64S_4_out w)) := by kernel_rfl
theorem laws_eqInt64S_4_h (A : List (List TC)) (C : List (List TC)) (i : Int) (ow : laws_eqInt64S_4_ω) : ((laws_eqInt64S_4_fin A C i)).val = some ow → ∃ fuel, loopN laws_eqInt64S_4_st fuel (A, C, i) = some ow := by
  intro h
  simp only [laws_eqInt64S_4_fin, Told.val] at h
  split at h
  · rename_i ho
    obtain ⟨rfl, rfl, ht⟩ := is_iff.1 ho
    cases h
    have hlen : A.length ≤ 140737488351232 := by have := typed_room ht; simp only [show (tab 2).bytes = 8 from rfl] at this; omega
    refine ⟨_, loopN_run (N := A.length) (fun i => (A, A, (i : Int))) (fun i hi => ?_) ?_ A.length 0 (by omega)⟩
    · skip
      show (laws_eqInt64S_4_step A A (i : Int)).val = _
      unfold laws_eqInt64S_4_step
      refine Tr.t (by simp; omega) ?_
      refine Tr.t (by constructor <;> omega) ?_
      refine Tr.t (by constructor <;> omega) ?_
      refine Tr.n (by simp) ?_
      rw [Tr.val_ok, wrap64 (i := (i : Int) + 1) (by omega) (by omega)]; rfl
    · show (laws_eqInt64S_4_step A A (A.length : Int)).val = _
      refine Tr.n (by simp) ?_
      rfl
  · cases h
theorem laws_eqInt64S_is4 : LoopIs tab FT D21 live 93 laws_eqInt64S_lo 0 4 := by
  refine loop_told (sl := laws_eqInt64S_4_sl) (step := laws_eqInt64S_4_st) (out := laws_eqInt64S_4_out) (lor := laws_eqInt64S_lo4) (fin := fun x => (laws_eqInt64S_4_fin (x.1) (x.2.1) (x.2.2))) (fun _ => rfl) ?_ (fun x n => laws_eqInt64S_4_r x.1 x.2.1 x.2.2 n) (fun x ow => laws_eqInt64S_4_h x.1 x.2.1 x.2.2 ow)
  intro s t h
  unfold laws_eqInt64S_lo4 at h
  split at h
  · cases h; exact ⟨(_, _, _), rfl, rfl⟩
  · cases h
noncomputable def laws_eqInt64S_t (A : List (List TC)) (C : List (List TC)) : Tr (Bool) := (.ite ((!((A.length : Int) == (C.length : Int))) = true) (.ok false)
  (.ite ((laws_eqInt64S_o4_1 A C (0 : Int)) = true) (.ok true)
   .no))
def laws_eqInt64S_mk (p : Bool) : Res := [(false, [⟨.bool, .sh, TC.b p⟩])]
noncomputable def laws_eqInt64S_c (A : List (List TC)) (C : List (List TC)) : Bool := is (A = C ∧ Typed tab (.slice 2) (.l A))
noncomputable def laws_eqInt64S_v (A : List (List TC)) (C : List (List TC)) : Bool := true
theorem laws_eqInt64S_l (A : List (List TC)) (C : List (List TC)) : (laws_eqInt64S_c A C) = true → (laws_eqInt64S_t A C).val = some (laws_eqInt64S_v A C) := by
  intro h
  obtain ⟨rfl, ht⟩ := is_iff.1 h
  unfold laws_eqInt64S_t
  refine Tr.n (by simp) ?_
  refine Tr.t (by first | (apply is_true; and_intros <;> (first | rfl | assumption | (apply spec_l05Space_cc <;> assumption) | (apply spec_l01PutUint_cc <;> assumption) | (apply spec_EncodeSpace_cc <;> assumption) | (apply impl_ValidSpace_cc <;> assumption) | (apply impl_Space_encode_cc <;> assumption) | (apply impl_EncodeSpace_cc <;> assumption) | (first | (apply is_true; and_intros <;> (first | rfl | assumption | (apply spec_l05Space_cc <;> assumption) | (apply spec_l01PutUint_cc <;> assumption) | (apply spec_EncodeSpace_cc <;> assumption) | (apply impl_ValidSpace_cc <;> assumption) | (apply impl_Space_encode_cc <;> assumption) | (apply impl_EncodeSpace_cc <;> assumption) | (first | (apply is_true; and_intros <;> (first | rfl | assumption | (apply spec_l05Space_cc <;> assumption) | (apply spec_l01PutUint_cc <;> assumption) | (apply spec_EncodeSpace_cc <;> assumption) | (apply impl_ValidSpace_cc <;> assumption) | (apply impl_Space_encode_cc <;> assumption) | (apply impl_EncodeSpace_cc <;> assumption) | (first | (apply is_true; and_intros <;> (first | rfl | assumption | (apply spec_l05Space_cc <;> assumption) | (apply spec_l01PutUint_cc <;> assumption) | (apply spec_EncodeSpace_cc <;> assumption) | (apply impl_ValidSpace_cc <;> assumption) | (apply impl_Space_encode_cc <;> assumption) | (apply impl_EncodeSpace_cc <;> assumption))) | (apply spec_l05Space_cc <;> assumption) | (apply spec_l01PutUint_cc <;> assumption) | (apply spec_EncodeSpace_cc <;> assumption) | (apply impl_ValidSpace_cc <;> assumption) | (apply impl_Space_encode_cc <;> assumption) | (apply impl_EncodeSpace_cc <;> assumption)))) | (apply spec_l05Space_cc <;> assumption) | (apply spec_l01PutUint_cc <;> assumption) | (apply spec_EncodeSpace_cc <;> assumption) | (apply impl_ValidSpace_cc <;> assumption) | (apply impl_Space_encode_cc <;> assumption) | (apply impl_EncodeSpace_cc <;> assumption)))) | (apply spec_l05Space_cc <;> assumption) | (apply spec_l01PutUint_cc <;> assumption) | (apply spec_EncodeSpace_cc <;> assumption) | (apply impl_ValidSpace_cc <;> assumption) | (apply impl_Space_encode_cc <;> assumption) | (apply impl_EncodeSpace_cc <;> assumption)))) | (apply spec_l05Space_cc <;> assumption) | (apply spec_l01PutUint_cc <;> assumption) | (apply spec_EncodeSpace_cc <;> assumption) | (apply impl_ValidSpace_cc <;> assumption) | (apply impl_Space_encode_cc <;> assumption) | (apply impl_EncodeSpace_cc <;> assumption)) ?_
  rfl
noncomputable def laws_eqInt64S_S : List Arg → Option (Bool × Res) := fun xs => match xs with
  | [(false, [(.slice 2, TC.l A)]), (false, [(.slice 2, TC.l C)])] => some ((laws_eqInt64S_c A C), laws_eqInt64S_mk (laws_eqInt64S_v A C))
  | _ => .none
theorem laws_eqInt64S_e (A : List (List TC)) (C : List (List TC)) : runF tab FT D21 live 93 laws_eqInt64S_lo [(false, [(.slice 2, TC.l A)]), (false, [(.slice 2, TC.l C)])] = (laws_eqInt64S_t A C).run fun p => some (laws_eqInt64S_mk p) := by kernel_rfl
theorem laws_eqInt64S_s : ∀ xs r, laws_eqInt64S_S xs = some (true, r) → runF tab FT D21 live 93 laws_eqInt64S_lo xs = some r := by
  intro xs r h
  unfold laws_eqInt64S_S at h
  split at h
  · simp only [Option.some.injEq, Prod.mk.injEq] at h
    obtain ⟨h1, rfl⟩ := h
    exact fun_told (laws_eqInt64S_e _ _) (laws_eqInt64S_l _ _) h1
  · cases h
noncomputable def D22 : Dt := also D21 93 laws_eqInt64S_S
theorem d22 : DOk Go.Proofs.Try.prog tab D22 := d21.also mixed_ok tab_ok names_ok (fnLoops_one (by kernel_rfl) laws_eqInt64S_is4) laws_eqInt64S_s
/-! laws_eqSpace -/
noncomputable def laws_eqSpace_t (x0 : List (List TC)) (x1 : List (List TC)) (y0 : List (List TC)) (y1 : List (List TC)) : Tr (Bool) := (.ite ((laws_eqInt64S_c x0 y0) = true) (.ite ((!(laws_eqInt64S_v x0 y0)) = true) (.ok false)
   (.ite ((laws_eqInt64S_c x1 y1) = true) (.ite ((!(laws_eqInt64S_v x1 y1)) = true) (.ok false)
     (.ok true))
    .no))
  .no)
def laws_eqSpace_mk (p : Bool) : Res := [(false, [⟨.bool, .sh, TC.b p⟩])]
noncomputable def laws_eqSpace_c (x0 : List (List TC)) (x1 : List (List TC)) (y0 : List (List TC)) (y1 : List (List TC)) : Bool := is (x0 = y0 ∧ x1 = y1 ∧ Typed tab (.slice 2) (.l x0) ∧ Typed tab (.slice 2) (.l x1))
noncomputable def laws_eqSpace_v (x0 : List (List TC)) (x1 : List (List TC)) (y0 : List (List TC)) (y1 : List (List TC)) : Bool := true
theorem laws_eqSpace_l (x0 : List (List TC)) (x1 : List (List TC)) (y0 : List (List TC)) (y1 : List (List TC)) : (laws_eqSpace_c x0 x1 y0 y1) = true → (laws_eqSpace_t x0 x1 y0 y1).val = some (laws_eqSpace_v x0 x1 y0 y1) := by
  intro h
  obtain ⟨rfl, rfl, t0, t1⟩ := is_iff.1 h
  unfold laws_eqSpace_t
  refine Tr.t (by first | (apply is_true; and_intros <;> (first | rfl | assumption | (apply spec_l05Space_cc <;> assumption) | (apply spec_l01PutUint_cc <;> assumption) | (apply spec_EncodeSpace_cc <;> assumption) | (apply impl_ValidSpace_cc <;> assumption) | (apply impl_Space_encode_cc <;> assumption) | (apply impl_EncodeSpace_cc <;> assumption) | (first | (apply is_true; and_intros <;> (first | rfl | assumption | (apply spec_l05Space_cc <;> assumption) | (apply spec_l01PutUint_cc <;> assumption) | (apply spec_EncodeSpace_cc <;> assumption) | (apply impl_ValidSpace_cc <;> assumption) | (apply impl_Space_encode_cc <;> assumption) | (apply impl_EncodeSpace_cc <;> assumption) | (first | (apply is_true; and_intros <;> (first | rfl | assumption | (apply spec_l05Space_cc <;> assumption) | (apply spec_l01PutUint_cc <;> assumption) | (apply spec_EncodeSpace_cc <;> assumption) | (apply impl_ValidSpace_cc <;> assumption) | (apply impl_Space_encode_cc <;> assumption) | (apply impl_EncodeSpace_cc <;> assumption) | (first | (apply is_true; and_intros <;> (first | rfl | assumption | (apply spec_l05Space_cc <;> assumption) | (apply spec_l01PutUint_cc <;> assumption) | (apply spec_EncodeSpace_cc <;> assumption) | (apply impl_ValidSpace_cc <;> assumption) | (apply impl_Space_encode_cc <;> assumption) | (apply impl_EncodeSpace_cc <;> assumption))) | (apply spec_l05Space_cc <;> assumption) | (apply spec_l01PutUint_cc <;> assumption) | (apply spec_EncodeSpace_cc <;> assumption) | (apply impl_ValidSpace_cc <;> assumption) | (apply impl_Space_encode_cc <;> assumption) | (apply impl_EncodeSpace_cc <;> assumption)))) | (apply spec_l05Space_cc <;> assumption) | (apply spec_l01PutUint_cc <;> assumption) | (apply spec_EncodeSpace_cc <;> assumption) | (apply impl_ValidSpace_cc <;> assumption) | (apply impl_Space_encode_cc <;> assumption) | (apply impl_EncodeSpace_cc <;> assumption)))) | (apply spec_l05Space_cc <;> assumption) | (apply spec_l01PutUint_cc <;> assumption) | (apply spec_EncodeSpace_cc <;> assumption) | (apply impl_ValidSpace_cc <;> assumption) | (apply impl_Space_encode_cc <;> assumption) | (apply impl_EncodeSpace_cc <;> assumption)))) | (apply spec_l05Space_cc <;> assumption) | (apply spec_l01PutUint_cc <;> assumption) | (apply spec_EncodeSpace_cc <;> assumption) | (apply impl_ValidSpace_cc <;> assumption) | (apply impl_Space_encode_cc <;> assumption) | (apply impl_EncodeSpace_cc <;> assumption)) ?_
  refine Tr.n (by simp [laws_eqInt64S_v]) ?_
  refine Tr.t (by first | (apply is_true; and_intros <;> (first | rfl | assumption | (apply spec_l05Space_cc <;> assumption) | (apply spec_l01PutUint_cc <;> assumption) | (apply spec_EncodeSpace_cc <;> assumption) | (apply impl_ValidSpace_cc <;> assumption) | (apply impl_Space_encode_cc <;> assumption) | (apply impl_EncodeSpace_cc <;> assumption) | (first | (apply is_true; and_intros <;> (first | rfl | assumption | (apply spec_l05Space_cc <;> assumption) | (apply spec_l01PutUint_cc <;> assumption) | (apply spec_EncodeSpace_cc <;> assumption) | (apply impl_ValidSpace_cc <;> assumption) | (apply impl_Space_encode_cc <;> assumption) | (apply impl_EncodeSpace_cc <;> assumption) | (first | (apply is_true; and_intros <;> (first | rfl | assumption | (apply spec_l05Space_cc <;> assumption) | (apply spec_l01PutUint_cc <;> assumption) | (apply spec_EncodeSpace_cc <;> assumption) | (apply impl_ValidSpace_cc <;> assumption) | (apply impl_Space_encode_cc <;> assumption) | (apply impl_EncodeSpace_cc <;> assumption) | (first | (apply is_true; and_intros <;> (first | rfl | assumption | (apply spec_l05Space_cc <;> assumption) | (apply spec_l01PutUint_cc <;> assumption) | (apply spec_EncodeSpace_cc <;> assumption) | (apply impl_ValidSpace_cc <;> assumption) | (apply impl_Space_encode_cc <;> assumption) | (apply impl_EncodeSpace_cc <;> assumption))) | (apply spec_l05Space_cc <;> assumption) | (apply spec_l01PutUint_cc <;> assumption) | (apply spec_EncodeSpace_cc <;> assumption) | (apply impl_ValidSpace_cc <;> assumption) | (apply impl_Space_encode_cc <;> assumption) | (apply impl_EncodeSpace_cc <;> assumption)))) | (apply spec_l05Space_cc <;> assumption) | (apply spec_l01PutUint_cc <;> assumption) | (apply spec_EncodeSpace_cc <;> assumption) | (apply impl_ValidSpace_cc <;> assumption) | (apply impl_Space_encode_cc <;> assumption) | (apply impl_EncodeSpace_cc <;> assumption)))) | (apply spec_l05Space_cc <;> assumption) | (apply spec_l01PutUint_cc <;> assumption) | (apply spec_EncodeSpace_cc <;> assumption) | (apply impl_ValidSpace_cc <;> assumption) | (apply impl_Space_encode_cc <;> assumption) | (apply impl_EncodeSpace_cc <;> assumption)))) | (apply spec_l05Space_cc <;> assumption) | (apply spec_l01PutUint_cc <;> assumption) | (apply spec_EncodeSpace_cc <;> assumption) | (apply impl_ValidSpace_cc <;> assumption) | (apply impl_Space_encode_cc <;> assumption) | (apply impl_EncodeSpace_cc <;> assumption)) ?_
  refine Tr.n (by simp [laws_eqInt64S_v]) ?_
  rfl
noncomputable def laws_eqSpace_S : List Arg → Option (Bool × Res) := fun xs => match xs with
  | [(true, [(.slice 2, TC.l x0), (.slice 2, TC.l x1)]), (true, [(.slice 2, TC.l y0), (.slice 2, TC.l y1)])] => some ((laws_eqSpace_c x0 x1 y0 y1), laws_eqSpace_mk (laws_eqSpace_v x0 x1 y0 y1))
  | _ => .none
theorem laws_eqSpace_e (x0 : List (List TC)) (x1 : List (List TC)) (y0 : List (List TC)) (y1 : List (List TC)) : runF tab FT D22 live 48 noLoops [(true, [(.slice 2, TC.l x0), (.slice 2, TC.l x1)]), (true, [(.slice 2, TC.l y0), (.slice 2, TC.l y1)])] = (laws_eqSpace_t x0 x1 y0 y1).run fun p => some (laws_eqSpace_mk p) := by kernel_rfl
theorem laws_eqSpace_s : ∀ xs r, laws_eqSpace_S xs = some (true, r) → runF tab FT D22 live 48 noLoops xs = some r := by
  intro xs r h
  unfold laws_eqSpace_S at h
  split at h
  · simp only [Option.some.injEq, Prod.mk.injEq] at h
    obtain ⟨h1, rfl⟩ := h
    exact fun_told (laws_eqSpace_e _ _ _ _) (laws_eqSpace_l _ _ _ _) h1
  · cases h
noncomputable def D23 : Dt := also D22 48 laws_eqSpace_S
theorem d23 : DOk Go.Proofs.Try.prog tab D23 := d22.also mixed_ok tab_ok names_ok noLoops_ok laws_eqSpace_s
/-! the law -/
noncomputable def laws_FnExactEncodeSpace_t (x0 : List (List TC)) (x1 : List (List TC)) : Tr Bool := (.ite ((decide ((laws_szSpace_v x0 x1 (1048576 : Int)) < (0 : Int))) = true) (.ok true)
  (.ite ((laws_toSpace_c x0 x1) = true) (.ite ((spec_EncodeSpace_c ((laws_toSpace_v x0 x1).1) ((laws_toSpace_v x0 x1).2)) = true) (.ite ((laws_toSpace_c x0 x1) = true) (.ite ((impl_EncodeSpace_c ((laws_toSpace_v x0 x1).1) ((laws_toSpace_v x0 x1).2)) = true) (.ite ((!((impl_EncodeSpace_v ((laws_toSpace_v x0 x1).1) ((laws_toSpace_v x0 x1).2)) == (spec_EncodeSpace_v ((laws_toSpace_v x0 x1).1) ((laws_toSpace_v x0 x1).2)))) = true) (.ok false)
       (.ite ((laws_toSpace_c x0 x1) = true) (.ite ((laws_eqSpace_c ((laws_toSpace_v x0 x1).1) ((laws_toSpace_v x0 x1).2) ((laws_toSpace_v x0 x1).1) ((laws_toSpace_v x0 x1).2)) = true) (.ite ((!(laws_eqSpace_v ((laws_toSpace_v x0 x1).1) ((laws_toSpace_v x0 x1).2) ((laws_toSpace_v x0 x1).1) ((laws_toSpace_v x0 x1).2))) = true) (.ok false)
          (.ok true))
         .no)
        .no))
      .no)
     .no)
    .no)
   .no))
theorem laws_FnExactEncodeSpace_e (x0 : List (List TC)) (x1 : List (List TC)) : runF tab FT D23 live 12 noLoops [(true, [(.slice 2, TC.l x0), (.slice 2, TC.l x1)])] = (laws_FnExactEncodeSpace_t x0 x1).run fun p => some [(false, [⟨.bool, .sh, .b p⟩])] := by kernel_rfl
theorem laws_FnExactEncodeSpace_p (x0 : List (List TC)) (x1 : List (List TC)) (h0 : Typed tab (.slice 2) (.l x0)) (h1 : Typed tab (.slice 2) (.l x1)) : (laws_FnExactEncodeSpace_t x0 x1).val = some true := by
  have t0_2 := laws_toInt64S_ty h0
  have t1_2 := laws_toInt64S_ty h1
  unfold laws_FnExactEncodeSpace_t
  refine Tr.y ?_
  refine Tr.t (by first | exact (by first | (apply is_true; and_intros <;> (first | rfl | assumption | (apply spec_l05Space_cc <;> assumption) | (apply spec_l01PutUint_cc <;> assumption) | (apply spec_EncodeSpace_cc <;> assumption) | (apply impl_ValidSpace_cc <;> assumption) | (apply impl_Space_encode_cc <;> assumption) | (apply impl_EncodeSpace_cc <;> assumption) | (first | (apply is_true; and_intros <;> (first | rfl | assumption | (apply spec_l05Space_cc <;> assumption) | (apply spec_l01PutUint_cc <;> assumption) | (apply spec_EncodeSpace_cc <;> assumption) | (apply impl_ValidSpace_cc <;> assumption) | (apply impl_Space_encode_cc <;> assumption) | (apply impl_EncodeSpace_cc <;> assumption) | (first | (apply is_true; and_intros <;> (first | rfl | assumption | (apply spec_l05Space_cc <;> assumption) | (apply spec_l01PutUint_cc <;> assumption) | (apply spec_EncodeSpace_cc <;> assumption) | (apply impl_ValidSpace_cc <;> assumption) | (apply impl_Space_encode_cc <;> assumption) | (apply impl_EncodeSpace_cc <;> assumption) | (first | (apply is_true; and_intros <;> (first | rfl | assumption | (apply spec_l05Space_cc <;> assumption) | (apply spec_l01PutUint_cc <;> assumption) | (apply spec_EncodeSpace_cc <;> assumption) | (apply impl_ValidSpace_cc <;> assumption) | (apply impl_Space_encode_cc <;> assumption) | (apply impl_EncodeSpace_cc <;> assumption))) | (apply spec_l05Space_cc <;> assumption) | (apply spec_l01PutUint_cc <;> assumption) | (apply spec_EncodeSpace_cc <;> assumption) | (apply impl_ValidSpace_cc <;> assumption) | (apply impl_Space_encode_cc <;> assumption) | (apply impl_EncodeSpace_cc <;> assumption)))) | (apply spec_l05Space_cc <;> assumption) | (apply spec_l01PutUint_cc <;> assumption) | (apply spec_EncodeSpace_cc <;> assumption) | (apply impl_ValidSpace_cc <;> assumption) | (apply impl_Space_encode_cc <;> assumption) | (apply impl_EncodeSpace_cc <;> assumption)))) | (apply spec_l05Space_cc <;> assumption) | (apply spec_l01PutUint_cc <;> assumption) | (apply spec_EncodeSpace_cc <;> assumption) | (apply impl_ValidSpace_cc <;> assumption) | (apply impl_Space_encode_cc <;> assumption) | (apply impl_EncodeSpace_cc <;> assumption)))) | (apply spec_l05Space_cc <;> assumption) | (apply spec_l01PutUint_cc <;> assumption) | (apply spec_EncodeSpace_cc <;> assumption) | (apply impl_ValidSpace_cc <;> assumption) | (apply impl_Space_encode_cc <;> assumption) | (apply impl_EncodeSpace_cc <;> assumption)) | simp [*]) ?_
  refine Tr.t (by first | exact (by first | (apply is_true; and_intros <;> (first | rfl | assumption | (apply spec_l05Space_cc <;> assumption) | (apply spec_l01PutUint_cc <;> assumption) | (apply spec_EncodeSpace_cc <;> assumption) | (apply impl_ValidSpace_cc <;> assumption) | (apply impl_Space_encode_cc <;> assumption) | (apply impl_EncodeSpace_cc <;> assumption) | (first | (apply is_true; and_intros <;> (first | rfl | assumption | (apply spec_l05Space_cc <;> assumption) | (apply spec_l01PutUint_cc <;> assumption) | (apply spec_EncodeSpace_cc <;> assumption) | (apply impl_ValidSpace_cc <;> assumption) | (apply impl_Space_encode_cc <;> assumption) | (apply impl_EncodeSpace_cc <;> assumption) | (first | (apply is_true; and_intros <;> (first | rfl | assumption | (apply spec_l05Space_cc <;> assumption) | (apply spec_l01PutUint_cc <;> assumption) | (apply spec_EncodeSpace_cc <;> assumption) | (apply impl_ValidSpace_cc <;> assumption) | (apply impl_Space_encode_cc <;> assumption) | (apply impl_EncodeSpace_cc <;> assumption) | (first | (apply is_true; and_intros <;> (first | rfl | assumption | (apply spec_l05Space_cc <;> assumption) | (apply spec_l01PutUint_cc <;> assumption) | (apply spec_EncodeSpace_cc <;> assumption) | (apply impl_ValidSpace_cc <;> assumption) | (apply impl_Space_encode_cc <;> assumption) | (apply impl_EncodeSpace_cc <;> assumption))) | (apply spec_l05Space_cc <;> assumption) | (apply spec_l01PutUint_cc <;> assumption) | (apply spec_EncodeSpace_cc <;> assumption) | (apply impl_ValidSpace_cc <;> assumption) | (apply impl_Space_encode_cc <;> assumption) | (apply impl_EncodeSpace_cc <;> assumption)))) | (apply spec_l05Space_cc <;> assumption) | (apply spec_l01PutUint_cc <;> assumption) | (apply spec_EncodeSpace_cc <;> assumption) | (apply impl_ValidSpace_cc <;> assumption) | (apply impl_Space_encode_cc <;> assumption) | (apply impl_EncodeSpace_cc <;> assumption)))) | (apply spec_l05Space_cc <;> assumption) | (apply spec_l01PutUint_cc <;> assumption) | (apply spec_EncodeSpace_cc <;> assumption) | (apply impl_ValidSpace_cc <;> assumption) | (apply impl_Space_encode_cc <;> assumption) | (apply impl_EncodeSpace_cc <;> assumption)))) | (apply spec_l05Space_cc <;> assumption) | (apply spec_l01PutUint_cc <;> assumption) | (apply spec_EncodeSpace_cc <;> assumption) | (apply impl_ValidSpace_cc <;> assumption) | (apply impl_Space_encode_cc <;> assumption) | (apply impl_EncodeSpace_cc <;> assumption)) | simp [*]) ?_
  refine Tr.t (by first | exact (by first | (apply is_true; and_intros <;> (first | rfl | assumption | (apply spec_l05Space_cc <;> assumption) | (apply spec_l01PutUint_cc <;> assumption) | (apply spec_EncodeSpace_cc <;> assumption) | (apply impl_ValidSpace_cc <;> assumption) | (apply impl_Space_encode_cc <;> assumption) | (apply impl_EncodeSpace_cc <;> assumption) | (first | (apply is_true; and_intros <;> (first | rfl | assumption | (apply spec_l05Space_cc <;> assumption) | (apply spec_l01PutUint_cc <;> assumption) | (apply spec_EncodeSpace_cc <;> assumption) | (apply impl_ValidSpace_cc <;> assumption) | (apply impl_Space_encode_cc <;> assumption) | (apply impl_EncodeSpace_cc <;> assumption) | (first | (apply is_true; and_intros <;> (first | rfl | assumption | (apply spec_l05Space_cc <;> assumption) | (apply spec_l01PutUint_cc <;> assumption) | (apply spec_EncodeSpace_cc <;> assumption) | (apply impl_ValidSpace_cc <;> assumption) | (apply impl_Space_encode_cc <;> assumption) | (apply impl_EncodeSpace_cc <;> assumption) | (first | (apply is_true; and_intros <;> (first | rfl | assumption | (apply spec_l05Space_cc <;> assumption) | (apply spec_l01PutUint_cc <;> assumption) | (apply spec_EncodeSpace_cc <;> assumption) | (apply impl_ValidSpace_cc <;> assumption) | (apply impl_Space_encode_cc <;> assumption) | (apply impl_EncodeSpace_cc <;> assumption))) | (apply spec_l05Space_cc <;> assumption) | (apply spec_l01PutUint_cc <;> assumption) | (apply spec_EncodeSpace_cc <;> assumption) | (apply impl_ValidSpace_cc <;> assumption) | (apply impl_Space_encode_cc <;> assumption) | (apply impl_EncodeSpace_cc <;> assumption)))) | (apply spec_l05Space_cc <;> assumption) | (apply spec_l01PutUint_cc <;> assumption) | (apply spec_EncodeSpace_cc <;> assumption) | (apply impl_ValidSpace_cc <;> assumption) | (apply impl_Space_encode_cc <;> assumption) | (apply impl_EncodeSpace_cc <;> assumption)))) | (apply spec_l05Space_cc <;> assumption) | (apply spec_l01PutUint_cc <;> assumption) | (apply spec_EncodeSpace_cc <;> assumption) | (apply impl_ValidSpace_cc <;> assumption) | (apply impl_Space_encode_cc <;> assumption) | (apply impl_EncodeSpace_cc <;> assumption)))) | (apply spec_l05Space_cc <;> assumption) | (apply spec_l01PutUint_cc <;> assumption) | (apply spec_EncodeSpace_cc <;> assumption) | (apply impl_ValidSpace_cc <;> assumption) | (apply impl_Space_encode_cc <;> assumption) | (apply impl_EncodeSpace_cc <;> assumption)) | simp [*]) ?_
  refine Tr.t (by first | exact (by first | (apply is_true; and_intros <;> (first | rfl | assumption | (apply spec_l05Space_cc <;> assumption) | (apply spec_l01PutUint_cc <;> assumption) | (apply spec_EncodeSpace_cc <;> assumption) | (apply impl_ValidSpace_cc <;> assumption) | (apply impl_Space_encode_cc <;> assumption) | (apply impl_EncodeSpace_cc <;> assumption) | (first | (apply is_true; and_intros <;> (first | rfl | assumption | (apply spec_l05Space_cc <;> assumption) | (apply spec_l01PutUint_cc <;> assumption) | (apply spec_EncodeSpace_cc <;> assumption) | (apply impl_ValidSpace_cc <;> assumption) | (apply impl_Space_encode_cc <;> assumption) | (apply impl_EncodeSpace_cc <;> assumption) | (first | (apply is_true; and_intros <;> (first | rfl | assumption | (apply spec_l05Space_cc <;> assumption) | (apply spec_l01PutUint_cc <;> assumption) | (apply spec_EncodeSpace_cc <;> assumption) | (apply impl_ValidSpace_cc <;> assumption) | (apply impl_Space_encode_cc <;> assumption) | (apply impl_EncodeSpace_cc <;> assumption) | (first | (apply is_true; and_intros <;> (first | rfl | assumption | (apply spec_l05Space_cc <;> assumption) | (apply spec_l01PutUint_cc <;> assumption) | (apply spec_EncodeSpace_cc <;> assumption) | (apply impl_ValidSpace_cc <;> assumption) | (apply impl_Space_encode_cc <;> assumption) | (apply impl_EncodeSpace_cc <;> assumption))) | (apply spec_l05Space_cc <;> assumption) | (apply spec_l01PutUint_cc <;> assumption) | (apply spec_EncodeSpace_cc <;> assumption) | (apply impl_ValidSpace_cc <;> assumption) | (apply impl_Space_encode_cc <;> assumption) | (apply impl_EncodeSpace_cc <;> assumption)))) | (apply spec_l05Space_cc <;> assumption) | (apply spec_l01PutUint_cc <;> assumption) | (apply spec_EncodeSpace_cc <;> assumption) | (apply impl_ValidSpace_cc <;> assumption) | (apply impl_Space_encode_cc <;> assumption) | (apply impl_EncodeSpace_cc <;> assumption)))) | (apply spec_l05Space_cc <;> assumption) | (apply spec_l01PutUint_cc <;> assumption) | (apply spec_EncodeSpace_cc <;> assumption) | (apply impl_ValidSpace_cc <;> assumption) | (apply impl_Space_encode_cc <;> assumption) | (apply impl_EncodeSpace_cc <;> assumption)))) | (apply spec_l05Space_cc <;> assumption) | (apply spec_l01PutUint_cc <;> assumption) | (apply spec_EncodeSpace_cc <;> assumption) | (apply impl_ValidSpace_cc <;> assumption) | (apply impl_Space_encode_cc <;> assumption) | (apply impl_EncodeSpace_cc <;> assumption)) | simp [*]) ?_
  refine Tr.n (by first | (simp [laws_szInt64S_v, laws_szSpace_v, laws_toInt64S_u3_1, laws_toInt64S_v, laws_toSpace_v, spec_l00In_v, spec_l05Dims_k5_1, spec_l05Dims_u5_2, spec_l05Dims_u5_3, spec_l05Dims_vv, spec_l05Space_k4_1, spec_l05Space_vv, spec_l01Bytes_u3_1, spec_l01Bytes_v, spec_l01PutUint_v, spec_EncodeSpace_u5_1, spec_EncodeSpace_vv, impl_within_v, impl_allWithin_1_v, slices_IndexFunc_int64_int64_k2_1, slices_IndexFunc_int64_int64_u2_3, slices_IndexFunc_int64_int64_v, slices_ContainsFunc_int64_int64_v, impl_allWithin_v, impl_product_u3_1, impl_product_v, impl_ValidDims_vv, impl_ValidSpace_k4_1, impl_ValidSpace_vv, impl_putBytes_u3_1, impl_putBytes_v, impl_Space_encode_u3_1, impl_Space_encode_vv, impl_EncodeSpace_vv, laws_eqInt64S_v, laws_eqSpace_v]; done) | (simp only [laws_szInt64S_v, laws_szSpace_v, laws_toInt64S_u3_1, laws_toInt64S_v, laws_toSpace_v, spec_l00In_v, spec_l05Dims_k5_1, spec_l05Dims_u5_2, spec_l05Dims_u5_3, spec_l05Dims_vv, spec_l05Space_k4_1, spec_l05Space_vv, spec_l01Bytes_u3_1, spec_l01Bytes_v, spec_l01PutUint_v, spec_EncodeSpace_u5_1, spec_EncodeSpace_vv, impl_within_v, impl_allWithin_1_v, slices_IndexFunc_int64_int64_k2_1, slices_IndexFunc_int64_int64_u2_3, slices_IndexFunc_int64_int64_v, slices_ContainsFunc_int64_int64_v, impl_allWithin_v, impl_product_u3_1, impl_product_v, impl_ValidDims_vv, impl_ValidSpace_k4_1, impl_ValidSpace_vv, impl_putBytes_u3_1, impl_putBytes_v, impl_Space_encode_u3_1, impl_Space_encode_vv, impl_EncodeSpace_vv, laws_eqInt64S_v, laws_eqSpace_v, nth0, nth1, nth2, nth3, nth4, nth5, int_i, bool_b, str_s, list_l, cells_p, Bool.not_eq_true, bne_self_eq_false, beq_self_eq_true, Bool.not_true]; done) | (simp [laws_szInt64S_v, laws_szSpace_v, laws_toInt64S_u3_1, laws_toInt64S_v, laws_toSpace_v, spec_l00In_v, spec_l05Dims_k5_1, spec_l05Dims_u5_2, spec_l05Dims_u5_3, spec_l05Dims_vv, spec_l05Space_k4_1, spec_l05Space_vv, spec_l01Bytes_u3_1, spec_l01Bytes_v, spec_l01PutUint_v, spec_EncodeSpace_u5_1, spec_EncodeSpace_vv, impl_within_v, impl_allWithin_1_v, slices_IndexFunc_int64_int64_k2_1, slices_IndexFunc_int64_int64_u2_3, slices_IndexFunc_int64_int64_v, slices_ContainsFunc_int64_int64_v, impl_allWithin_v, impl_product_u3_1, impl_product_v, impl_ValidDims_vv, impl_ValidSpace_k4_1, impl_ValidSpace_vv, impl_putBytes_u3_1, impl_putBytes_v, impl_Space_encode_u3_1, impl_Space_encode_vv, impl_EncodeSpace_vv, laws_eqInt64S_v, laws_eqSpace_v, nth0, nth1, nth2, nth3, nth4, nth5, int_i, bool_b, str_s, list_l, cells_p]; done) | (simp [laws_szInt64S_v, laws_szSpace_v, laws_toInt64S_u3_1, laws_toInt64S_v, laws_toSpace_v, spec_l00In_v, spec_l05Dims_k5_1, spec_l05Dims_u5_2, spec_l05Dims_u5_3, spec_l05Dims_vv, spec_l05Space_k4_1, spec_l05Space_vv, spec_l01Bytes_u3_1, spec_l01Bytes_v, spec_l01PutUint_v, spec_EncodeSpace_u5_1, spec_EncodeSpace_vv, impl_within_v, impl_allWithin_1_v, slices_IndexFunc_int64_int64_k2_1, slices_IndexFunc_int64_int64_u2_3, slices_IndexFunc_int64_int64_v, slices_ContainsFunc_int64_int64_v, impl_allWithin_v, impl_product_u3_1, impl_product_v, impl_ValidDims_vv, impl_ValidSpace_k4_1, impl_ValidSpace_vv, impl_putBytes_u3_1, impl_putBytes_v, impl_Space_encode_u3_1, impl_Space_encode_vv, impl_EncodeSpace_vv, laws_eqInt64S_v, laws_eqSpace_v, nth0, nth1, nth2, nth3, nth4, nth5, int_i, bool_b, str_s, list_l, cells_p] <;> rfl)) ?_
  refine Tr.t (by first | exact (by first | (apply is_true; and_intros <;> (first | rfl | assumption | (apply spec_l05Space_cc <;> assumption) | (apply spec_l01PutUint_cc <;> assumption) | (apply spec_EncodeSpace_cc <;> assumption) | (apply impl_ValidSpace_cc <;> assumption) | (apply impl_Space_encode_cc <;> assumption) | (apply impl_EncodeSpace_cc <;> assumption) | (first | (apply is_true; and_intros <;> (first | rfl | assumption | (apply spec_l05Space_cc <;> assumption) | (apply spec_l01PutUint_cc <;> assumption) | (apply spec_EncodeSpace_cc <;> assumption) | (apply impl_ValidSpace_cc <;> assumption) | (apply impl_Space_encode_cc <;> assumption) | (apply impl_EncodeSpace_cc <;> assumption) | (first | (apply is_true; and_intros <;> (first | rfl | assumption | (apply spec_l05Space_cc <;> assumption) | (apply spec_l01PutUint_cc <;> assumption) | (apply spec_EncodeSpace_cc <;> assumption) | (apply impl_ValidSpace_cc <;> assumption) | (apply impl_Space_encode_cc <;> assumption) | (apply impl_EncodeSpace_cc <;> assumption) | (first | (apply is_true; and_intros <;> (first | rfl | assumption | (apply spec_l05Space_cc <;> assumption) | (apply spec_l01PutUint_cc <;> assumption) | (apply spec_EncodeSpace_cc <;> assumption) | (apply impl_ValidSpace_cc <;> assumption) | (apply impl_Space_encode_cc <;> assumption) | (apply impl_EncodeSpace_cc <;> assumption))) | (apply spec_l05Space_cc <;> assumption) | (apply spec_l01PutUint_cc <;> assumption) | (apply spec_EncodeSpace_cc <;> assumption) | (apply impl_ValidSpace_cc <;> assumption) | (apply impl_Space_encode_cc <;> assumption) | (apply impl_EncodeSpace_cc <;> assumption)))) | (apply spec_l05Space_cc <;> assumption) | (apply spec_l01PutUint_cc <;> assumption) | (apply spec_EncodeSpace_cc <;> assumption) | (apply impl_ValidSpace_cc <;> assumption) | (apply impl_Space_encode_cc <;> assumption) | (apply impl_EncodeSpace_cc <;> assumption)))) | (apply spec_l05Space_cc <;> assumption) | (apply spec_l01PutUint_cc <;> assumption) | (apply spec_EncodeSpace_cc <;> assumption) | (apply impl_ValidSpace_cc <;> assumption) | (apply impl_Space_encode_cc <;> assumption) | (apply impl_EncodeSpace_cc <;> assumption)))) | (apply spec_l05Space_cc <;> assumption) | (apply spec_l01PutUint_cc <;> assumption) | (apply spec_EncodeSpace_cc <;> assumption) | (apply impl_ValidSpace_cc <;> assumption) | (apply impl_Space_encode_cc <;> assumption) | (apply impl_EncodeSpace_cc <;> assumption)) | simp [*]) ?_
  refine Tr.t (by first | exact (by first | (apply is_true; and_intros <;> (first | rfl | assumption | (apply spec_l05Space_cc <;> assumption) | (apply spec_l01PutUint_cc <;> assumption) | (apply spec_EncodeSpace_cc <;> assumption) | (apply impl_ValidSpace_cc <;> assumption) | (apply impl_Space_encode_cc <;> assumption) | (apply impl_EncodeSpace_cc <;> assumption) | (first | (apply is_true; and_intros <;> (first | rfl | assumption | (apply spec_l05Space_cc <;> assumption) | (apply spec_l01PutUint_cc <;> assumption) | (apply spec_EncodeSpace_cc <;> assumption) | (apply impl_ValidSpace_cc <;> assumption) | (apply impl_Space_encode_cc <;> assumption) | (apply impl_EncodeSpace_cc <;> assumption) | (first | (apply is_true; and_intros <;> (first | rfl | assumption | (apply spec_l05Space_cc <;> assumption) | (apply spec_l01PutUint_cc <;> assumption) | (apply spec_EncodeSpace_cc <;> assumption) | (apply impl_ValidSpace_cc <;> assumption) | (apply impl_Space_encode_cc <;> assumption) | (apply impl_EncodeSpace_cc <;> assumption) | (first | (apply is_true; and_intros <;> (first | rfl | assumption | (apply spec_l05Space_cc <;> assumption) | (apply spec_l01PutUint_cc <;> assumption) | (apply spec_EncodeSpace_cc <;> assumption) | (apply impl_ValidSpace_cc <;> assumption) | (apply impl_Space_encode_cc <;> assumption) | (apply impl_EncodeSpace_cc <;> assumption))) | (apply spec_l05Space_cc <;> assumption) | (apply spec_l01PutUint_cc <;> assumption) | (apply spec_EncodeSpace_cc <;> assumption) | (apply impl_ValidSpace_cc <;> assumption) | (apply impl_Space_encode_cc <;> assumption) | (apply impl_EncodeSpace_cc <;> assumption)))) | (apply spec_l05Space_cc <;> assumption) | (apply spec_l01PutUint_cc <;> assumption) | (apply spec_EncodeSpace_cc <;> assumption) | (apply impl_ValidSpace_cc <;> assumption) | (apply impl_Space_encode_cc <;> assumption) | (apply impl_EncodeSpace_cc <;> assumption)))) | (apply spec_l05Space_cc <;> assumption) | (apply spec_l01PutUint_cc <;> assumption) | (apply spec_EncodeSpace_cc <;> assumption) | (apply impl_ValidSpace_cc <;> assumption) | (apply impl_Space_encode_cc <;> assumption) | (apply impl_EncodeSpace_cc <;> assumption)))) | (apply spec_l05Space_cc <;> assumption) | (apply spec_l01PutUint_cc <;> assumption) | (apply spec_EncodeSpace_cc <;> assumption) | (apply impl_ValidSpace_cc <;> assumption) | (apply impl_Space_encode_cc <;> assumption) | (apply impl_EncodeSpace_cc <;> assumption)) | simp [*]) ?_
  refine Tr.n (by first | (simp [laws_szInt64S_v, laws_szSpace_v, laws_toInt64S_u3_1, laws_toInt64S_v, laws_toSpace_v, spec_l00In_v, spec_l05Dims_k5_1, spec_l05Dims_u5_2, spec_l05Dims_u5_3, spec_l05Dims_vv, spec_l05Space_k4_1, spec_l05Space_vv, spec_l01Bytes_u3_1, spec_l01Bytes_v, spec_l01PutUint_v, spec_EncodeSpace_u5_1, spec_EncodeSpace_vv, impl_within_v, impl_allWithin_1_v, slices_IndexFunc_int64_int64_k2_1, slices_IndexFunc_int64_int64_u2_3, slices_IndexFunc_int64_int64_v, slices_ContainsFunc_int64_int64_v, impl_allWithin_v, impl_product_u3_1, impl_product_v, impl_ValidDims_vv, impl_ValidSpace_k4_1, impl_ValidSpace_vv, impl_putBytes_u3_1, impl_putBytes_v, impl_Space_encode_u3_1, impl_Space_encode_vv, impl_EncodeSpace_vv, laws_eqInt64S_v, laws_eqSpace_v]; done) | (simp only [laws_szInt64S_v, laws_szSpace_v, laws_toInt64S_u3_1, laws_toInt64S_v, laws_toSpace_v, spec_l00In_v, spec_l05Dims_k5_1, spec_l05Dims_u5_2, spec_l05Dims_u5_3, spec_l05Dims_vv, spec_l05Space_k4_1, spec_l05Space_vv, spec_l01Bytes_u3_1, spec_l01Bytes_v, spec_l01PutUint_v, spec_EncodeSpace_u5_1, spec_EncodeSpace_vv, impl_within_v, impl_allWithin_1_v, slices_IndexFunc_int64_int64_k2_1, slices_IndexFunc_int64_int64_u2_3, slices_IndexFunc_int64_int64_v, slices_ContainsFunc_int64_int64_v, impl_allWithin_v, impl_product_u3_1, impl_product_v, impl_ValidDims_vv, impl_ValidSpace_k4_1, impl_ValidSpace_vv, impl_putBytes_u3_1, impl_putBytes_v, impl_Space_encode_u3_1, impl_Space_encode_vv, impl_EncodeSpace_vv, laws_eqInt64S_v, laws_eqSpace_v, nth0, nth1, nth2, nth3, nth4, nth5, int_i, bool_b, str_s, list_l, cells_p, Bool.not_eq_true, bne_self_eq_false, beq_self_eq_true, Bool.not_true]; done) | (simp [laws_szInt64S_v, laws_szSpace_v, laws_toInt64S_u3_1, laws_toInt64S_v, laws_toSpace_v, spec_l00In_v, spec_l05Dims_k5_1, spec_l05Dims_u5_2, spec_l05Dims_u5_3, spec_l05Dims_vv, spec_l05Space_k4_1, spec_l05Space_vv, spec_l01Bytes_u3_1, spec_l01Bytes_v, spec_l01PutUint_v, spec_EncodeSpace_u5_1, spec_EncodeSpace_vv, impl_within_v, impl_allWithin_1_v, slices_IndexFunc_int64_int64_k2_1, slices_IndexFunc_int64_int64_u2_3, slices_IndexFunc_int64_int64_v, slices_ContainsFunc_int64_int64_v, impl_allWithin_v, impl_product_u3_1, impl_product_v, impl_ValidDims_vv, impl_ValidSpace_k4_1, impl_ValidSpace_vv, impl_putBytes_u3_1, impl_putBytes_v, impl_Space_encode_u3_1, impl_Space_encode_vv, impl_EncodeSpace_vv, laws_eqInt64S_v, laws_eqSpace_v, nth0, nth1, nth2, nth3, nth4, nth5, int_i, bool_b, str_s, list_l, cells_p]; done) | (simp [laws_szInt64S_v, laws_szSpace_v, laws_toInt64S_u3_1, laws_toInt64S_v, laws_toSpace_v, spec_l00In_v, spec_l05Dims_k5_1, spec_l05Dims_u5_2, spec_l05Dims_u5_3, spec_l05Dims_vv, spec_l05Space_k4_1, spec_l05Space_vv, spec_l01Bytes_u3_1, spec_l01Bytes_v, spec_l01PutUint_v, spec_EncodeSpace_u5_1, spec_EncodeSpace_vv, impl_within_v, impl_allWithin_1_v, slices_IndexFunc_int64_int64_k2_1, slices_IndexFunc_int64_int64_u2_3, slices_IndexFunc_int64_int64_v, slices_ContainsFunc_int64_int64_v, impl_allWithin_v, impl_product_u3_1, impl_product_v, impl_ValidDims_vv, impl_ValidSpace_k4_1, impl_ValidSpace_vv, impl_putBytes_u3_1, impl_putBytes_v, impl_Space_encode_u3_1, impl_Space_encode_vv, impl_EncodeSpace_vv, laws_eqInt64S_v, laws_eqSpace_v, nth0, nth1, nth2, nth3, nth4, nth5, int_i, bool_b, str_s, list_l, cells_p] <;> rfl)) ?_
  rfl
theorem laws_FnExactEncodeSpace_pure : ∀ xs, ArgsTyped tab [65] xs → runF tab FT D23 live 12 noLoops xs = yes := by
  intro xs h
  cases h with | cons l0 g0 h =>
  obtain ⟨z0_0, z0_1, rfl⟩ := len_2 l0
  have q0 := g0 0 (by decide)
  have q0 : Typed tab (.slice 2) z0_0 := q0
  obtain ⟨y0, rfl⟩ := typed_slice q0
  have q1 := g0 1 (by decide)
  have q1 : Typed tab (.slice 2) z0_1 := q1
  obtain ⟨y1, rfl⟩ := typed_slice q1
  cases h
  refine (laws_FnExactEncodeSpace_e y0 y1).trans ?_
  rw [Tr.run_eq, laws_FnExactEncodeSpace_p y0 y1 q0 q1]
  rfl
end Go.Proofs.Ytdifjmbflnkojaa.V
