/- What the functions of FnExactValidNumbers answer. No condition. -/
import Derived.Test.YtnlpkmkkidpfhaaVFacts
namespace Go.Proofs.Ytnlpkmkkidpfhaa.V
open Go
set_option maxRecDepth 100000
set_option linter.unusedVariables false
set_option linter.unusedSimpArgs false
/-! laws_szInt64S -/
noncomputable def laws_szInt64S_t (a0 : List (List TC)) (a1 : Int) : Tr (Int) := (.ite ((decide ((IntKind.wrap .i64 (a1 - (a0.length : Int))) < (0 : Int))) = true) (.ok (-1 : Int))
  (.ok (IntKind.wrap .i64 (a1 - (a0.length : Int)))))
def laws_szInt64S_mk (p : Int) : Res := [(false, [⟨.int .i64, .sh, TC.i p⟩])]
noncomputable def laws_szInt64S_c (a0 : List (List TC)) (a1 : Int) : Bool := true
noncomputable def laws_szInt64S_v (a0 : List (List TC)) (a1 : Int) : Int := (bif (decide ((IntKind.wrap .i64 (a1 - (a0.length : Int))) < (0 : Int))) then (-1 : Int) else (IntKind.wrap .i64 (a1 - (a0.length : Int))))
theorem laws_szInt64S_l (a0 : List (List TC)) (a1 : Int) : (laws_szInt64S_c a0 a1) = true → (laws_szInt64S_t a0 a1).val = some (laws_szInt64S_v a0 a1) := by
  intro h
  skip
  unfold laws_szInt64S_t laws_szInt64S_v
  exact (Tr.s rfl rfl)
noncomputable def laws_szInt64S_S : List Arg → Option (Bool × Res) := fun xs => match xs with
  | [(false, [(.slice 2, TC.l a0)]), (false, [(.int .i64, TC.i a1)])] => some (true, laws_szInt64S_mk (laws_szInt64S_v a0 a1))
  | _ => .none
theorem laws_szInt64S_e (a0 : List (List TC)) (a1 : Int) : runF tab FT D0 live 65 noLoops [(false, [(.slice 2, TC.l a0)]), (false, [(.int .i64, TC.i a1)])] = (laws_szInt64S_t a0 a1).run fun p => some (laws_szInt64S_mk p) := by kernel_rfl
theorem laws_szInt64S_s : ∀ xs r, laws_szInt64S_S xs = some (true, r) → runF tab FT D0 live 65 noLoops xs = some r := by
  intro xs r h
  unfold laws_szInt64S_S at h
  split at h
  · simp only [Option.some.injEq, Prod.mk.injEq] at h
    obtain ⟨h1, rfl⟩ := h
    exact fun_told (laws_szInt64S_e _ _) (laws_szInt64S_l _ _) rfl
  · cases h
noncomputable def D1 : Dt := also D0 65 laws_szInt64S_S
theorem d1 : DOk Go.Proofs.Try.prog tab D1 := d0.also mixed_ok tab_ok names_ok noLoops_ok laws_szInt64S_s
/-! laws_szNumbers -/
noncomputable def laws_szNumbers_t (a0 : List (List TC)) (a1 : List (List TC)) (a2 : Int) : Tr (Int) := (.ite ((decide ((laws_szInt64S_v a0 a2) < (0 : Int))) = true) (.ok (-1 : Int))
  (.ite ((decide ((laws_szInt64S_v a1 (laws_szInt64S_v a0 a2)) < (0 : Int))) = true) (.ok (-1 : Int))
   (.ok (laws_szInt64S_v a1 (laws_szInt64S_v a0 a2)))))
def laws_szNumbers_mk (p : Int) : Res := [(false, [⟨.int .i64, .sh, TC.i p⟩])]
noncomputable def laws_szNumbers_c (a0 : List (List TC)) (a1 : List (List TC)) (a2 : Int) : Bool := true
noncomputable def laws_szNumbers_v (a0 : List (List TC)) (a1 : List (List TC)) (a2 : Int) : Int := (bif (decide ((laws_szInt64S_v a0 a2) < (0 : Int))) then (-1 : Int) else (bif (decide ((laws_szInt64S_v a1 (laws_szInt64S_v a0 a2)) < (0 : Int))) then (-1 : Int) else (laws_szInt64S_v a1 (laws_szInt64S_v a0 a2))))
theorem laws_szNumbers_l (a0 : List (List TC)) (a1 : List (List TC)) (a2 : Int) : (laws_szNumbers_c a0 a1 a2) = true → (laws_szNumbers_t a0 a1 a2).val = some (laws_szNumbers_v a0 a1 a2) := by
  intro h
  skip
  unfold laws_szNumbers_t laws_szNumbers_v
  exact (Tr.s rfl (Tr.s rfl rfl))
noncomputable def laws_szNumbers_S : List Arg → Option (Bool × Res) := fun xs => match xs with
  | [(true, [(.slice 2, TC.l a0), (.slice 2, TC.l a1)]), (false, [(.int .i64, TC.i a2)])] => some (true, laws_szNumbers_mk (laws_szNumbers_v a0 a1 a2))
  | _ => .none
theorem laws_szNumbers_e (a0 : List (List TC)) (a1 : List (List TC)) (a2 : Int) : runF tab FT D1 live 29 noLoops [(true, [(.slice 2, TC.l a0), (.slice 2, TC.l a1)]), (false, [(.int .i64, TC.i a2)])] = (laws_szNumbers_t a0 a1 a2).run fun p => some (laws_szNumbers_mk p) := by kernel_rfl
theorem laws_szNumbers_s : ∀ xs r, laws_szNumbers_S xs = some (true, r) → runF tab FT D1 live 29 noLoops xs = some r := by
  intro xs r h
  unfold laws_szNumbers_S at h
  split at h
  · simp only [Option.some.injEq, Prod.mk.injEq] at h
    obtain ⟨h1, rfl⟩ := h
    exact fun_told (laws_szNumbers_e _ _ _) (laws_szNumbers_l _ _ _) rfl
  · cases h
noncomputable def D2 : Dt := also D1 29 laws_szNumbers_S
theorem d2 : DOk Go.Proofs.Try.prog tab D2 := d1.also mixed_ok tab_ok names_ok noLoops_ok laws_szNumbers_s
/-! laws_toInt64S -/
def laws_toInt64S_g (x : List TC) : List TC := [TC.i ((nth x 0).int)]
def laws_toInt64S_z : List TC := [TC.i (0 : Int)]
abbrev laws_toInt64S_3_σ := List (List TC) × List (List TC) × Int
abbrev laws_toInt64S_3_ω := (List (List TC))
noncomputable def laws_toInt64S_o3_1 (A : List (List TC)) (X : List (List TC)) (i : Int) : Bool := is (Typed tab (.slice 2) (.l A) ∧ X = List.replicate A.length laws_toInt64S_z ∧ i = 0)
noncomputable def laws_toInt64S_u3_1 (A : List (List TC)) (X : List (List TC)) (i : Int) : List (List TC) := A.map laws_toInt64S_g
noncomputable def laws_toInt64S_3_fin (A : List (List TC)) (X : List (List TC)) (i : Int) : Told laws_toInt64S_3_ω := (.leaf (laws_toInt64S_o3_1 A X i) (laws_toInt64S_u3_1 A X i))
noncomputable def laws_toInt64S_3_step (A : List (List TC)) (X : List (List TC)) (i : Int) : Tr (laws_toInt64S_3_σ ⊕ laws_toInt64S_3_ω) := (.ite ((decide (i < (A.length : Int))) = true) (.ite ((0 : Int) ≤ i ∧ i < (A.length : Int)) (.ite ((0 : Int) ≤ i ∧ i < (X.length : Int)) (.ok (.inl (A, (X.set (i).toNat (splice (row X i) 0 [TC.i ((nth (row A i) 0).int)])), (IntKind.wrap .i64 (i + (1 : Int))))))
    .no)
   .no)
  (.ok (.inr X)))
def laws_toInt64S_3_sl (x : laws_toInt64S_3_σ) : List Slot := [⟨.val false [⟨.slice 2, .sh, TC.l (x.1)⟩], ⟨0, 0⟩⟩, ⟨.val false [⟨.slice 2, .own true, TC.l (x.2.1)⟩], ⟨0, 0⟩⟩, ⟨.val false [⟨.int .i64, .sh, TC.i (x.2.2)⟩], ⟨0, 0⟩⟩]
def laws_toInt64S_3_out : laws_toInt64S_3_ω → Ex × List Slot := (fun x => (.exit 0, [Slot.none, ⟨.val false [⟨.slice 2, .own true, TC.l x⟩], ⟨0, 0⟩⟩]))
noncomputable def laws_toInt64S_lo3 : List Slot → Option (Told (Ex × List Slot)) := fun s => match s with
  | [⟨.val false [⟨.slice 2, .sh, TC.l A⟩], ⟨0, 0⟩⟩, ⟨.val false [⟨.slice 2, .own true, TC.l X⟩], ⟨0, 0⟩⟩, ⟨.val false [⟨.int .i64, .sh, TC.i i⟩], ⟨0, 0⟩⟩] => some (((laws_toInt64S_3_fin A X i)).map laws_toInt64S_3_out)
  | _ => .none
noncomputable def laws_toInt64S_lo : LoopTeller := fun r s => bif Nat.beq r 3 then laws_toInt64S_lo3 s else .none
theorem laws_toInt64S_3_r (A : List (List TC)) (X : List (List TC)) (i : Int) (fuel : Nat) : rounds (rnd tab FT D2 live 48 laws_toInt64S_lo 0 3) leave (fuel + 1) (laws_toInt64S_3_sl (A, X, i)) = ((laws_toInt64S_3_step A X i)).run (goOn (fun s => rounds (rnd tab FT D2 live 48 laws_toInt64S_lo 0 3) leave fuel (laws_toInt64S_3_sl s)) fun w => some (laws_toInt64S_3_out w)) := by kernel_rfl
noncomputable def laws_toInt64S_3_st : laws_toInt64S_3_σ → Tr (laws_toInt64S_3_σ ⊕ laws_toInt64S_3_ω) := fun x => (laws_toInt64S_3_step (x.1) (x.2.1) (x.2.2))
theorem laws_toInt64S_3_h (A : List (List TC)) (X : List (List TC)) (i : Int) (w : laws_toInt64S_3_ω) : ((laws_toInt64S_3_fin A X i)).val = some w → ∃ fuel, loopN laws_toInt64S_3_st fuel (A, X, i) = some w := by
  intro h
  simp only [laws_toInt64S_3_fin, Told.val] at h
  split at h
  · rename_i ho
    obtain ⟨ht, rfl, rfl⟩ := is_iff.1 ho
    cases h
    have hlen : A.length ≤ 140737488351232 := by have := typed_room ht; simp only [show (tab 2).bytes = 8 from rfl] at this; omega
    have key := loopN_copy (step := laws_toInt64S_3_st) A (List.replicate A.length laws_toInt64S_z) laws_toInt64S_g (fun Y i => (A, Y, (i : Int))) (A.map laws_toInt64S_g) (by simp) (fun x hx i _ => by rw [(List.mem_replicate.1 hx).2]; exact Nat.le_refl 1) (fun Y i hi hl => ?_) ?_ A.length 0 (by omega)
    · rw [copied_zero] at key
      exact ⟨_, key⟩
    · skip
      show (laws_toInt64S_3_step A Y (i : Int)).val = _
      unfold laws_toInt64S_3_step
      refine Tr.t (by simp; omega) ?_
      refine Tr.t (by constructor <;> omega) ?_
      refine Tr.t (by constructor <;> omega) ?_
      repeat (refine Tr.t (by first | (apply is_true; and_intros <;> (first | rfl | assumption | exact (by first | (apply is_true; and_intros <;> (first | rfl | assumption | exact (by first | (apply is_true; and_intros <;> (first | rfl | assumption | exact (by first | (apply is_true; and_intros <;> (first | rfl | assumption | exact (by first | (apply is_true; and_intros <;> (first | rfl | assumption))))))))))))))) ?_)
      rw [Tr.val_ok, wrap64 (i := (i : Int) + 1) (by omega) (by omega)]; rfl
    · show (laws_toInt64S_3_step A (A.map laws_toInt64S_g) (A.length : Int)).val = _
      refine Tr.n (by simp) ?_
      rfl
  · cases h
theorem laws_toInt64S_is3 : LoopIs tab FT D2 live 48 laws_toInt64S_lo 0 3 := by
  refine loop_told (sl := laws_toInt64S_3_sl) (step := laws_toInt64S_3_st) (out := laws_toInt64S_3_out) (lor := laws_toInt64S_lo3) (fin := fun x => (laws_toInt64S_3_fin (x.1) (x.2.1) (x.2.2))) (fun _ => rfl) ?_ (fun x n => laws_toInt64S_3_r x.1 x.2.1 x.2.2 n) (fun x w => laws_toInt64S_3_h x.1 x.2.1 x.2.2 w)
  intro s t h
  unfold laws_toInt64S_lo3 at h
  split at h
  · cases h; exact ⟨(_, _, _), rfl, rfl⟩
  · cases h
noncomputable def laws_toInt64S_t (A : List (List TC)) : Tr (List (List TC)) := (.ite (0 ≤ (A.length : Int) ∧ (A.length : Int) ≤ (A.length : Int) ∧ (A.length : Int) * 8 ≤ 140737488355328 ∧ (A.length : Int) ≤ 140737488355328) (.ite ((laws_toInt64S_o3_1 A (List.replicate ((A.length : Int)).toNat [TC.i (0 : Int)]) (0 : Int)) = true) (.ok (laws_toInt64S_u3_1 A (List.replicate ((A.length : Int)).toNat [TC.i (0 : Int)]) (0 : Int)))
   .no)
  .no)
def laws_toInt64S_mk (p : List (List TC)) : Res := [(false, [⟨.slice 2, .own true, TC.l p⟩])]
noncomputable def laws_toInt64S_c (A : List (List TC)) : Bool := is (Typed tab (.slice 2) (.l A))
noncomputable def laws_toInt64S_v (A : List (List TC)) : List (List TC) := A.map laws_toInt64S_g
theorem laws_toInt64S_l (A : List (List TC)) : (laws_toInt64S_c A) = true → (laws_toInt64S_t A).val = some (laws_toInt64S_v A) := by
  intro h
  have ht := is_iff.1 h
  have hb := typed_room ht
  simp only [show (tab 2).bytes = 8 from rfl] at hb
  unfold laws_toInt64S_t
  refine Tr.t (by omega) ?_
  refine Tr.t (is_true ⟨ht, by rfl, rfl⟩) ?_
  rfl
noncomputable def laws_toInt64S_S : List Arg → Option (Bool × Res) := fun xs => match xs with
  | [(false, [(.slice 2, TC.l A)])] => some ((laws_toInt64S_c A), laws_toInt64S_mk (laws_toInt64S_v A))
  | _ => .none
theorem laws_toInt64S_e (A : List (List TC)) : runF tab FT D2 live 48 laws_toInt64S_lo [(false, [(.slice 2, TC.l A)])] = (laws_toInt64S_t A).run fun p => some (laws_toInt64S_mk p) := by kernel_rfl
theorem laws_toInt64S_s : ∀ xs r, laws_toInt64S_S xs = some (true, r) → runF tab FT D2 live 48 laws_toInt64S_lo xs = some r := by
  intro xs r h
  unfold laws_toInt64S_S at h
  split at h
  · simp only [Option.some.injEq, Prod.mk.injEq] at h
    obtain ⟨h1, rfl⟩ := h
    exact fun_told (laws_toInt64S_e _) (laws_toInt64S_l _) h1
  · cases h
noncomputable def D3 : Dt := also D2 48 laws_toInt64S_S
theorem d3 : DOk Go.Proofs.Try.prog tab D3 := d2.also mixed_ok tab_ok names_ok (fnLoops_one (by kernel_rfl) laws_toInt64S_is3) laws_toInt64S_s
theorem laws_toInt64S_ty {A : List (List TC)} (h : Typed tab (.slice 2) (.l A)) : Typed tab (.slice 2) (.l (A.map laws_toInt64S_g)) := by
  refine typed_map h (by decide) fun x _ _ hx => ⟨rfl, fun k hk => ?_⟩
  match k, hk with
    | 0, _ => exact typed_i (hx 0 (by decide))
/-! laws_toNumbers -/
noncomputable def laws_toNumbers_t (x0 : List (List TC)) (x1 : List (List TC)) : Tr (List (List TC) × List (List TC)) := (.ite ((laws_toInt64S_c x0) = true) (.ite ((laws_toInt64S_c x1) = true) (.ok ((laws_toInt64S_v x0), (laws_toInt64S_v x1)))
   .no)
  .no)
def laws_toNumbers_mk (p : List (List TC) × List (List TC)) : Res := [(true, [⟨.slice 2, .own true, TC.l (p.1)⟩, ⟨.slice 2, .own true, TC.l (p.2)⟩])]
noncomputable def laws_toNumbers_c (x0 : List (List TC)) (x1 : List (List TC)) : Bool := is (Typed tab (.slice 2) (.l x0) ∧ Typed tab (.slice 2) (.l x1))
noncomputable def laws_toNumbers_v (x0 : List (List TC)) (x1 : List (List TC)) : List (List TC) × List (List TC) := ((laws_toInt64S_v x0), (laws_toInt64S_v x1))
theorem laws_toNumbers_l (x0 : List (List TC)) (x1 : List (List TC)) : (laws_toNumbers_c x0 x1) = true → (laws_toNumbers_t x0 x1).val = some (laws_toNumbers_v x0 x1) := by
  intro h
  obtain ⟨t0, t1⟩ := is_iff.1 h
  unfold laws_toNumbers_t
  repeat (refine Tr.t (by first | (apply is_true; and_intros <;> (first | rfl | assumption | exact (by first | (apply is_true; and_intros <;> (first | rfl | assumption | exact (by first | (apply is_true; and_intros <;> (first | rfl | assumption | exact (by first | (apply is_true; and_intros <;> (first | rfl | assumption | exact (by first | (apply is_true; and_intros <;> (first | rfl | assumption))))))))))))))) ?_)
  rfl
noncomputable def laws_toNumbers_S : List Arg → Option (Bool × Res) := fun xs => match xs with
  | [(true, [(.slice 2, TC.l x0), (.slice 2, TC.l x1)])] => some ((laws_toNumbers_c x0 x1), laws_toNumbers_mk (laws_toNumbers_v x0 x1))
  | _ => .none
theorem laws_toNumbers_e (x0 : List (List TC)) (x1 : List (List TC)) : runF tab FT D3 live 31 noLoops [(true, [(.slice 2, TC.l x0), (.slice 2, TC.l x1)])] = (laws_toNumbers_t x0 x1).run fun p => some (laws_toNumbers_mk p) := by kernel_rfl
theorem laws_toNumbers_s : ∀ xs r, laws_toNumbers_S xs = some (true, r) → runF tab FT D3 live 31 noLoops xs = some r := by
  intro xs r h
  unfold laws_toNumbers_S at h
  split at h
  · simp only [Option.some.injEq, Prod.mk.injEq] at h
    obtain ⟨h1, rfl⟩ := h
    exact fun_told (laws_toNumbers_e _ _) (laws_toNumbers_l _ _) h1
  · cases h
noncomputable def D4 : Dt := also D3 31 laws_toNumbers_S
theorem d4 : DOk Go.Proofs.Try.prog tab D4 := d3.also mixed_ok tab_ok names_ok noLoops_ok laws_toNumbers_s
/-! spec_l00In -/
noncomputable def spec_l00In_t (a0 : Int) (a1 : Int) (a2 : Int) : Tr (Bool) := (.ite ((decide (a0 ≥ a1)) = true) (.ok (decide (a0 ≤ a2)))
  (.ok false))
def spec_l00In_mk (p : Bool) : Res := [(false, [⟨.bool, .sh, TC.b p⟩])]
noncomputable def spec_l00In_c (a0 : Int) (a1 : Int) (a2 : Int) : Bool := true
noncomputable def spec_l00In_v (a0 : Int) (a1 : Int) (a2 : Int) : Bool := (bif (decide (a0 ≥ a1)) then (decide (a0 ≤ a2)) else false)
theorem spec_l00In_l (a0 : Int) (a1 : Int) (a2 : Int) : (spec_l00In_c a0 a1 a2) = true → (spec_l00In_t a0 a1 a2).val = some (spec_l00In_v a0 a1 a2) := by
  intro h
  skip
  unfold spec_l00In_t spec_l00In_v
  exact (Tr.s rfl rfl)
noncomputable def spec_l00In_S : List Arg → Option (Bool × Res) := fun xs => match xs with
  | [(false, [(.int .i64, TC.i a0)]), (false, [(.int .i64, TC.i a1)]), (false, [(.int .i64, TC.i a2)])] => some (true, spec_l00In_mk (spec_l00In_v a0 a1 a2))
  | _ => .none
theorem spec_l00In_e (a0 : Int) (a1 : Int) (a2 : Int) : runF tab FT D4 live 58 noLoops [(false, [(.int .i64, TC.i a0)]), (false, [(.int .i64, TC.i a1)]), (false, [(.int .i64, TC.i a2)])] = (spec_l00In_t a0 a1 a2).run fun p => some (spec_l00In_mk p) := by kernel_rfl
theorem spec_l00In_s : ∀ xs r, spec_l00In_S xs = some (true, r) → runF tab FT D4 live 58 noLoops xs = some r := by
  intro xs r h
  unfold spec_l00In_S at h
  split at h
  · simp only [Option.some.injEq, Prod.mk.injEq] at h
    obtain ⟨h1, rfl⟩ := h
    exact fun_told (spec_l00In_e _ _ _) (spec_l00In_l _ _ _) rfl
  · cases h
noncomputable def D5 : Dt := also D4 58 spec_l00In_S
theorem d5 : DOk Go.Proofs.Try.prog tab D5 := d4.also mixed_ok tab_ok names_ok noLoops_ok spec_l00In_s
def inR (lo hi : Int) (x : List TC) : Bool := bif decide ((nth x 0).int ≥ lo) then decide ((nth x 0).int ≤ hi) else false
def mulR (n : Int) (x : List TC) : Int := IntKind.wrap .i64 (n * (nth x 0).int)
def prodL (A : List (List TC)) : Int := A.foldl mulR 1
def gridC (d c : List TC) : List TC := [.i (IntKind.wrap .i64 (Int.tdiv (IntKind.wrap .i64 ((IntKind.wrap .i64 ((nth d 0).int + (nth c 0).int)) - (1 : Int))) ((nth c 0).int)))]
def gridL (D C : List (List TC)) : List (List TC) := List.zipWith gridC D C
theorem lenEq {D C : List (List TC)} (h : (!((C.length : Int) == (D.length : Int))) = false) : D.length = C.length := by
  have h2 : ((C.length : Int) == (D.length : Int)) = true := by simpa using h
  have h3 := eq_of_beq h2
  omega
theorem nnF {b : Bool} (h : (!(!(!b))) = false) : b = true := by simpa using h
theorem gridL_at {D C : List (List TC)} {i : Nat} (hl : D.length = C.length) (hi : i < (gridL D C).length) : (gridL D C)[i] = gridC (D.getD i []) (C.getD i []) := by
  have h1 : i < D.length := by simp [gridL] at hi; omega
  have h2 : i < C.length := by omega
  rw [getD_at h1, getD_at h2]
  exact List.getElem_zipWith
theorem inR_1 {C : List (List TC)} (h : C.all (inR 1 40) = true) {i : Nat} (hi : i < C.length) : (nth (C.getD i []) 0).int ≠ 0 := by
  have h1 := (List.all_eq_true.1 h) (C.getD i []) (mem_getD hi)
  unfold inR at h1
  intro h0
  rw [h0] at h1
  cases h1
theorem gridL_len {D C : List (List TC)} (h : D.length ≤ 140737488351232) : (gridL D C).length ≤ 140737488351232 := by simp only [gridL, List.length_zipWith]; omega
theorem gridL_ty {e : TypeId} {D C : List (List TC)} (he : (tab e).cts = [.int .i64]) (h : Typed tab (.slice e) (.l D)) : Typed tab (.slice e) (.l (gridL D C)) := by
  have hm : ∀ x, x ∈ gridL D C → ∃ d c, x = gridC d c := by
    intro x hx
    obtain ⟨i, hi, rfl⟩ := List.getElem_of_mem hx
    exact ⟨_, _, List.getElem_zipWith⟩
  cases h with
  | slice _ _ h1 h2 h3 h4 =>
    have hl : (gridL D C).length ≤ D.length := by simp only [gridL, List.length_zipWith]; omega
    refine .slice _ _ (Nat.le_trans (Nat.mul_le_mul_right _ hl) h1) (Nat.le_trans hl h2) (fun x hx => ?_) (fun x hx k hk => ?_)
    · obtain ⟨d, c, rfl⟩ := hm x hx
      rw [he]; rfl
    · obtain ⟨d, c, rfl⟩ := hm x hx
      rw [he] at hk ⊢
      match k, hk with
      | 0, _ => exact .int _ _ (wrap_wf _)
def dimsOk (D : List (List TC)) : Bool := decide ((D.length : Int) ≤ 3) && D.all (inR 0 40) && decide (prodL D ≤ 600)
def chunkOk (D C : List (List TC)) : Bool := dimsOk D && ((C.length : Int) == (D.length : Int)) && C.all (inR 1 40) && decide (prodL C ≤ 64) && (gridL D C).all (inR 0 16) && decide (prodL (gridL D C) ≤ 256)
theorem dimsOk_all {D : List (List TC)} (h : dimsOk D = true) : D.all (inR 0 40) = true := by
  unfold dimsOk at h
  simp only [Bool.and_eq_true] at h
  exact h.1.2
def le16 (x : List TC) : Bool := !(decide ((nth x 0).int > 16))
theorem inR_iff {lo hi : Int} {x : List TC} : inR lo hi x = true ↔ lo ≤ (nth x 0).int ∧ (nth x 0).int ≤ hi := by
  unfold inR
  by_cases h : lo ≤ (nth x 0).int <;> simp [h]
theorem gridC_val {d c : List TC} (hd : inR 0 40 d = true) (hc : inR 1 40 c = true) : (nth (gridC d c) 0).int = Int.tdiv ((nth d 0).int + (nth c 0).int - 1) ((nth c 0).int) ∧ 0 ≤ (nth (gridC d c) 0).int := by
  rw [inR_iff] at hd hc
  have h0 : 0 ≤ Int.tdiv ((nth d 0).int + (nth c 0).int - 1) ((nth c 0).int) := Int.tdiv_nonneg (by omega) (by omega)
  have h1 : Int.tdiv ((nth d 0).int + (nth c 0).int - 1) ((nth c 0).int) ≤ (nth d 0).int + (nth c 0).int - 1 := Int.tdiv_le_self _ (by omega)
  have e : (nth (gridC d c) 0).int = Int.tdiv ((nth d 0).int + (nth c 0).int - 1) ((nth c 0).int) := by
    show IntKind.wrap .i64 (Int.tdiv (IntKind.wrap .i64 ((IntKind.wrap .i64 ((nth d 0).int + (nth c 0).int)) - (1 : Int))) ((nth c 0).int)) = _
    rw [wrap64 (i := (nth d 0).int + (nth c 0).int) (by omega) (by omega), wrap64 (i := (nth d 0).int + (nth c 0).int - 1) (by omega) (by omega), wrap64 (by omega) (by omega)]
  rw [e]
  exact ⟨rfl, h0⟩
theorem grid_all {D C : List (List TC)} (hd : D.all (inR 0 40) = true) (hc : C.all (inR 1 40) = true) : (gridL D C).all le16 = (gridL D C).all (inR 0 16) := by
  rw [Bool.eq_iff_iff, List.all_eq_true, List.all_eq_true]
  refine forall_congr' fun x => forall_congr' fun hx => ?_
  obtain ⟨i, hi, rfl⟩ := List.getElem_of_mem hx
  have h1 : i < D.length := by simp [gridL] at hi; omega
  have h2 : i < C.length := by simp [gridL] at hi; omega
  have hg : (gridL D C)[i] = gridC D[i] C[i] := List.getElem_zipWith
  rw [hg]
  have h0 := (gridC_val (List.all_eq_true.1 hd _ (List.getElem_mem h1)) (List.all_eq_true.1 hc _ (List.getElem_mem h2))).2
  rw [inR_iff]
  unfold le16
  simp
  omega
/-! spec_l05Dims -/
abbrev spec_l05Dims_5_σ := List (List TC) × Int × Int
abbrev spec_l05Dims_5_ω := (Int) ⊕ (Int)
noncomputable def spec_l05Dims_k5_1 (A : List (List TC)) (n : Int) (i : Int) : Bool := A.all (inR 0 40)
noncomputable def spec_l05Dims_o5_2 (A : List (List TC)) (n : Int) (i : Int) : Bool := is (i = 0 ∧ n = 1 ∧ Typed tab (.slice 2) (.l A))
noncomputable def spec_l05Dims_u5_2 (A : List (List TC)) (n : Int) (i : Int) : Int := (A.foldl mulR (1 : Int))
noncomputable def spec_l05Dims_o5_3 (A : List (List TC)) (n : Int) (i : Int) : Bool := is (i = 0 ∧ n = 1 ∧ Typed tab (.slice 2) (.l A))
noncomputable def spec_l05Dims_u5_3 (A : List (List TC)) (n : Int) (i : Int) : Int := ((A.take (A.findIdx fun x => !(inR 0 40) x)).foldl mulR (1 : Int))
noncomputable def spec_l05Dims_5_fin (A : List (List TC)) (n : Int) (i : Int) : Told spec_l05Dims_5_ω := (.br (spec_l05Dims_k5_1 A n i) (.leaf (spec_l05Dims_o5_2 A n i) (.inr (spec_l05Dims_u5_2 A n i))) (.leaf (spec_l05Dims_o5_3 A n i) (.inl (spec_l05Dims_u5_3 A n i))))
noncomputable def spec_l05Dims_5_step (A : List (List TC)) (n : Int) (i : Int) : Tr (spec_l05Dims_5_σ ⊕ spec_l05Dims_5_ω) := (.ite ((decide (i < (A.length : Int))) = true) (.ite ((0 : Int) ≤ i ∧ i < (A.length : Int)) (.ite ((!(spec_l00In_v ((nth (row A i) 0).int) (0 : Int) (40 : Int))) = true) (.ok (.inr (.inl n)))
    (.ite ((0 : Int) ≤ i ∧ i < (A.length : Int)) (.ok (.inl (A, (IntKind.wrap .i64 (n * (nth (row A i) 0).int)), (IntKind.wrap .i64 (i + (1 : Int))))))
     .no))
   .no)
  (.ok (.inr (.inr n))))
def spec_l05Dims_5_sl (x : spec_l05Dims_5_σ) : List Slot := [⟨.val false [⟨.slice 2, .sh, TC.l (x.1)⟩], ⟨0, 0⟩⟩, ⟨.val false [⟨.int .i64, .sh, TC.i (x.2.1)⟩], ⟨0, 0⟩⟩, ⟨.val false [⟨.int .i64, .sh, TC.i (x.2.2)⟩], ⟨0, 0⟩⟩]
def spec_l05Dims_5_out : spec_l05Dims_5_ω → Ex × List Slot := (Sum.elim (fun x => (.ret, [⟨.val false [⟨.bool, .sh, TC.b false⟩], ⟨0, 0⟩⟩, ⟨.val false [⟨.int .i64, .sh, TC.i x⟩], ⟨0, 0⟩⟩])) (fun x => (.exit 0, [Slot.none, ⟨.val false [⟨.int .i64, .sh, TC.i x⟩], ⟨0, 0⟩⟩])))
noncomputable def spec_l05Dims_lo5 : List Slot → Option (Told (Ex × List Slot)) := fun s => match s with
  | [⟨.val false [⟨.slice 2, .sh, TC.l A⟩], ⟨0, 0⟩⟩, ⟨.val false [⟨.int .i64, .sh, TC.i n⟩], ⟨0, 0⟩⟩, ⟨.val false [⟨.int .i64, .sh, TC.i i⟩], ⟨0, 0⟩⟩] => some (((spec_l05Dims_5_fin A n i)).map spec_l05Dims_5_out)
  | _ => .none
noncomputable def spec_l05Dims_lo : LoopTeller := fun r s => bif Nat.beq r 5 then spec_l05Dims_lo5 s else .none
theorem spec_l05Dims_5_r (A : List (List TC)) (n : Int) (i : Int) (fuel : Nat) : rounds (rnd tab FT D5 live 122 spec_l05Dims_lo 0 5) leave (fuel + 1) (spec_l05Dims_5_sl (A, n, i)) = ((spec_l05Dims_5_step A n i)).run (goOn (fun s => rounds (rnd tab FT D5 live 122 spec_l05Dims_lo 0 5) leave fuel (spec_l05Dims_5_sl s)) fun w => some (spec_l05Dims_5_out w)) := by kernel_rfl
noncomputable def spec_l05Dims_5_st : spec_l05Dims_5_σ → Tr (spec_l05Dims_5_σ ⊕ spec_l05Dims_5_ω) := fun x => (spec_l05Dims_5_step (x.1) (x.2.1) (x.2.2))
theorem spec_l05Dims_5_h (A : List (List TC)) (n : Int) (i : Int) (w : spec_l05Dims_5_ω) : ((spec_l05Dims_5_fin A n i)).val = some w → ∃ fuel, loopN spec_l05Dims_5_st fuel (A, n, i) = some w := by
  intro h
  have key : Typed tab (.slice 2) (.l A) → loopN spec_l05Dims_5_st (A.length + 1) (A, (1 : Int), (0 : Int)) = some (if A.all (inR 0 40) = true then (.inr (A.foldl mulR (1 : Int))) else (.inl ((A.take (A.findIdx fun x => !(inR 0 40) x)).foldl mulR (1 : Int)))) := by
    intro ht
    have hlen : A.length ≤ 140737488351232 := by have := typed_room ht; simp only [show (tab 2).bytes = 8 from rfl] at this; omega
    have key := loopN_scan (step := spec_l05Dims_5_st) A [] (inR 0 40) mulR (fun i a => (A, a, (i : Int))) (fun a => (.inr a)) (fun i a => (.inl a)) (fun i a hi => ?_) (fun a => ?_) A.length 0 (1 : Int) (by omega)
    · first | (rw [Nat.zero_add] at key; exact key) | exact key
    · skip
      show (spec_l05Dims_5_step A a (i : Int)).val = _
      unfold spec_l05Dims_5_step
      refine Tr.t (by simp; omega) ?_
      skip
      refine Tr.t (by first | omega | (constructor <;> omega)) ?_
      refine Tr.b (P := (inR 0 40) (A.getD i [])) (fun hP => ?_) (fun _ => rfl)
      refine Tr.t (by first | omega | (constructor <;> omega)) ?_
      rw [Tr.val_ok, wrap64 (i := (i : Int) + 1) (by omega) (by omega)]; rfl
    · show (spec_l05Dims_5_step A a (A.length : Int)).val = _
      refine Tr.n (by simp) ?_
      rfl
  simp only [spec_l05Dims_5_fin, Told.val] at h
  cases hk : A.all (inR 0 40) with
  | true =>
    rw [if_pos (show spec_l05Dims_k5_1 A n i = true from hk)] at h
    split at h
    · rename_i ho
      obtain ⟨rfl, rfl, ht⟩ := is_iff.1 ho
      cases h
      refine ⟨_, (key ht).trans ?_⟩
      rw [hk]; rfl
    · cases h
  | false =>
    rw [if_neg (show ¬spec_l05Dims_k5_1 A n i = true from by rw [show spec_l05Dims_k5_1 A n i = (A.all (inR 0 40)) from rfl, hk]; simp)] at h
    split at h
    · rename_i ho
      obtain ⟨rfl, rfl, ht⟩ := is_iff.1 ho
      cases h
      refine ⟨_, (key ht).trans ?_⟩
      rw [hk]; rfl
    · cases h
theorem spec_l05Dims_is5 : LoopIs tab FT D5 live 122 spec_l05Dims_lo 0 5 := by
  refine loop_told (sl := spec_l05Dims_5_sl) (step := spec_l05Dims_5_st) (out := spec_l05Dims_5_out) (lor := spec_l05Dims_lo5) (fin := fun x => (spec_l05Dims_5_fin (x.1) (x.2.1) (x.2.2))) (fun _ => rfl) ?_ (fun x n => spec_l05Dims_5_r x.1 x.2.1 x.2.2 n) (fun x w => spec_l05Dims_5_h x.1 x.2.1 x.2.2 w)
  intro s t h
  unfold spec_l05Dims_lo5 at h
  split at h
  · cases h; exact ⟨(_, _, _), rfl, rfl⟩
  · cases h
noncomputable def spec_l05Dims_t (A : List (List TC)) : Tr (Bool) := (.ite ((decide ((A.length : Int) > (3 : Int))) = true) (.ok false)
  (.ite ((spec_l05Dims_k5_1 A (1 : Int) (0 : Int)) = true) (.ite ((spec_l05Dims_o5_2 A (1 : Int) (0 : Int)) = true) (.ok (decide ((spec_l05Dims_u5_2 A (1 : Int) (0 : Int)) ≤ (600 : Int))))
    .no)
   (.ite ((spec_l05Dims_o5_3 A (1 : Int) (0 : Int)) = true) (.ok false)
    .no)))
def spec_l05Dims_mk (p : Bool) : Res := [(false, [⟨.bool, .sh, TC.b p⟩])]
noncomputable def spec_l05Dims_c (A : List (List TC)) : Bool := is (((spec_l05Dims_o5_2 A (1 : Int) (0 : Int)) = true) ∧ ((spec_l05Dims_o5_3 A (1 : Int) (0 : Int)) = true))
noncomputable def spec_l05Dims_v (A : List (List TC)) : Bool := (bif (decide ((A.length : Int) > (3 : Int))) then false else (bif (spec_l05Dims_k5_1 A (1 : Int) (0 : Int)) then (decide ((spec_l05Dims_u5_2 A (1 : Int) (0 : Int)) ≤ (600 : Int))) else false))
theorem spec_l05Dims_l (A : List (List TC)) : (spec_l05Dims_c A) = true → (spec_l05Dims_t A).val = some (spec_l05Dims_v A) := by
  intro h
  obtain ⟨g0, g1⟩ := is_iff.1 h
  unfold spec_l05Dims_t spec_l05Dims_v
  exact (Tr.s rfl (Tr.s (Tr.t g0 rfl) (Tr.t g1 rfl)))
noncomputable def spec_l05Dims_S : List Arg → Option (Bool × Res) := fun xs => match xs with
  | [(false, [(.slice 2, TC.l A)])] => some ((spec_l05Dims_c A), spec_l05Dims_mk (spec_l05Dims_v A))
  | _ => .none
theorem spec_l05Dims_e (A : List (List TC)) : runF tab FT D5 live 122 spec_l05Dims_lo [(false, [(.slice 2, TC.l A)])] = (spec_l05Dims_t A).run fun p => some (spec_l05Dims_mk p) := by kernel_rfl
theorem spec_l05Dims_s : ∀ xs r, spec_l05Dims_S xs = some (true, r) → runF tab FT D5 live 122 spec_l05Dims_lo xs = some r := by
  intro xs r h
  unfold spec_l05Dims_S at h
  split at h
  · simp only [Option.some.injEq, Prod.mk.injEq] at h
    obtain ⟨h1, rfl⟩ := h
    exact fun_told (spec_l05Dims_e _) (spec_l05Dims_l _) h1
  · cases h
noncomputable def D6 : Dt := also D5 122 spec_l05Dims_S
theorem d6 : DOk Go.Proofs.Try.prog tab D6 := d5.also mixed_ok tab_ok names_ok (fnLoops_one (by kernel_rfl) spec_l05Dims_is5) spec_l05Dims_s
theorem spec_l05Dims_vv (A : List (List TC)) : spec_l05Dims_v A = dimsOk A := by
  show (bif decide ((A.length : Int) > 3) then false else bif A.all (inR 0 40) then decide (prodL A ≤ 600) else false) = _
  unfold dimsOk
  rw [show decide ((A.length : Int) > 3) = !decide ((A.length : Int) ≤ 3) from by rw [← decide_not]; simp]
  cases decide ((A.length : Int) ≤ 3) <;> cases A.all (inR 0 40) <;> rfl
/-! spec_l05Count -/
abbrev spec_l05Count_3_σ := List (List TC) × Int × Int
abbrev spec_l05Count_3_ω := (Int)
noncomputable def spec_l05Count_o3_1 (A : List (List TC)) (n : Int) (i : Int) : Bool := is (i = 0 ∧ n = 1 ∧ Typed tab (.slice 2) (.l A))
noncomputable def spec_l05Count_u3_1 (A : List (List TC)) (n : Int) (i : Int) : Int := (A.foldl mulR (1 : Int))
noncomputable def spec_l05Count_3_fin (A : List (List TC)) (n : Int) (i : Int) : Told spec_l05Count_3_ω := (.leaf (spec_l05Count_o3_1 A n i) (spec_l05Count_u3_1 A n i))
noncomputable def spec_l05Count_3_step (A : List (List TC)) (n : Int) (i : Int) : Tr (spec_l05Count_3_σ ⊕ spec_l05Count_3_ω) := (.ite ((decide (i < (A.length : Int))) = true) (.ite ((0 : Int) ≤ i ∧ i < (A.length : Int)) (.ok (.inl (A, (IntKind.wrap .i64 (n * (nth (row A i) 0).int)), (IntKind.wrap .i64 (i + (1 : Int))))))
   .no)
  (.ok (.inr n)))
def spec_l05Count_3_sl (x : spec_l05Count_3_σ) : List Slot := [⟨.val false [⟨.slice 2, .sh, TC.l (x.1)⟩], ⟨0, 0⟩⟩, ⟨.val false [⟨.int .i64, .sh, TC.i (x.2.1)⟩], ⟨0, 0⟩⟩, ⟨.val false [⟨.int .i64, .sh, TC.i (x.2.2)⟩], ⟨0, 0⟩⟩]
def spec_l05Count_3_out : spec_l05Count_3_ω → Ex × List Slot := (fun x => (.exit 0, [Slot.none, ⟨.val false [⟨.int .i64, .sh, TC.i x⟩], ⟨0, 0⟩⟩]))
noncomputable def spec_l05Count_lo3 : List Slot → Option (Told (Ex × List Slot)) := fun s => match s with
  | [⟨.val false [⟨.slice 2, .sh, TC.l A⟩], ⟨0, 0⟩⟩, ⟨.val false [⟨.int .i64, .sh, TC.i n⟩], ⟨0, 0⟩⟩, ⟨.val false [⟨.int .i64, .sh, TC.i i⟩], ⟨0, 0⟩⟩] => some (((spec_l05Count_3_fin A n i)).map spec_l05Count_3_out)
  | _ => .none
noncomputable def spec_l05Count_lo : LoopTeller := fun r s => bif Nat.beq r 3 then spec_l05Count_lo3 s else .none
theorem spec_l05Count_3_r (A : List (List TC)) (n : Int) (i : Int) (fuel : Nat) : rounds (rnd tab FT D6 live 124 spec_l05Count_lo 0 3) leave (fuel + 1) (spec_l05Count_3_sl (A, n, i)) = ((spec_l05Count_3_step A n i)).run (goOn (fun s => rounds (rnd tab FT D6 live 124 spec_l05Count_lo 0 3) leave fuel (spec_l05Count_3_sl s)) fun w => some (spec_l05Count_3_out w)) := by kernel_rfl
noncomputable def spec_l05Count_3_st : spec_l05Count_3_σ → Tr (spec_l05Count_3_σ ⊕ spec_l05Count_3_ω) := fun x => (spec_l05Count_3_step (x.1) (x.2.1) (x.2.2))
theorem spec_l05Count_3_h (A : List (List TC)) (n : Int) (i : Int) (w : spec_l05Count_3_ω) : ((spec_l05Count_3_fin A n i)).val = some w → ∃ fuel, loopN spec_l05Count_3_st fuel (A, n, i) = some w := by
  intro h
  have key : Typed tab (.slice 2) (.l A) → loopN spec_l05Count_3_st (A.length + 1) (A, (1 : Int), (0 : Int)) = some ((A.foldl mulR (1 : Int))) := by
    intro ht
    have hlen : A.length ≤ 140737488351232 := by have := typed_room ht; simp only [show (tab 2).bytes = 8 from rfl] at this; omega
    have key := loopN_scan (step := spec_l05Count_3_st) A [] (fun _ => true) mulR (fun i a => (A, a, (i : Int))) (fun a => a) (fun i a => a) (fun i a hi => ?_) (fun a => ?_) A.length 0 (1 : Int) (by omega)
    · first | (rw [Nat.zero_add] at key; exact key) | exact key | (simpa using key)
    · skip
      show (spec_l05Count_3_step A a (i : Int)).val = _
      unfold spec_l05Count_3_step
      refine Tr.t (by simp; omega) ?_
      show _ = some _
      refine Tr.t (by first | omega | (constructor <;> omega)) ?_
      rw [Tr.val_ok, wrap64 (i := (i : Int) + 1) (by omega) (by omega)]; rfl
    · show (spec_l05Count_3_step A a (A.length : Int)).val = _
      refine Tr.n (by simp) ?_
      rfl
  simp only [spec_l05Count_3_fin, Told.val] at h
  split at h
  · rename_i ho
    obtain ⟨rfl, rfl, ht⟩ := is_iff.1 ho
    cases h
    exact ⟨_, key ht⟩
  · cases h
theorem spec_l05Count_is3 : LoopIs tab FT D6 live 124 spec_l05Count_lo 0 3 := by
  refine loop_told (sl := spec_l05Count_3_sl) (step := spec_l05Count_3_st) (out := spec_l05Count_3_out) (lor := spec_l05Count_lo3) (fin := fun x => (spec_l05Count_3_fin (x.1) (x.2.1) (x.2.2))) (fun _ => rfl) ?_ (fun x n => spec_l05Count_3_r x.1 x.2.1 x.2.2 n) (fun x w => spec_l05Count_3_h x.1 x.2.1 x.2.2 w)
  intro s t h
  unfold spec_l05Count_lo3 at h
  split at h
  · cases h; exact ⟨(_, _, _), rfl, rfl⟩
  · cases h
noncomputable def spec_l05Count_t (A : List (List TC)) : Tr (Int) := (.ite ((spec_l05Count_o3_1 A (1 : Int) (0 : Int)) = true) (.ok (spec_l05Count_u3_1 A (1 : Int) (0 : Int)))
  .no)
def spec_l05Count_mk (p : Int) : Res := [(false, [⟨.int .i64, .sh, TC.i p⟩])]
noncomputable def spec_l05Count_c (A : List (List TC)) : Bool := (spec_l05Count_o3_1 A (1 : Int) (0 : Int))
noncomputable def spec_l05Count_v (A : List (List TC)) : Int := (spec_l05Count_u3_1 A (1 : Int) (0 : Int))
theorem spec_l05Count_l (A : List (List TC)) : (spec_l05Count_c A) = true → (spec_l05Count_t A).val = some (spec_l05Count_v A) := by
  intro h
  have hc0 : (spec_l05Count_o3_1 A (1 : Int) (0 : Int)) = true := h
  unfold spec_l05Count_t
  exact (Tr.t hc0 rfl)
noncomputable def spec_l05Count_S : List Arg → Option (Bool × Res) := fun xs => match xs with
  | [(false, [(.slice 2, TC.l A)])] => some ((spec_l05Count_c A), spec_l05Count_mk (spec_l05Count_v A))
  | _ => .none
theorem spec_l05Count_e (A : List (List TC)) : runF tab FT D6 live 124 spec_l05Count_lo [(false, [(.slice 2, TC.l A)])] = (spec_l05Count_t A).run fun p => some (spec_l05Count_mk p) := by kernel_rfl
theorem spec_l05Count_s : ∀ xs r, spec_l05Count_S xs = some (true, r) → runF tab FT D6 live 124 spec_l05Count_lo xs = some r := by
  intro xs r h
  unfold spec_l05Count_S at h
  split at h
  · simp only [Option.some.injEq, Prod.mk.injEq] at h
    obtain ⟨h1, rfl⟩ := h
    exact fun_told (spec_l05Count_e _) (spec_l05Count_l _) h1
  · cases h
noncomputable def D7 : Dt := also D6 124 spec_l05Count_S
theorem d7 : DOk Go.Proofs.Try.prog tab D7 := d6.also mixed_ok tab_ok names_ok (fnLoops_one (by kernel_rfl) spec_l05Count_is3) spec_l05Count_s
/-! spec_l25Fits -/
noncomputable def spec_l25Fits_t (a0 : Int) : Tr (Bool) := .ok (spec_l00In_v a0 (-1000000000000 : Int) (1000000000000 : Int))
def spec_l25Fits_mk (p : Bool) : Res := [(false, [⟨.bool, .sh, TC.b p⟩])]
noncomputable def spec_l25Fits_c (a0 : Int) : Bool := true
noncomputable def spec_l25Fits_v (a0 : Int) : Bool := (spec_l00In_v a0 (-1000000000000 : Int) (1000000000000 : Int))
theorem spec_l25Fits_l (a0 : Int) : (spec_l25Fits_c a0) = true → (spec_l25Fits_t a0).val = some (spec_l25Fits_v a0) := by
  intro h
  skip
  unfold spec_l25Fits_t spec_l25Fits_v
  exact rfl
noncomputable def spec_l25Fits_S : List Arg → Option (Bool × Res) := fun xs => match xs with
  | [(false, [(.int .i64, TC.i a0)])] => some (true, spec_l25Fits_mk (spec_l25Fits_v a0))
  | _ => .none
theorem spec_l25Fits_e (a0 : Int) : runF tab FT D7 live 127 noLoops [(false, [(.int .i64, TC.i a0)])] = (spec_l25Fits_t a0).run fun p => some (spec_l25Fits_mk p) := by kernel_rfl
theorem spec_l25Fits_s : ∀ xs r, spec_l25Fits_S xs = some (true, r) → runF tab FT D7 live 127 noLoops xs = some r := by
  intro xs r h
  unfold spec_l25Fits_S at h
  split at h
  · simp only [Option.some.injEq, Prod.mk.injEq] at h
    obtain ⟨h1, rfl⟩ := h
    exact fun_told (spec_l25Fits_e _) (spec_l25Fits_l _) rfl
  · cases h
noncomputable def D8 : Dt := also D7 127 spec_l25Fits_S
theorem d8 : DOk Go.Proofs.Try.prog tab D8 := d7.also mixed_ok tab_ok names_ok noLoops_ok spec_l25Fits_s
/-! spec_l25Ok -/
abbrev spec_l25Ok_4_σ := List TC × Int
abbrev spec_l25Ok_4_ω := (Unit) ⊕ (Unit)
noncomputable def spec_l25Ok_k4_1 (p : List TC) (i : Int) : Bool := ((nth p 1).list).all (inR (-1000000000000) 1000000000000)
noncomputable def spec_l25Ok_o4_2 (p : List TC) (i : Int) : Bool := is (i = 0 ∧ Typed tab (.slice 2) (.l ((nth p 1).list)))
noncomputable def spec_l25Ok_u4_2 (p : List TC) (i : Int) : Unit := ()
noncomputable def spec_l25Ok_o4_3 (p : List TC) (i : Int) : Bool := is (i = 0 ∧ Typed tab (.slice 2) (.l ((nth p 1).list)))
noncomputable def spec_l25Ok_u4_3 (p : List TC) (i : Int) : Unit := ()
noncomputable def spec_l25Ok_4_fin (p : List TC) (i : Int) : Told spec_l25Ok_4_ω := (.br (spec_l25Ok_k4_1 p i) (.leaf (spec_l25Ok_o4_2 p i) (.inr (spec_l25Ok_u4_2 p i))) (.leaf (spec_l25Ok_o4_3 p i) (.inl (spec_l25Ok_u4_3 p i))))
noncomputable def spec_l25Ok_4_step (p : List TC) (i : Int) : Tr (spec_l25Ok_4_σ ⊕ spec_l25Ok_4_ω) := (.ite ((decide (i < (((nth p 1).list).length : Int))) = true) (.ite ((0 : Int) ≤ i ∧ i < (((nth p 1).list).length : Int)) (.ite ((!(spec_l00In_v ((nth (row ((nth p 1).list) i) 0).int) (-1000000000000 : Int) (1000000000000 : Int))) = true) (.ok (.inr (.inl ())))
    (.ok (.inl (p, (IntKind.wrap .i64 (i + (1 : Int)))))))
   .no)
  (.ok (.inr (.inr ()))))
def spec_l25Ok_4_sl (x : spec_l25Ok_4_σ) : List Slot := [⟨.val false [⟨.ptr 43, .sh, TC.p (x.1)⟩], ⟨0, 0⟩⟩, ⟨.val false [⟨.int .i64, .sh, TC.i (x.2)⟩], ⟨0, 0⟩⟩]
def spec_l25Ok_4_out : spec_l25Ok_4_ω → Ex × List Slot := (Sum.elim (fun x => (.ret, [⟨.val false [⟨.bool, .sh, TC.b false⟩], ⟨0, 0⟩⟩])) (fun x => (.exit 0, [Slot.none])))
noncomputable def spec_l25Ok_lo4 : List Slot → Option (Told (Ex × List Slot)) := fun s => match s with
  | [⟨.val false [⟨.ptr 43, .sh, TC.p p⟩], ⟨0, 0⟩⟩, ⟨.val false [⟨.int .i64, .sh, TC.i i⟩], ⟨0, 0⟩⟩] => some (((spec_l25Ok_4_fin p i)).map spec_l25Ok_4_out)
  | _ => .none
noncomputable def spec_l25Ok_lo : LoopTeller := fun r s => bif Nat.beq r 4 then spec_l25Ok_lo4 s else .none
theorem spec_l25Ok_4_r (p : List TC) (i : Int) (fuel : Nat) : rounds (rnd tab FT D8 live 100 spec_l25Ok_lo 0 4) leave (fuel + 1) (spec_l25Ok_4_sl (p, i)) = ((spec_l25Ok_4_step p i)).run (goOn (fun s => rounds (rnd tab FT D8 live 100 spec_l25Ok_lo 0 4) leave fuel (spec_l25Ok_4_sl s)) fun w => some (spec_l25Ok_4_out w)) := by kernel_rfl
noncomputable def spec_l25Ok_4_st : spec_l25Ok_4_σ → Tr (spec_l25Ok_4_σ ⊕ spec_l25Ok_4_ω) := fun x => (spec_l25Ok_4_step (x.1) (x.2))
theorem spec_l25Ok_4_h (p : List TC) (i : Int) (w : spec_l25Ok_4_ω) : ((spec_l25Ok_4_fin p i)).val = some w → ∃ fuel, loopN spec_l25Ok_4_st fuel (p, i) = some w := by
  intro h
  have key : Typed tab (.slice 2) (.l ((nth p 1).list)) → loopN spec_l25Ok_4_st (((nth p 1).list).length + 1) (p, (0 : Int)) = some (if ((nth p 1).list).all (inR (-1000000000000) 1000000000000) = true then (.inr ()) else (.inl ())) := by
    intro ht
    have hlen : ((nth p 1).list).length ≤ 140737488351232 := by have := typed_room ht; simp only [show (tab 2).bytes = 8 from rfl] at this; omega
    have key := loopN_scan (step := spec_l25Ok_4_st) ((nth p 1).list) [] (inR (-1000000000000) 1000000000000) (fun a _ => a) (fun i a => (p, (i : Int))) (fun a => (.inr ())) (fun i a => (.inl ())) (fun i a hi => ?_) (fun a => ?_) ((nth p 1).list).length 0 () (by omega)
    · first | (rw [Nat.zero_add] at key; exact key) | exact key
    · skip
      show (spec_l25Ok_4_step p (i : Int)).val = _
      unfold spec_l25Ok_4_step
      refine Tr.t (by simp; omega) ?_
      skip
      refine Tr.t (by first | omega | (constructor <;> omega)) ?_
      refine Tr.b (P := (inR (-1000000000000) 1000000000000) (((nth p 1).list).getD i [])) (fun hP => ?_) (fun _ => rfl)
      rw [Tr.val_ok, wrap64 (i := (i : Int) + 1) (by omega) (by omega)]; rfl
    · show (spec_l25Ok_4_step p (((nth p 1).list).length : Int)).val = _
      refine Tr.n (by simp) ?_
      rfl
  simp only [spec_l25Ok_4_fin, Told.val] at h
  cases hk : ((nth p 1).list).all (inR (-1000000000000) 1000000000000) with
  | true =>
    rw [if_pos (show spec_l25Ok_k4_1 p i = true from hk)] at h
    split at h
    · rename_i ho
      obtain ⟨rfl, ht⟩ := is_iff.1 ho
      cases h
      refine ⟨_, (key ht).trans ?_⟩
      rw [hk]; rfl
    · cases h
  | false =>
    rw [if_neg (show ¬spec_l25Ok_k4_1 p i = true from by rw [show spec_l25Ok_k4_1 p i = (((nth p 1).list).all (inR (-1000000000000) 1000000000000)) from rfl, hk]; simp)] at h
    split at h
    · rename_i ho
      obtain ⟨rfl, ht⟩ := is_iff.1 ho
      cases h
      refine ⟨_, (key ht).trans ?_⟩
      rw [hk]; rfl
    · cases h
theorem spec_l25Ok_is4 : LoopIs tab FT D8 live 100 spec_l25Ok_lo 0 4 := by
  refine loop_told (sl := spec_l25Ok_4_sl) (step := spec_l25Ok_4_st) (out := spec_l25Ok_4_out) (lor := spec_l25Ok_lo4) (fin := fun x => (spec_l25Ok_4_fin (x.1) (x.2))) (fun _ => rfl) ?_ (fun x n => spec_l25Ok_4_r x.1 x.2 n) (fun x w => spec_l25Ok_4_h x.1 x.2 w)
  intro s t h
  unfold spec_l25Ok_lo4 at h
  split at h
  · cases h; exact ⟨(_, _), rfl, rfl⟩
  · cases h
noncomputable def spec_l25Ok_t (p : List TC) : Tr (Bool) := (.ite ((spec_l05Dims_c ((nth p 0).list)) = true) (.ite ((!(spec_l05Dims_v ((nth p 0).list))) = true) (.ok false)
   (.ite ((spec_l05Count_c ((nth p 0).list)) = true) (.ite ((!((((nth p 1).list).length : Int) == (spec_l05Count_v ((nth p 0).list)))) = true) (.ok false)
     (.ite ((spec_l25Ok_k4_1 p (0 : Int)) = true) (.ite ((spec_l25Ok_o4_2 p (0 : Int)) = true) (.ok true)
       .no)
      (.ite ((spec_l25Ok_o4_3 p (0 : Int)) = true) (.ok false)
       .no)))
    .no))
  .no)
def spec_l25Ok_mk (p : Bool) : Res := [(false, [⟨.bool, .sh, TC.b p⟩])]
noncomputable def spec_l25Ok_c (p : List TC) : Bool := is (((spec_l05Dims_c ((nth p 0).list)) = true) ∧ ((spec_l05Count_c ((nth p 0).list)) = true) ∧ ((spec_l25Ok_o4_2 p (0 : Int)) = true) ∧ ((spec_l25Ok_o4_3 p (0 : Int)) = true))
noncomputable def spec_l25Ok_v (p : List TC) : Bool := (bif (!(spec_l05Dims_v ((nth p 0).list))) then false else (bif (!((((nth p 1).list).length : Int) == (spec_l05Count_v ((nth p 0).list)))) then false else (bif (spec_l25Ok_k4_1 p (0 : Int)) then true else false)))
theorem spec_l25Ok_l (p : List TC) : (spec_l25Ok_c p) = true → (spec_l25Ok_t p).val = some (spec_l25Ok_v p) := by
  intro h
  obtain ⟨g0, g1, g2, g3⟩ := is_iff.1 h
  unfold spec_l25Ok_t spec_l25Ok_v
  exact (Tr.t g0 (Tr.s rfl (Tr.t g1 (Tr.s rfl (Tr.s (Tr.t g2 rfl) (Tr.t g3 rfl))))))
noncomputable def spec_l25Ok_S : List Arg → Option (Bool × Res) := fun xs => match xs with
  | [(false, [(.ptr 43, TC.p p)])] => some ((spec_l25Ok_c p), spec_l25Ok_mk (spec_l25Ok_v p))
  | _ => .none
theorem spec_l25Ok_e (p : List TC) : runF tab FT D8 live 100 spec_l25Ok_lo [(false, [(.ptr 43, TC.p p)])] = (spec_l25Ok_t p).run fun p => some (spec_l25Ok_mk p) := by kernel_rfl
theorem spec_l25Ok_s : ∀ xs r, spec_l25Ok_S xs = some (true, r) → runF tab FT D8 live 100 spec_l25Ok_lo xs = some r := by
  intro xs r h
  unfold spec_l25Ok_S at h
  split at h
  · simp only [Option.some.injEq, Prod.mk.injEq] at h
    obtain ⟨h1, rfl⟩ := h
    exact fun_told (spec_l25Ok_e _) (spec_l25Ok_l _) h1
  · cases h
noncomputable def D9 : Dt := also D8 100 spec_l25Ok_S
theorem d9 : DOk Go.Proofs.Try.prog tab D9 := d8.also mixed_ok tab_ok names_ok (fnLoops_one (by kernel_rfl) spec_l25Ok_is4) spec_l25Ok_s
/-! spec_ValidNumbers -/
noncomputable def spec_ValidNumbers_t (a0 : List (List TC)) (a1 : List (List TC)) : Tr (Bool) := (.ite ((spec_l25Ok_c [TC.l a0, TC.l a1]) = true) (.ok (spec_l25Ok_v [TC.l a0, TC.l a1]))
  .no)
def spec_ValidNumbers_mk (p : Bool) : Res := [(false, [⟨.bool, .sh, TC.b p⟩])]
noncomputable def spec_ValidNumbers_c (a0 : List (List TC)) (a1 : List (List TC)) : Bool := (spec_l25Ok_c [TC.l a0, TC.l a1])
noncomputable def spec_ValidNumbers_v (a0 : List (List TC)) (a1 : List (List TC)) : Bool := (spec_l25Ok_v [TC.l a0, TC.l a1])
theorem spec_ValidNumbers_l (a0 : List (List TC)) (a1 : List (List TC)) : (spec_ValidNumbers_c a0 a1) = true → (spec_ValidNumbers_t a0 a1).val = some (spec_ValidNumbers_v a0 a1) := by
  intro h
  have hc0 : (spec_l25Ok_c [TC.l a0, TC.l a1]) = true := h
  unfold spec_ValidNumbers_t
  exact (Tr.t hc0 rfl)
noncomputable def spec_ValidNumbers_S : List Arg → Option (Bool × Res) := fun xs => match xs with
  | [(true, [(.slice 2, TC.l a0), (.slice 2, TC.l a1)])] => some ((spec_ValidNumbers_c a0 a1), spec_ValidNumbers_mk (spec_ValidNumbers_v a0 a1))
  | _ => .none
theorem spec_ValidNumbers_e (a0 : List (List TC)) (a1 : List (List TC)) : runF tab FT D9 live 51 noLoops [(true, [(.slice 2, TC.l a0), (.slice 2, TC.l a1)])] = (spec_ValidNumbers_t a0 a1).run fun p => some (spec_ValidNumbers_mk p) := by kernel_rfl
theorem spec_ValidNumbers_s : ∀ xs r, spec_ValidNumbers_S xs = some (true, r) → runF tab FT D9 live 51 noLoops xs = some r := by
  intro xs r h
  unfold spec_ValidNumbers_S at h
  split at h
  · simp only [Option.some.injEq, Prod.mk.injEq] at h
    obtain ⟨h1, rfl⟩ := h
    exact fun_told (spec_ValidNumbers_e _ _) (spec_ValidNumbers_l _ _) h1
  · cases h
noncomputable def D10 : Dt := also D9 51 spec_ValidNumbers_S
theorem d10 : DOk Go.Proofs.Try.prog tab D10 := d9.also mixed_ok tab_ok names_ok noLoops_ok spec_ValidNumbers_s
/-! impl_within -/
noncomputable def impl_within_t (a0 : Int) (a1 : Int) (a2 : Int) : Tr (Bool) := (.ite ((decide (a0 ≥ a1)) = true) (.ok (decide (a0 ≤ a2)))
  (.ok false))
def impl_within_mk (p : Bool) : Res := [(false, [⟨.bool, .sh, TC.b p⟩])]
noncomputable def impl_within_c (a0 : Int) (a1 : Int) (a2 : Int) : Bool := true
noncomputable def impl_within_v (a0 : Int) (a1 : Int) (a2 : Int) : Bool := (bif (decide (a0 ≥ a1)) then (decide (a0 ≤ a2)) else false)
theorem impl_within_l (a0 : Int) (a1 : Int) (a2 : Int) : (impl_within_c a0 a1 a2) = true → (impl_within_t a0 a1 a2).val = some (impl_within_v a0 a1 a2) := by
  intro h
  skip
  unfold impl_within_t impl_within_v
  exact (Tr.s rfl rfl)
noncomputable def impl_within_S : List Arg → Option (Bool × Res) := fun xs => match xs with
  | [(false, [(.int .i64, TC.i a0)]), (false, [(.int .i64, TC.i a1)]), (false, [(.int .i64, TC.i a2)])] => some (true, impl_within_mk (impl_within_v a0 a1 a2))
  | _ => .none
theorem impl_within_e (a0 : Int) (a1 : Int) (a2 : Int) : runF tab FT D10 live 56 noLoops [(false, [(.int .i64, TC.i a0)]), (false, [(.int .i64, TC.i a1)]), (false, [(.int .i64, TC.i a2)])] = (impl_within_t a0 a1 a2).run fun p => some (impl_within_mk p) := by kernel_rfl
theorem impl_within_s : ∀ xs r, impl_within_S xs = some (true, r) → runF tab FT D10 live 56 noLoops xs = some r := by
  intro xs r h
  unfold impl_within_S at h
  split at h
  · simp only [Option.some.injEq, Prod.mk.injEq] at h
    obtain ⟨h1, rfl⟩ := h
    exact fun_told (impl_within_e _ _ _) (impl_within_l _ _ _) rfl
  · cases h
noncomputable def D11 : Dt := also D10 56 impl_within_S
theorem d11 : DOk Go.Proofs.Try.prog tab D11 := d10.also mixed_ok tab_ok names_ok noLoops_ok impl_within_s
/-! impl_allWithin_1 -/
noncomputable def impl_allWithin_1_t (a0 : Int) (a1 : List TC) (a2 : List TC) : Tr (Bool) := .ok (!(impl_within_v a0 ((nth a1 0).int) ((nth a2 0).int)))
def impl_allWithin_1_mk (p : Bool) : Res := [(false, [⟨.bool, .sh, TC.b p⟩])]
noncomputable def impl_allWithin_1_c (a0 : Int) (a1 : List TC) (a2 : List TC) : Bool := true
noncomputable def impl_allWithin_1_v (a0 : Int) (a1 : List TC) (a2 : List TC) : Bool := (!(impl_within_v a0 ((nth a1 0).int) ((nth a2 0).int)))
theorem impl_allWithin_1_l (a0 : Int) (a1 : List TC) (a2 : List TC) : (impl_allWithin_1_c a0 a1 a2) = true → (impl_allWithin_1_t a0 a1 a2).val = some (impl_allWithin_1_v a0 a1 a2) := by
  intro h
  skip
  unfold impl_allWithin_1_t impl_allWithin_1_v
  exact rfl
noncomputable def impl_allWithin_1_S : List Arg → Option (Bool × Res) := fun xs => match xs with
  | [(false, [(.int .i64, TC.i a0)]), (false, [(.ptr 2, TC.p a1)]), (false, [(.ptr 2, TC.p a2)])] => some (true, impl_allWithin_1_mk (impl_allWithin_1_v a0 a1 a2))
  | _ => .none
theorem impl_allWithin_1_e (a0 : Int) (a1 : List TC) (a2 : List TC) : runF tab FT D11 live 126 noLoops [(false, [(.int .i64, TC.i a0)]), (false, [(.ptr 2, TC.p a1)]), (false, [(.ptr 2, TC.p a2)])] = (impl_allWithin_1_t a0 a1 a2).run fun p => some (impl_allWithin_1_mk p) := by kernel_rfl
theorem impl_allWithin_1_s : ∀ xs r, impl_allWithin_1_S xs = some (true, r) → runF tab FT D11 live 126 noLoops xs = some r := by
  intro xs r h
  unfold impl_allWithin_1_S at h
  split at h
  · simp only [Option.some.injEq, Prod.mk.injEq] at h
    obtain ⟨h1, rfl⟩ := h
    exact fun_told (impl_allWithin_1_e _ _ _) (impl_allWithin_1_l _ _ _) rfl
  · cases h
noncomputable def D12 : Dt := also D11 126 impl_allWithin_1_S
theorem d12 : DOk Go.Proofs.Try.prog tab D12 := d11.also mixed_ok tab_ok names_ok noLoops_ok impl_allWithin_1_s
/-! slices_IndexFunc_int64_int64 -/
abbrev slices_IndexFunc_int64_int64_2_σ := List (List TC) × List TC × List TC × Int × Int
abbrev slices_IndexFunc_int64_int64_2_ω := (Int) ⊕ (Unit)
noncomputable def slices_IndexFunc_int64_int64_k2_1 (A : List (List TC)) (lw : List TC) (hg : List TC) (m : Int) (i : Int) : Bool := A.all (inR (nth lw 0).int (nth hg 0).int)
noncomputable def slices_IndexFunc_int64_int64_o2_2 (A : List (List TC)) (lw : List TC) (hg : List TC) (m : Int) (i : Int) : Bool := is (i = 0 ∧ Typed tab (.slice 2) (.l A) ∧ m = (A.length : Int))
noncomputable def slices_IndexFunc_int64_int64_u2_2 (A : List (List TC)) (lw : List TC) (hg : List TC) (m : Int) (i : Int) : Unit := ()
noncomputable def slices_IndexFunc_int64_int64_o2_3 (A : List (List TC)) (lw : List TC) (hg : List TC) (m : Int) (i : Int) : Bool := is (i = 0 ∧ Typed tab (.slice 2) (.l A) ∧ m = (A.length : Int))
noncomputable def slices_IndexFunc_int64_int64_u2_3 (A : List (List TC)) (lw : List TC) (hg : List TC) (m : Int) (i : Int) : Int := (Int.ofNat (A.findIdx fun x => !(inR (nth lw 0).int (nth hg 0).int) x))
noncomputable def slices_IndexFunc_int64_int64_2_fin (A : List (List TC)) (lw : List TC) (hg : List TC) (m : Int) (i : Int) : Told slices_IndexFunc_int64_int64_2_ω := (.br (slices_IndexFunc_int64_int64_k2_1 A lw hg m i) (.leaf (slices_IndexFunc_int64_int64_o2_2 A lw hg m i) (.inr (slices_IndexFunc_int64_int64_u2_2 A lw hg m i))) (.leaf (slices_IndexFunc_int64_int64_o2_3 A lw hg m i) (.inl (slices_IndexFunc_int64_int64_u2_3 A lw hg m i))))
noncomputable def slices_IndexFunc_int64_int64_2_step (A : List (List TC)) (lw : List TC) (hg : List TC) (m : Int) (i : Int) : Tr (slices_IndexFunc_int64_int64_2_σ ⊕ slices_IndexFunc_int64_int64_2_ω) := (.ite ((decide (i < m)) = true) (.ite ((0 : Int) ≤ i ∧ i < (A.length : Int)) (.ite ((!(impl_within_v ((nth (row A i) 0).int) ((nth lw 0).int) ((nth hg 0).int))) = true) (.ok (.inr (.inl i)))
    (.ok (.inl (A, lw, hg, m, (IntKind.wrap .i64 (i + (1 : Int)))))))
   .no)
  (.ok (.inr (.inr ()))))
def slices_IndexFunc_int64_int64_2_sl (x : slices_IndexFunc_int64_int64_2_σ) : List Slot := [⟨.val false [⟨.slice 2, .sh, TC.l (x.1)⟩], ⟨0, 0⟩⟩, ⟨.val false [⟨.func, .sh, TC.f 126 [(2, x.2.1), (2, x.2.2.1)]⟩], ⟨0, 0⟩⟩, ⟨.val false [⟨.int .i64, .sh, TC.i (x.2.2.2.1)⟩], ⟨0, 0⟩⟩, ⟨.val false [⟨.int .i64, .sh, TC.i (x.2.2.2.2)⟩], ⟨0, 0⟩⟩]
def slices_IndexFunc_int64_int64_2_out : slices_IndexFunc_int64_int64_2_ω → Ex × List Slot := (Sum.elim (fun x => (.ret, [⟨.val false [⟨.int .i64, .sh, TC.i x⟩], ⟨0, 0⟩⟩])) (fun x => (.exit 0, [Slot.none])))
noncomputable def slices_IndexFunc_int64_int64_lo2 : List Slot → Option (Told (Ex × List Slot)) := fun s => match s with
  | [⟨.val false [⟨.slice 2, .sh, TC.l A⟩], ⟨0, 0⟩⟩, ⟨.val false [⟨.func, .sh, TC.f 126 [(2, lw), (2, hg)]⟩], ⟨0, 0⟩⟩, ⟨.val false [⟨.int .i64, .sh, TC.i m⟩], ⟨0, 0⟩⟩, ⟨.val false [⟨.int .i64, .sh, TC.i i⟩], ⟨0, 0⟩⟩] => some (((slices_IndexFunc_int64_int64_2_fin A lw hg m i)).map slices_IndexFunc_int64_int64_2_out)
  | _ => .none
noncomputable def slices_IndexFunc_int64_int64_lo : LoopTeller := fun r s => bif Nat.beq r 2 then slices_IndexFunc_int64_int64_lo2 s else .none
theorem slices_IndexFunc_int64_int64_2_r (A : List (List TC)) (lw : List TC) (hg : List TC) (m : Int) (i : Int) (fuel : Nat) : rounds (rnd tab FT D12 live 141 slices_IndexFunc_int64_int64_lo 0 2) leave (fuel + 1) (slices_IndexFunc_int64_int64_2_sl (A, lw, hg, m, i)) = ((slices_IndexFunc_int64_int64_2_step A lw hg m i)).run (goOn (fun s => rounds (rnd tab FT D12 live 141 slices_IndexFunc_int64_int64_lo 0 2) leave fuel (slices_IndexFunc_int64_int64_2_sl s)) fun w => some (slices_IndexFunc_int64_int64_2_out w)) := by kernel_rfl
noncomputable def slices_IndexFunc_int64_int64_2_st : slices_IndexFunc_int64_int64_2_σ → Tr (slices_IndexFunc_int64_int64_2_σ ⊕ slices_IndexFunc_int64_int64_2_ω) := fun x => (slices_IndexFunc_int64_int64_2_step (x.1) (x.2.1) (x.2.2.1) (x.2.2.2.1) (x.2.2.2.2))
theorem slices_IndexFunc_int64_int64_2_h (A : List (List TC)) (lw : List TC) (hg : List TC) (m : Int) (i : Int) (w : slices_IndexFunc_int64_int64_2_ω) : ((slices_IndexFunc_int64_int64_2_fin A lw hg m i)).val = some w → ∃ fuel, loopN slices_IndexFunc_int64_int64_2_st fuel (A, lw, hg, m, i) = some w := by
  intro h
  have key : Typed tab (.slice 2) (.l A) → loopN slices_IndexFunc_int64_int64_2_st (A.length + 1) (A, lw, hg, (A.length : Int), (0 : Int)) = some (if A.all (inR (nth lw 0).int (nth hg 0).int) = true then (.inr ()) else (.inl (Int.ofNat (A.findIdx fun x => !(inR (nth lw 0).int (nth hg 0).int) x)))) := by
    intro ht
    have hlen : A.length ≤ 140737488351232 := by have := typed_room ht; simp only [show (tab 2).bytes = 8 from rfl] at this; omega
    have key := loopN_scan (step := slices_IndexFunc_int64_int64_2_st) A [] (inR (nth lw 0).int (nth hg 0).int) (fun a _ => a) (fun i a => (A, lw, hg, (A.length : Int), (i : Int))) (fun a => (.inr ())) (fun i a => (.inl (i : Int))) (fun i a hi => ?_) (fun a => ?_) A.length 0 () (by omega)
    · first | (rw [Nat.zero_add] at key; exact key) | exact key
    · skip
      show (slices_IndexFunc_int64_int64_2_step A lw hg (A.length : Int) (i : Int)).val = _
      unfold slices_IndexFunc_int64_int64_2_step
      refine Tr.t (by simp; omega) ?_
      skip
      refine Tr.t (by first | omega | (constructor <;> omega)) ?_
      refine Tr.b (P := (inR (nth lw 0).int (nth hg 0).int) (A.getD i [])) (fun hP => ?_) (fun _ => rfl)
      rw [Tr.val_ok, wrap64 (i := (i : Int) + 1) (by omega) (by omega)]; rfl
    · show (slices_IndexFunc_int64_int64_2_step A lw hg (A.length : Int) (A.length : Int)).val = _
      refine Tr.n (by simp) ?_
      rfl
  simp only [slices_IndexFunc_int64_int64_2_fin, Told.val] at h
  cases hk : A.all (inR (nth lw 0).int (nth hg 0).int) with
  | true =>
    rw [if_pos (show slices_IndexFunc_int64_int64_k2_1 A lw hg m i = true from hk)] at h
    split at h
    · rename_i ho
      obtain ⟨rfl, ht, rfl⟩ := is_iff.1 ho
      cases h
      refine ⟨_, (key ht).trans ?_⟩
      rw [hk]; rfl
    · cases h
  | false =>
    rw [if_neg (show ¬slices_IndexFunc_int64_int64_k2_1 A lw hg m i = true from by rw [show slices_IndexFunc_int64_int64_k2_1 A lw hg m i = (A.all (inR (nth lw 0).int (nth hg 0).int)) from rfl, hk]; simp)] at h
    split at h
    · rename_i ho
      obtain ⟨rfl, ht, rfl⟩ := is_iff.1 ho
      cases h
      refine ⟨_, (key ht).trans ?_⟩
      rw [hk]; rfl
    · cases h
theorem slices_IndexFunc_int64_int64_is2 : LoopIs tab FT D12 live 141 slices_IndexFunc_int64_int64_lo 0 2 := by
  refine loop_told (sl := slices_IndexFunc_int64_int64_2_sl) (step := slices_IndexFunc_int64_int64_2_st) (out := slices_IndexFunc_int64_int64_2_out) (lor := slices_IndexFunc_int64_int64_lo2) (fin := fun x => (slices_IndexFunc_int64_int64_2_fin (x.1) (x.2.1) (x.2.2.1) (x.2.2.2.1) (x.2.2.2.2))) (fun _ => rfl) ?_ (fun x n => slices_IndexFunc_int64_int64_2_r x.1 x.2.1 x.2.2.1 x.2.2.2.1 x.2.2.2.2 n) (fun x w => slices_IndexFunc_int64_int64_2_h x.1 x.2.1 x.2.2.1 x.2.2.2.1 x.2.2.2.2 w)
  intro s t h
  unfold slices_IndexFunc_int64_int64_lo2 at h
  split at h
  · cases h; exact ⟨(_, _, _, _, _), rfl, rfl⟩
  · cases h
noncomputable def slices_IndexFunc_int64_int64_t (A : List (List TC)) (lw : List TC) (hg : List TC) : Tr (Int) := (.ite ((slices_IndexFunc_int64_int64_k2_1 A lw hg (A.length : Int) (0 : Int)) = true) (.ite ((slices_IndexFunc_int64_int64_o2_2 A lw hg (A.length : Int) (0 : Int)) = true) (.ok (-1 : Int))
   .no)
  (.ite ((slices_IndexFunc_int64_int64_o2_3 A lw hg (A.length : Int) (0 : Int)) = true) (.ok (slices_IndexFunc_int64_int64_u2_3 A lw hg (A.length : Int) (0 : Int)))
   .no))
def slices_IndexFunc_int64_int64_mk (p : Int) : Res := [(false, [⟨.int .i64, .sh, TC.i p⟩])]
noncomputable def slices_IndexFunc_int64_int64_c (A : List (List TC)) (lw : List TC) (hg : List TC) : Bool := is (Typed tab (.slice 2) (.l A))
noncomputable def slices_IndexFunc_int64_int64_v (A : List (List TC)) (lw : List TC) (hg : List TC) : Int := if (A.all (inR (nth lw 0).int (nth hg 0).int)) = true then -1 else (Int.ofNat (A.findIdx fun x => !(inR (nth lw 0).int (nth hg 0).int) x))
theorem slices_IndexFunc_int64_int64_l (A : List (List TC)) (lw : List TC) (hg : List TC) : (slices_IndexFunc_int64_int64_c A lw hg) = true → (slices_IndexFunc_int64_int64_t A lw hg).val = some (slices_IndexFunc_int64_int64_v A lw hg) := by
  intro h
  have ht := is_iff.1 h
  unfold slices_IndexFunc_int64_int64_t
  cases hk : A.all (inR (nth lw 0).int (nth hg 0).int) with
  | true =>
    refine Tr.t (show A.all (inR (nth lw 0).int (nth hg 0).int) = true from hk) ?_
    refine Tr.t (by first | (apply is_true; and_intros <;> (first | rfl | assumption | exact (by first | (apply is_true; and_intros <;> (first | rfl | assumption | exact (by first | (apply is_true; and_intros <;> (first | rfl | assumption | exact (by first | (apply is_true; and_intros <;> (first | rfl | assumption | exact (by first | (apply is_true; and_intros <;> (first | rfl | assumption))))))))))))))) ?_
    show _ = some (slices_IndexFunc_int64_int64_v A lw hg); unfold slices_IndexFunc_int64_int64_v; rw [if_pos hk]; rfl
  | false =>
    refine Tr.n (show ¬A.all (inR (nth lw 0).int (nth hg 0).int) = true from by rw [hk]; simp) ?_
    refine Tr.t (by first | (apply is_true; and_intros <;> (first | rfl | assumption | exact (by first | (apply is_true; and_intros <;> (first | rfl | assumption | exact (by first | (apply is_true; and_intros <;> (first | rfl | assumption | exact (by first | (apply is_true; and_intros <;> (first | rfl | assumption | exact (by first | (apply is_true; and_intros <;> (first | rfl | assumption))))))))))))))) ?_
    show _ = some (slices_IndexFunc_int64_int64_v A lw hg); unfold slices_IndexFunc_int64_int64_v; rw [if_neg (by rw [hk]; simp)]; rfl
noncomputable def slices_IndexFunc_int64_int64_S : List Arg → Option (Bool × Res) := fun xs => match xs with
  | [(false, [(.slice 2, TC.l A)]), (false, [(.func, TC.f 126 [(2, lw), (2, hg)])])] => some ((slices_IndexFunc_int64_int64_c A lw hg), slices_IndexFunc_int64_int64_mk (slices_IndexFunc_int64_int64_v A lw hg))
  | _ => .none
theorem slices_IndexFunc_int64_int64_e (A : List (List TC)) (lw : List TC) (hg : List TC) : runF tab FT D12 live 141 slices_IndexFunc_int64_int64_lo [(false, [(.slice 2, TC.l A)]), (false, [(.func, TC.f 126 [(2, lw), (2, hg)])])] = (slices_IndexFunc_int64_int64_t A lw hg).run fun p => some (slices_IndexFunc_int64_int64_mk p) := by kernel_rfl
theorem slices_IndexFunc_int64_int64_s : ∀ xs r, slices_IndexFunc_int64_int64_S xs = some (true, r) → runF tab FT D12 live 141 slices_IndexFunc_int64_int64_lo xs = some r := by
  intro xs r h
  unfold slices_IndexFunc_int64_int64_S at h
  split at h
  · simp only [Option.some.injEq, Prod.mk.injEq] at h
    obtain ⟨h1, rfl⟩ := h
    exact fun_told (slices_IndexFunc_int64_int64_e _ _ _) (slices_IndexFunc_int64_int64_l _ _ _) h1
  · cases h
noncomputable def D13 : Dt := also D12 141 slices_IndexFunc_int64_int64_S
theorem d13 : DOk Go.Proofs.Try.prog tab D13 := d12.also mixed_ok tab_ok names_ok (fnLoops_one (by kernel_rfl) slices_IndexFunc_int64_int64_is2) slices_IndexFunc_int64_int64_s
/-! slices_ContainsFunc_int64_int64 -/
noncomputable def slices_ContainsFunc_int64_int64_t (A : List (List TC)) (lw : List TC) (hg : List TC) : Tr (Bool) := (.ite ((slices_IndexFunc_int64_int64_c A lw hg) = true) (.ok (decide ((slices_IndexFunc_int64_int64_v A lw hg) ≥ (0 : Int))))
  .no)
def slices_ContainsFunc_int64_int64_mk (p : Bool) : Res := [(false, [⟨.bool, .sh, TC.b p⟩])]
noncomputable def slices_ContainsFunc_int64_int64_c (A : List (List TC)) (lw : List TC) (hg : List TC) : Bool := is (Typed tab (.slice 2) (.l A))
noncomputable def slices_ContainsFunc_int64_int64_v (A : List (List TC)) (lw : List TC) (hg : List TC) : Bool := !(A.all (inR (nth lw 0).int (nth hg 0).int))
theorem slices_ContainsFunc_int64_int64_l (A : List (List TC)) (lw : List TC) (hg : List TC) : (slices_ContainsFunc_int64_int64_c A lw hg) = true → (slices_ContainsFunc_int64_int64_t A lw hg).val = some (slices_ContainsFunc_int64_int64_v A lw hg) := by
  intro h
  have ht := is_iff.1 h
  unfold slices_ContainsFunc_int64_int64_t
  refine Tr.t (by first | (apply is_true; and_intros <;> (first | rfl | assumption | exact (by first | (apply is_true; and_intros <;> (first | rfl | assumption | exact (by first | (apply is_true; and_intros <;> (first | rfl | assumption | exact (by first | (apply is_true; and_intros <;> (first | rfl | assumption | exact (by first | (apply is_true; and_intros <;> (first | rfl | assumption))))))))))))))) ?_
  show some (decide (slices_IndexFunc_int64_int64_v A lw hg ≥ 0)) = some (!(A.all (inR (nth lw 0).int (nth hg 0).int)))
  unfold slices_IndexFunc_int64_int64_v
  cases hk : A.all (inR (nth lw 0).int (nth hg 0).int) <;> simp
noncomputable def slices_ContainsFunc_int64_int64_S : List Arg → Option (Bool × Res) := fun xs => match xs with
  | [(false, [(.slice 2, TC.l A)]), (false, [(.func, TC.f 126 [(2, lw), (2, hg)])])] => some ((slices_ContainsFunc_int64_int64_c A lw hg), slices_ContainsFunc_int64_int64_mk (slices_ContainsFunc_int64_int64_v A lw hg))
  | _ => .none
theorem slices_ContainsFunc_int64_int64_e (A : List (List TC)) (lw : List TC) (hg : List TC) : runF tab FT D13 live 125 noLoops [(false, [(.slice 2, TC.l A)]), (false, [(.func, TC.f 126 [(2, lw), (2, hg)])])] = (slices_ContainsFunc_int64_int64_t A lw hg).run fun p => some (slices_ContainsFunc_int64_int64_mk p) := by kernel_rfl
theorem slices_ContainsFunc_int64_int64_s : ∀ xs r, slices_ContainsFunc_int64_int64_S xs = some (true, r) → runF tab FT D13 live 125 noLoops xs = some r := by
  intro xs r h
  unfold slices_ContainsFunc_int64_int64_S at h
  split at h
  · simp only [Option.some.injEq, Prod.mk.injEq] at h
    obtain ⟨h1, rfl⟩ := h
    exact fun_told (slices_ContainsFunc_int64_int64_e _ _ _) (slices_ContainsFunc_int64_int64_l _ _ _) h1
  · cases h
noncomputable def D14 : Dt := also D13 125 slices_ContainsFunc_int64_int64_S
theorem d14 : DOk Go.Proofs.Try.prog tab D14 := d13.also mixed_ok tab_ok names_ok noLoops_ok slices_ContainsFunc_int64_int64_s
/-! impl_allWithin -/
noncomputable def impl_allWithin_t (a0 : List (List TC)) (a1 : Int) (a2 : Int) : Tr (Bool) := (.ite ((slices_ContainsFunc_int64_int64_c a0 [TC.i a1] [TC.i a2]) = true) (.ok (!(slices_ContainsFunc_int64_int64_v a0 [TC.i a1] [TC.i a2])))
  .no)
def impl_allWithin_mk (p : Bool) : Res := [(false, [⟨.bool, .sh, TC.b p⟩])]
noncomputable def impl_allWithin_c (a0 : List (List TC)) (a1 : Int) (a2 : Int) : Bool := (slices_ContainsFunc_int64_int64_c a0 [TC.i a1] [TC.i a2])
noncomputable def impl_allWithin_v (a0 : List (List TC)) (a1 : Int) (a2 : Int) : Bool := (!(slices_ContainsFunc_int64_int64_v a0 [TC.i a1] [TC.i a2]))
theorem impl_allWithin_l (a0 : List (List TC)) (a1 : Int) (a2 : Int) : (impl_allWithin_c a0 a1 a2) = true → (impl_allWithin_t a0 a1 a2).val = some (impl_allWithin_v a0 a1 a2) := by
  intro h
  have hc0 : (slices_ContainsFunc_int64_int64_c a0 [TC.i a1] [TC.i a2]) = true := h
  unfold impl_allWithin_t
  exact (Tr.t hc0 rfl)
noncomputable def impl_allWithin_S : List Arg → Option (Bool × Res) := fun xs => match xs with
  | [(false, [(.slice 2, TC.l a0)]), (false, [(.int .i64, TC.i a1)]), (false, [(.int .i64, TC.i a2)])] => some ((impl_allWithin_c a0 a1 a2), impl_allWithin_mk (impl_allWithin_v a0 a1 a2))
  | _ => .none
theorem impl_allWithin_e (a0 : List (List TC)) (a1 : Int) (a2 : Int) : runF tab FT D14 live 97 noLoops [(false, [(.slice 2, TC.l a0)]), (false, [(.int .i64, TC.i a1)]), (false, [(.int .i64, TC.i a2)])] = (impl_allWithin_t a0 a1 a2).run fun p => some (impl_allWithin_mk p) := by kernel_rfl
theorem impl_allWithin_s : ∀ xs r, impl_allWithin_S xs = some (true, r) → runF tab FT D14 live 97 noLoops xs = some r := by
  intro xs r h
  unfold impl_allWithin_S at h
  split at h
  · simp only [Option.some.injEq, Prod.mk.injEq] at h
    obtain ⟨h1, rfl⟩ := h
    exact fun_told (impl_allWithin_e _ _ _) (impl_allWithin_l _ _ _) h1
  · cases h
noncomputable def D15 : Dt := also D14 97 impl_allWithin_S
theorem d15 : DOk Go.Proofs.Try.prog tab D15 := d14.also mixed_ok tab_ok names_ok noLoops_ok impl_allWithin_s
/-! impl_product -/
abbrev impl_product_3_σ := Int × List (List TC) × Int × Int
abbrev impl_product_3_ω := (Int)
noncomputable def impl_product_o3_1 (n : Int) (A : List (List TC)) (m : Int) (i : Int) : Bool := is (i = 0 ∧ n = 1 ∧ Typed tab (.slice 2) (.l A) ∧ m = (A.length : Int))
noncomputable def impl_product_u3_1 (n : Int) (A : List (List TC)) (m : Int) (i : Int) : Int := (A.foldl mulR (1 : Int))
noncomputable def impl_product_3_fin (n : Int) (A : List (List TC)) (m : Int) (i : Int) : Told impl_product_3_ω := (.leaf (impl_product_o3_1 n A m i) (impl_product_u3_1 n A m i))
noncomputable def impl_product_3_step (n : Int) (A : List (List TC)) (m : Int) (i : Int) : Tr (impl_product_3_σ ⊕ impl_product_3_ω) := (.ite ((decide (i < m)) = true) (.ite ((0 : Int) ≤ i ∧ i < (A.length : Int)) (.ok (.inl ((IntKind.wrap .i64 (n * (nth (row A i) 0).int)), A, m, (IntKind.wrap .i64 (i + (1 : Int))))))
   .no)
  (.ok (.inr n)))
def impl_product_3_sl (x : impl_product_3_σ) : List Slot := [⟨.val false [⟨.int .i64, .sh, TC.i (x.1)⟩], ⟨0, 0⟩⟩, ⟨.val false [⟨.slice 2, .sh, TC.l (x.2.1)⟩], ⟨0, 0⟩⟩, ⟨.val false [⟨.int .i64, .sh, TC.i (x.2.2.1)⟩], ⟨0, 0⟩⟩, ⟨.val false [⟨.int .i64, .sh, TC.i (x.2.2.2)⟩], ⟨0, 0⟩⟩]
def impl_product_3_out : impl_product_3_ω → Ex × List Slot := (fun x => (.exit 0, [Slot.none, ⟨.val false [⟨.int .i64, .sh, TC.i x⟩], ⟨0, 0⟩⟩]))
noncomputable def impl_product_lo3 : List Slot → Option (Told (Ex × List Slot)) := fun s => match s with
  | [⟨.val false [⟨.int .i64, .sh, TC.i n⟩], ⟨0, 0⟩⟩, ⟨.val false [⟨.slice 2, .sh, TC.l A⟩], ⟨0, 0⟩⟩, ⟨.val false [⟨.int .i64, .sh, TC.i m⟩], ⟨0, 0⟩⟩, ⟨.val false [⟨.int .i64, .sh, TC.i i⟩], ⟨0, 0⟩⟩] => some (((impl_product_3_fin n A m i)).map impl_product_3_out)
  | _ => .none
noncomputable def impl_product_lo : LoopTeller := fun r s => bif Nat.beq r 3 then impl_product_lo3 s else .none
theorem impl_product_3_r (n : Int) (A : List (List TC)) (m : Int) (i : Int) (fuel : Nat) : rounds (rnd tab FT D15 live 98 impl_product_lo 0 3) leave (fuel + 1) (impl_product_3_sl (n, A, m, i)) = ((impl_product_3_step n A m i)).run (goOn (fun s => rounds (rnd tab FT D15 live 98 impl_product_lo 0 3) leave fuel (impl_product_3_sl s)) fun w => some (impl_product_3_out w)) := by kernel_rfl
noncomputable def impl_product_3_st : impl_product_3_σ → Tr (impl_product_3_σ ⊕ impl_product_3_ω) := fun x => (impl_product_3_step (x.1) (x.2.1) (x.2.2.1) (x.2.2.2))
theorem impl_product_3_h (n : Int) (A : List (List TC)) (m : Int) (i : Int) (w : impl_product_3_ω) : ((impl_product_3_fin n A m i)).val = some w → ∃ fuel, loopN impl_product_3_st fuel (n, A, m, i) = some w := by
  intro h
  have key : Typed tab (.slice 2) (.l A) → loopN impl_product_3_st (A.length + 1) ((1 : Int), A, (A.length : Int), (0 : Int)) = some ((A.foldl mulR (1 : Int))) := by
    intro ht
    have hlen : A.length ≤ 140737488351232 := by have := typed_room ht; simp only [show (tab 2).bytes = 8 from rfl] at this; omega
    have key := loopN_scan (step := impl_product_3_st) A [] (fun _ => true) mulR (fun i a => (a, A, (A.length : Int), (i : Int))) (fun a => a) (fun i a => a) (fun i a hi => ?_) (fun a => ?_) A.length 0 (1 : Int) (by omega)
    · first | (rw [Nat.zero_add] at key; exact key) | exact key | (simpa using key)
    · skip
      show (impl_product_3_step a A (A.length : Int) (i : Int)).val = _
      unfold impl_product_3_step
      refine Tr.t (by simp; omega) ?_
      show _ = some _
      refine Tr.t (by first | omega | (constructor <;> omega)) ?_
      rw [Tr.val_ok, wrap64 (i := (i : Int) + 1) (by omega) (by omega)]; rfl
    · show (impl_product_3_step a A (A.length : Int) (A.length : Int)).val = _
      refine Tr.n (by simp) ?_
      rfl
  simp only [impl_product_3_fin, Told.val] at h
  split at h
  · rename_i ho
    obtain ⟨rfl, rfl, ht, rfl⟩ := is_iff.1 ho
    cases h
    exact ⟨_, key ht⟩
  · cases h
theorem impl_product_is3 : LoopIs tab FT D15 live 98 impl_product_lo 0 3 := by
  refine loop_told (sl := impl_product_3_sl) (step := impl_product_3_st) (out := impl_product_3_out) (lor := impl_product_lo3) (fin := fun x => (impl_product_3_fin (x.1) (x.2.1) (x.2.2.1) (x.2.2.2))) (fun _ => rfl) ?_ (fun x n => impl_product_3_r x.1 x.2.1 x.2.2.1 x.2.2.2 n) (fun x w => impl_product_3_h x.1 x.2.1 x.2.2.1 x.2.2.2 w)
  intro s t h
  unfold impl_product_lo3 at h
  split at h
  · cases h; exact ⟨(_, _, _, _), rfl, rfl⟩
  · cases h
noncomputable def impl_product_t (A : List (List TC)) : Tr (Int) := (.ite ((impl_product_o3_1 (1 : Int) A (A.length : Int) (0 : Int)) = true) (.ok (impl_product_u3_1 (1 : Int) A (A.length : Int) (0 : Int)))
  .no)
def impl_product_mk (p : Int) : Res := [(false, [⟨.int .i64, .sh, TC.i p⟩])]
noncomputable def impl_product_c (A : List (List TC)) : Bool := (impl_product_o3_1 (1 : Int) A (A.length : Int) (0 : Int))
noncomputable def impl_product_v (A : List (List TC)) : Int := (impl_product_u3_1 (1 : Int) A (A.length : Int) (0 : Int))
theorem impl_product_l (A : List (List TC)) : (impl_product_c A) = true → (impl_product_t A).val = some (impl_product_v A) := by
  intro h
  have hc0 : (impl_product_o3_1 (1 : Int) A (A.length : Int) (0 : Int)) = true := h
  unfold impl_product_t
  exact (Tr.t hc0 rfl)
noncomputable def impl_product_S : List Arg → Option (Bool × Res) := fun xs => match xs with
  | [(false, [(.slice 2, TC.l A)])] => some ((impl_product_c A), impl_product_mk (impl_product_v A))
  | _ => .none
theorem impl_product_e (A : List (List TC)) : runF tab FT D15 live 98 impl_product_lo [(false, [(.slice 2, TC.l A)])] = (impl_product_t A).run fun p => some (impl_product_mk p) := by kernel_rfl
theorem impl_product_s : ∀ xs r, impl_product_S xs = some (true, r) → runF tab FT D15 live 98 impl_product_lo xs = some r := by
  intro xs r h
  unfold impl_product_S at h
  split at h
  · simp only [Option.some.injEq, Prod.mk.injEq] at h
    obtain ⟨h1, rfl⟩ := h
    exact fun_told (impl_product_e _) (impl_product_l _) h1
  · cases h
noncomputable def D16 : Dt := also D15 98 impl_product_S
theorem d16 : DOk Go.Proofs.Try.prog tab D16 := d15.also mixed_ok tab_ok names_ok (fnLoops_one (by kernel_rfl) impl_product_is3) impl_product_s
/-! impl_ValidDims -/
noncomputable def impl_ValidDims_t (A : List (List TC)) : Tr (Bool) := (.ite ((decide ((A.length : Int) ≤ (3 : Int))) = true) (.ite ((impl_allWithin_c A (0 : Int) (40 : Int)) = true) (.ite ((impl_allWithin_v A (0 : Int) (40 : Int)) = true) (.ite ((impl_product_c A) = true) (.ok (decide ((impl_product_v A) ≤ (600 : Int))))
     .no)
    (.ok false))
   .no)
  (.ok false))
def impl_ValidDims_mk (p : Bool) : Res := [(false, [⟨.bool, .sh, TC.b p⟩])]
noncomputable def impl_ValidDims_c (A : List (List TC)) : Bool := is (((impl_allWithin_c A (0 : Int) (40 : Int)) = true) ∧ ((impl_product_c A) = true))
noncomputable def impl_ValidDims_v (A : List (List TC)) : Bool := (bif (decide ((A.length : Int) ≤ (3 : Int))) then (bif (impl_allWithin_v A (0 : Int) (40 : Int)) then (decide ((impl_product_v A) ≤ (600 : Int))) else false) else false)
theorem impl_ValidDims_l (A : List (List TC)) : (impl_ValidDims_c A) = true → (impl_ValidDims_t A).val = some (impl_ValidDims_v A) := by
  intro h
  obtain ⟨g0, g1⟩ := is_iff.1 h
  unfold impl_ValidDims_t impl_ValidDims_v
  exact (Tr.s (Tr.t g0 (Tr.s (Tr.t g1 rfl) rfl)) rfl)
noncomputable def impl_ValidDims_S : List Arg → Option (Bool × Res) := fun xs => match xs with
  | [(false, [(.slice 2, TC.l A)])] => some ((impl_ValidDims_c A), impl_ValidDims_mk (impl_ValidDims_v A))
  | _ => .none
theorem impl_ValidDims_e (A : List (List TC)) : runF tab FT D16 live 96 noLoops [(false, [(.slice 2, TC.l A)])] = (impl_ValidDims_t A).run fun p => some (impl_ValidDims_mk p) := by kernel_rfl
theorem impl_ValidDims_s : ∀ xs r, impl_ValidDims_S xs = some (true, r) → runF tab FT D16 live 96 noLoops xs = some r := by
  intro xs r h
  unfold impl_ValidDims_S at h
  split at h
  · simp only [Option.some.injEq, Prod.mk.injEq] at h
    obtain ⟨h1, rfl⟩ := h
    exact fun_told (impl_ValidDims_e _) (impl_ValidDims_l _) h1
  · cases h
noncomputable def D17 : Dt := also D16 96 impl_ValidDims_S
theorem d17 : DOk Go.Proofs.Try.prog tab D17 := d16.also mixed_ok tab_ok names_ok noLoops_ok impl_ValidDims_s
theorem impl_ValidDims_vv (A : List (List TC)) : impl_ValidDims_v A = dimsOk A := by
  show (bif decide ((A.length : Int) ≤ 3) then bif (!(!(A.all (inR 0 40)))) then decide (prodL A ≤ 600) else false else false) = _
  unfold dimsOk
  cases decide ((A.length : Int) ≤ 3) <;> cases A.all (inR 0 40) <;> rfl
/-! impl_ValidNumbers -/
noncomputable def impl_ValidNumbers_t (a0 : List (List TC)) (a1 : List (List TC)) : Tr (Bool) := (.ite ((impl_ValidDims_c a0) = true) (.ite ((impl_ValidDims_v a0) = true) (.ite ((impl_product_c a0) = true) (.ite (((a1.length : Int) == (impl_product_v a0)) = true) (.ite ((impl_allWithin_c a1 (-1000000000000 : Int) (1000000000000 : Int)) = true) (.ok (impl_allWithin_v a1 (-1000000000000 : Int) (1000000000000 : Int)))
      .no)
     (.ok false))
    .no)
   (.ok false))
  .no)
def impl_ValidNumbers_mk (p : Bool) : Res := [(false, [⟨.bool, .sh, TC.b p⟩])]
noncomputable def impl_ValidNumbers_c (a0 : List (List TC)) (a1 : List (List TC)) : Bool := is (((impl_ValidDims_c a0) = true) ∧ ((impl_product_c a0) = true) ∧ ((impl_allWithin_c a1 (-1000000000000 : Int) (1000000000000 : Int)) = true))
noncomputable def impl_ValidNumbers_v (a0 : List (List TC)) (a1 : List (List TC)) : Bool := (bif (impl_ValidDims_v a0) then (bif ((a1.length : Int) == (impl_product_v a0)) then (impl_allWithin_v a1 (-1000000000000 : Int) (1000000000000 : Int)) else false) else false)
theorem impl_ValidNumbers_l (a0 : List (List TC)) (a1 : List (List TC)) : (impl_ValidNumbers_c a0 a1) = true → (impl_ValidNumbers_t a0 a1).val = some (impl_ValidNumbers_v a0 a1) := by
  intro h
  obtain ⟨g0, g1, g2⟩ := is_iff.1 h
  unfold impl_ValidNumbers_t impl_ValidNumbers_v
  exact (Tr.t g0 (Tr.s (Tr.t g1 (Tr.s (Tr.t g2 rfl) rfl)) rfl))
noncomputable def impl_ValidNumbers_S : List Arg → Option (Bool × Res) := fun xs => match xs with
  | [(true, [(.slice 2, TC.l a0), (.slice 2, TC.l a1)])] => some ((impl_ValidNumbers_c a0 a1), impl_ValidNumbers_mk (impl_ValidNumbers_v a0 a1))
  | _ => .none
theorem impl_ValidNumbers_e (a0 : List (List TC)) (a1 : List (List TC)) : runF tab FT D17 live 52 noLoops [(true, [(.slice 2, TC.l a0), (.slice 2, TC.l a1)])] = (impl_ValidNumbers_t a0 a1).run fun p => some (impl_ValidNumbers_mk p) := by kernel_rfl
theorem impl_ValidNumbers_s : ∀ xs r, impl_ValidNumbers_S xs = some (true, r) → runF tab FT D17 live 52 noLoops xs = some r := by
  intro xs r h
  unfold impl_ValidNumbers_S at h
  split at h
  · simp only [Option.some.injEq, Prod.mk.injEq] at h
    obtain ⟨h1, rfl⟩ := h
    exact fun_told (impl_ValidNumbers_e _ _) (impl_ValidNumbers_l _ _) h1
  · cases h
noncomputable def D18 : Dt := also D17 52 impl_ValidNumbers_S
theorem d18 : DOk Go.Proofs.Try.prog tab D18 := d17.also mixed_ok tab_ok names_ok noLoops_ok impl_ValidNumbers_s
/-! laws_eqInt64S -/
abbrev laws_eqInt64S_4_σ := List (List TC) × List (List TC) × Int
abbrev laws_eqInt64S_4_ω := (Unit) ⊕ (Unit)
noncomputable def laws_eqInt64S_o4_1 (A : List (List TC)) (C : List (List TC)) (i : Int) : Bool := is (A = C ∧ i = 0 ∧ Typed tab (.slice 2) (.l A))
noncomputable def laws_eqInt64S_u4_1 (A : List (List TC)) (C : List (List TC)) (i : Int) : Unit := ()
noncomputable def laws_eqInt64S_4_fin (A : List (List TC)) (C : List (List TC)) (i : Int) : Told laws_eqInt64S_4_ω := (.leaf (laws_eqInt64S_o4_1 A C i) (.inr (laws_eqInt64S_u4_1 A C i)))
noncomputable def laws_eqInt64S_4_step (A : List (List TC)) (C : List (List TC)) (i : Int) : Tr (laws_eqInt64S_4_σ ⊕ laws_eqInt64S_4_ω) := (.ite ((decide (i < (A.length : Int))) = true) (.ite ((0 : Int) ≤ i ∧ i < (A.length : Int)) (.ite ((0 : Int) ≤ i ∧ i < (C.length : Int)) (.ite ((!((nth (row A i) 0).int == (nth (row C i) 0).int)) = true) (.ok (.inr (.inl ())))
     (.ok (.inl (A, C, (IntKind.wrap .i64 (i + (1 : Int)))))))
    .no)
   .no)
  (.ok (.inr (.inr ()))))
def laws_eqInt64S_4_sl (x : laws_eqInt64S_4_σ) : List Slot := [⟨.val false [⟨.slice 2, .sh, TC.l (x.1)⟩], ⟨0, 0⟩⟩, ⟨.val false [⟨.slice 2, .sh, TC.l (x.2.1)⟩], ⟨0, 0⟩⟩, ⟨.val false [⟨.int .i64, .sh, TC.i (x.2.2)⟩], ⟨0, 0⟩⟩]
def laws_eqInt64S_4_out : laws_eqInt64S_4_ω → Ex × List Slot := (Sum.elim (fun x => (.ret, [⟨.val false [⟨.bool, .sh, TC.b false⟩], ⟨0, 0⟩⟩])) (fun x => (.exit 0, [Slot.none])))
noncomputable def laws_eqInt64S_lo4 : List Slot → Option (Told (Ex × List Slot)) := fun s => match s with
  | [⟨.val false [⟨.slice 2, .sh, TC.l A⟩], ⟨0, 0⟩⟩, ⟨.val false [⟨.slice 2, .sh, TC.l C⟩], ⟨0, 0⟩⟩, ⟨.val false [⟨.int .i64, .sh, TC.i i⟩], ⟨0, 0⟩⟩] => some (((laws_eqInt64S_4_fin A C i)).map laws_eqInt64S_4_out)
  | _ => .none
noncomputable def laws_eqInt64S_lo : LoopTeller := fun r s => bif Nat.beq r 4 then laws_eqInt64S_lo4 s else .none
theorem laws_eqInt64S_4_r (A : List (List TC)) (C : List (List TC)) (i : Int) (fuel : Nat) : rounds (rnd tab FT D18 live 50 laws_eqInt64S_lo 0 4) leave (fuel + 1) (laws_eqInt64S_4_sl (A, C, i)) = ((laws_eqInt64S_4_step A C i)).run (goOn (fun s => rounds (rnd tab FT D18 live 50 laws_eqInt64S_lo 0 4) leave fuel (laws_eqInt64S_4_sl s)) fun w => some (laws_eqInt64S_4_out w)) := by kernel_rfl
noncomputable def laws_eqInt64S_4_st : laws_eqInt64S_4_σ → Tr (laws_eqInt64S_4_σ ⊕ laws_eqInt64S_4_ω) := fun x => (laws_eqInt64S_4_step (x.1) (x.2.1) (x.2.2))
theorem laws_eqInt64S_4_h (A : List (List TC)) (C : List (List TC)) (i : Int) (w : laws_eqInt64S_4_ω) : ((laws_eqInt64S_4_fin A C i)).val = some w → ∃ fuel, loopN laws_eqInt64S_4_st fuel (A, C, i) = some w := by
  intro h
  simp only [laws_eqInt64S_4_fin, Told.val] at h
  split at h
  · rename_i ho
    obtain ⟨rfl, rfl, ht⟩ := is_iff.1 ho
    cases h
    have hlen : A.length ≤ 140737488351232 := by have := typed_room ht; simp only [show (tab 2).bytes = 8 from rfl] at this; omega
    refine ⟨_, loopN_run (N := A.length) (fun i => (A, A, (i : Int))) (fun i hi => ?_) ?_ A.length 0 (by omega)⟩
    · skip
      show (laws_eqInt64S_4_step A A (i : Int)).val = _
      unfold laws_eqInt64S_4_step
      refine Tr.t (by simp; omega) ?_
      refine Tr.t (by constructor <;> omega) ?_
      refine Tr.t (by constructor <;> omega) ?_
      refine Tr.n (by simp) ?_
      rw [Tr.val_ok, wrap64 (i := (i : Int) + 1) (by omega) (by omega)]; rfl
    · show (laws_eqInt64S_4_step A A (A.length : Int)).val = _
      refine Tr.n (by simp) ?_
      rfl
  · cases h
theorem laws_eqInt64S_is4 : LoopIs tab FT D18 live 50 laws_eqInt64S_lo 0 4 := by
  refine loop_told (sl := laws_eqInt64S_4_sl) (step := laws_eqInt64S_4_st) (out := laws_eqInt64S_4_out) (lor := laws_eqInt64S_lo4) (fin := fun x => (laws_eqInt64S_4_fin (x.1) (x.2.1) (x.2.2))) (fun _ => rfl) ?_ (fun x n => laws_eqInt64S_4_r x.1 x.2.1 x.2.2 n) (fun x w => laws_eqInt64S_4_h x.1 x.2.1 x.2.2 w)
  intro s t h
  unfold laws_eqInt64S_lo4 at h
  split at h
  · cases h; exact ⟨(_, _, _), rfl, rfl⟩
  · cases h
noncomputable def laws_eqInt64S_t (A : List (List TC)) (C : List (List TC)) : Tr (Bool) := (.ite ((!((A.length : Int) == (C.length : Int))) = true) (.ok false)
  (.ite ((laws_eqInt64S_o4_1 A C (0 : Int)) = true) (.ok true)
   .no))
def laws_eqInt64S_mk (p : Bool) : Res := [(false, [⟨.bool, .sh, TC.b p⟩])]
noncomputable def laws_eqInt64S_c (A : List (List TC)) (C : List (List TC)) : Bool := is (A = C ∧ Typed tab (.slice 2) (.l A))
noncomputable def laws_eqInt64S_v (A : List (List TC)) (C : List (List TC)) : Bool := true
theorem laws_eqInt64S_l (A : List (List TC)) (C : List (List TC)) : (laws_eqInt64S_c A C) = true → (laws_eqInt64S_t A C).val = some (laws_eqInt64S_v A C) := by
  intro h
  obtain ⟨rfl, ht⟩ := is_iff.1 h
  unfold laws_eqInt64S_t
  refine Tr.n (by simp) ?_
  refine Tr.t (by first | (apply is_true; and_intros <;> (first | rfl | assumption | exact (by first | (apply is_true; and_intros <;> (first | rfl | assumption | exact (by first | (apply is_true; and_intros <;> (first | rfl | assumption | exact (by first | (apply is_true; and_intros <;> (first | rfl | assumption | exact (by first | (apply is_true; and_intros <;> (first | rfl | assumption))))))))))))))) ?_
  rfl
noncomputable def laws_eqInt64S_S : List Arg → Option (Bool × Res) := fun xs => match xs with
  | [(false, [(.slice 2, TC.l A)]), (false, [(.slice 2, TC.l C)])] => some ((laws_eqInt64S_c A C), laws_eqInt64S_mk (laws_eqInt64S_v A C))
  | _ => .none
theorem laws_eqInt64S_e (A : List (List TC)) (C : List (List TC)) : runF tab FT D18 live 50 laws_eqInt64S_lo [(false, [(.slice 2, TC.l A)]), (false, [(.slice 2, TC.l C)])] = (laws_eqInt64S_t A C).run fun p => some (laws_eqInt64S_mk p) := by kernel_rfl
theorem laws_eqInt64S_s : ∀ xs r, laws_eqInt64S_S xs = some (true, r) → runF tab FT D18 live 50 laws_eqInt64S_lo xs = some r := by
  intro xs r h
  unfold laws_eqInt64S_S at h
  split at h
  · simp only [Option.some.injEq, Prod.mk.injEq] at h
    obtain ⟨h1, rfl⟩ := h
    exact fun_told (laws_eqInt64S_e _ _) (laws_eqInt64S_l _ _) h1
  · cases h
noncomputable def D19 : Dt := also D18 50 laws_eqInt64S_S
theorem d19 : DOk Go.Proofs.Try.prog tab D19 := d18.also mixed_ok tab_ok names_ok (fnLoops_one (by kernel_rfl) laws_eqInt64S_is4) laws_eqInt64S_s
/-! laws_eqNumbers -/
noncomputable def laws_eqNumbers_t (x0 : List (List TC)) (x1 : List (List TC)) (y0 : List (List TC)) (y1 : List (List TC)) : Tr (Bool) := (.ite ((laws_eqInt64S_c x0 y0) = true) (.ite ((!(laws_eqInt64S_v x0 y0)) = true) (.ok false)
   (.ite ((laws_eqInt64S_c x1 y1) = true) (.ite ((!(laws_eqInt64S_v x1 y1)) = true) (.ok false)
     (.ok true))
    .no))
  .no)
def laws_eqNumbers_mk (p : Bool) : Res := [(false, [⟨.bool, .sh, TC.b p⟩])]
noncomputable def laws_eqNumbers_c (x0 : List (List TC)) (x1 : List (List TC)) (y0 : List (List TC)) (y1 : List (List TC)) : Bool := is (x0 = y0 ∧ x1 = y1 ∧ Typed tab (.slice 2) (.l x0) ∧ Typed tab (.slice 2) (.l x1))
noncomputable def laws_eqNumbers_v (x0 : List (List TC)) (x1 : List (List TC)) (y0 : List (List TC)) (y1 : List (List TC)) : Bool := true
theorem laws_eqNumbers_l (x0 : List (List TC)) (x1 : List (List TC)) (y0 : List (List TC)) (y1 : List (List TC)) : (laws_eqNumbers_c x0 x1 y0 y1) = true → (laws_eqNumbers_t x0 x1 y0 y1).val = some (laws_eqNumbers_v x0 x1 y0 y1) := by
  intro h
  obtain ⟨rfl, rfl, t0, t1⟩ := is_iff.1 h
  unfold laws_eqNumbers_t
  refine Tr.t (by first | (apply is_true; and_intros <;> (first | rfl | assumption | exact (by first | (apply is_true; and_intros <;> (first | rfl | assumption | exact (by first | (apply is_true; and_intros <;> (first | rfl | assumption | exact (by first | (apply is_true; and_intros <;> (first | rfl | assumption | exact (by first | (apply is_true; and_intros <;> (first | rfl | assumption))))))))))))))) ?_
  refine Tr.n (by simp [laws_eqInt64S_v]) ?_
  refine Tr.t (by first | (apply is_true; and_intros <;> (first | rfl | assumption | exact (by first | (apply is_true; and_intros <;> (first | rfl | assumption | exact (by first | (apply is_true; and_intros <;> (first | rfl | assumption | exact (by first | (apply is_true; and_intros <;> (first | rfl | assumption | exact (by first | (apply is_true; and_intros <;> (first | rfl | assumption))))))))))))))) ?_
  refine Tr.n (by simp [laws_eqInt64S_v]) ?_
  rfl
noncomputable def laws_eqNumbers_S : List Arg → Option (Bool × Res) := fun xs => match xs with
  | [(true, [(.slice 2, TC.l x0), (.slice 2, TC.l x1)]), (true, [(.slice 2, TC.l y0), (.slice 2, TC.l y1)])] => some ((laws_eqNumbers_c x0 x1 y0 y1), laws_eqNumbers_mk (laws_eqNumbers_v x0 x1 y0 y1))
  | _ => .none
theorem laws_eqNumbers_e (x0 : List (List TC)) (x1 : List (List TC)) (y0 : List (List TC)) (y1 : List (List TC)) : runF tab FT D19 live 33 noLoops [(true, [(.slice 2, TC.l x0), (.slice 2, TC.l x1)]), (true, [(.slice 2, TC.l y0), (.slice 2, TC.l y1)])] = (laws_eqNumbers_t x0 x1 y0 y1).run fun p => some (laws_eqNumbers_mk p) := by kernel_rfl
theorem laws_eqNumbers_s : ∀ xs r, laws_eqNumbers_S xs = some (true, r) → runF tab FT D19 live 33 noLoops xs = some r := by
  intro xs r h
  unfold laws_eqNumbers_S at h
  split at h
  · simp only [Option.some.injEq, Prod.mk.injEq] at h
    obtain ⟨h1, rfl⟩ := h
    exact fun_told (laws_eqNumbers_e _ _ _ _) (laws_eqNumbers_l _ _ _ _) h1
  · cases h
noncomputable def D20 : Dt := also D19 33 laws_eqNumbers_S
theorem d20 : DOk Go.Proofs.Try.prog tab D20 := d19.also mixed_ok tab_ok names_ok noLoops_ok laws_eqNumbers_s
/-! the law -/
noncomputable def laws_FnExactValidNumbers_t (x0 : List (List TC)) (x1 : List (List TC)) : Tr Bool := (.ite ((decide ((laws_szNumbers_v x0 x1 (1048576 : Int)) < (0 : Int))) = true) (.ok true)
  (.ite ((laws_toNumbers_c x0 x1) = true) (.ite ((spec_ValidNumbers_c ((laws_toNumbers_v x0 x1).1) ((laws_toNumbers_v x0 x1).2)) = true) (.ite ((laws_toNumbers_c x0 x1) = true) (.ite ((impl_ValidNumbers_c ((laws_toNumbers_v x0 x1).1) ((laws_toNumbers_v x0 x1).2)) = true) (.ite ((!((impl_ValidNumbers_v ((laws_toNumbers_v x0 x1).1) ((laws_toNumbers_v x0 x1).2)) == (spec_ValidNumbers_v ((laws_toNumbers_v x0 x1).1) ((laws_toNumbers_v x0 x1).2)))) = true) (.ok false)
       (.ite ((laws_toNumbers_c x0 x1) = true) (.ite ((laws_eqNumbers_c ((laws_toNumbers_v x0 x1).1) ((laws_toNumbers_v x0 x1).2) ((laws_toNumbers_v x0 x1).1) ((laws_toNumbers_v x0 x1).2)) = true) (.ite ((!(laws_eqNumbers_v ((laws_toNumbers_v x0 x1).1) ((laws_toNumbers_v x0 x1).2) ((laws_toNumbers_v x0 x1).1) ((laws_toNumbers_v x0 x1).2))) = true) (.ok false)
          (.ok true))
         .no)
        .no))
      .no)
     .no)
    .no)
   .no))
theorem laws_FnExactValidNumbers_e (x0 : List (List TC)) (x1 : List (List TC)) : runF tab FT D20 live 14 noLoops [(true, [(.slice 2, TC.l x0), (.slice 2, TC.l x1)])] = (laws_FnExactValidNumbers_t x0 x1).run fun p => some [(false, [⟨.bool, .sh, .b p⟩])] := by kernel_rfl
theorem laws_FnExactValidNumbers_p (x0 : List (List TC)) (x1 : List (List TC)) (h0 : Typed tab (.slice 2) (.l x0)) (h1 : Typed tab (.slice 2) (.l x1)) : (laws_FnExactValidNumbers_t x0 x1).val = some true := by
  have t0_2 := laws_toInt64S_ty h0
  have t1_2 := laws_toInt64S_ty h1
  unfold laws_FnExactValidNumbers_t
  refine Tr.y ?_
  refine Tr.t (by first | exact (by first | (apply is_true; and_intros <;> (first | rfl | assumption | exact (by first | (apply is_true; and_intros <;> (first | rfl | assumption | exact (by first | (apply is_true; and_intros <;> (first | rfl | assumption | exact (by first | (apply is_true; and_intros <;> (first | rfl | assumption | exact (by first | (apply is_true; and_intros <;> (first | rfl | assumption))))))))))))))) | simp [*]) ?_
  refine Tr.t (by first | exact (by first | (apply is_true; and_intros <;> (first | rfl | assumption | exact (by first | (apply is_true; and_intros <;> (first | rfl | assumption | exact (by first | (apply is_true; and_intros <;> (first | rfl | assumption | exact (by first | (apply is_true; and_intros <;> (first | rfl | assumption | exact (by first | (apply is_true; and_intros <;> (first | rfl | assumption))))))))))))))) | simp [*]) ?_
  refine Tr.t (by first | exact (by first | (apply is_true; and_intros <;> (first | rfl | assumption | exact (by first | (apply is_true; and_intros <;> (first | rfl | assumption | exact (by first | (apply is_true; and_intros <;> (first | rfl | assumption | exact (by first | (apply is_true; and_intros <;> (first | rfl | assumption | exact (by first | (apply is_true; and_intros <;> (first | rfl | assumption))))))))))))))) | simp [*]) ?_
  refine Tr.t (by first | exact (by first | (apply is_true; and_intros <;> (first | rfl | assumption | exact (by first | (apply is_true; and_intros <;> (first | rfl | assumption | exact (by first | (apply is_true; and_intros <;> (first | rfl | assumption | exact (by first | (apply is_true; and_intros <;> (first | rfl | assumption | exact (by first | (apply is_true; and_intros <;> (first | rfl | assumption))))))))))))))) | simp [*]) ?_
  refine Tr.n (by first | (simp [laws_szInt64S_v, laws_szNumbers_v, laws_toInt64S_u3_1, laws_toInt64S_v, laws_toNumbers_v, spec_l00In_v, spec_l05Dims_k5_1, spec_l05Dims_u5_2, spec_l05Dims_u5_3, spec_l05Dims_vv, spec_l05Count_u3_1, spec_l05Count_v, spec_l25Fits_v, spec_l25Ok_k4_1, spec_l25Ok_u4_2, spec_l25Ok_u4_3, spec_l25Ok_v, spec_ValidNumbers_v, impl_within_v, impl_allWithin_1_v, slices_IndexFunc_int64_int64_k2_1, slices_IndexFunc_int64_int64_u2_2, slices_IndexFunc_int64_int64_u2_3, slices_IndexFunc_int64_int64_v, slices_ContainsFunc_int64_int64_v, impl_allWithin_v, impl_product_u3_1, impl_product_v, impl_ValidDims_vv, impl_ValidNumbers_v, laws_eqInt64S_u4_1, laws_eqInt64S_v, laws_eqNumbers_v]; done) | (simp only [laws_szInt64S_v, laws_szNumbers_v, laws_toInt64S_u3_1, laws_toInt64S_v, laws_toNumbers_v, spec_l00In_v, spec_l05Dims_k5_1, spec_l05Dims_u5_2, spec_l05Dims_u5_3, spec_l05Dims_vv, spec_l05Count_u3_1, spec_l05Count_v, spec_l25Fits_v, spec_l25Ok_k4_1, spec_l25Ok_u4_2, spec_l25Ok_u4_3, spec_l25Ok_v, spec_ValidNumbers_v, impl_within_v, impl_allWithin_1_v, slices_IndexFunc_int64_int64_k2_1, slices_IndexFunc_int64_int64_u2_2, slices_IndexFunc_int64_int64_u2_3, slices_IndexFunc_int64_int64_v, slices_ContainsFunc_int64_int64_v, impl_allWithin_v, impl_product_u3_1, impl_product_v, impl_ValidDims_vv, impl_ValidNumbers_v, laws_eqInt64S_u4_1, laws_eqInt64S_v, laws_eqNumbers_v, nth0, nth1, nth2, nth3, nth4, nth5, int_i, bool_b, str_s, list_l, cells_p, Bool.not_eq_true, bne_self_eq_false, beq_self_eq_true, Bool.not_true]; done) | (simp [laws_szInt64S_v, laws_szNumbers_v, laws_toInt64S_u3_1, laws_toInt64S_v, laws_toNumbers_v, spec_l00In_v, spec_l05Dims_k5_1, spec_l05Dims_u5_2, spec_l05Dims_u5_3, spec_l05Dims_vv, spec_l05Count_u3_1, spec_l05Count_v, spec_l25Fits_v, spec_l25Ok_k4_1, spec_l25Ok_u4_2, spec_l25Ok_u4_3, spec_l25Ok_v, spec_ValidNumbers_v, impl_within_v, impl_allWithin_1_v, slices_IndexFunc_int64_int64_k2_1, slices_IndexFunc_int64_int64_u2_2, slices_IndexFunc_int64_int64_u2_3, slices_IndexFunc_int64_int64_v, slices_ContainsFunc_int64_int64_v, impl_allWithin_v, impl_product_u3_1, impl_product_v, impl_ValidDims_vv, impl_ValidNumbers_v, laws_eqInt64S_u4_1, laws_eqInt64S_v, laws_eqNumbers_v, nth0, nth1, nth2, nth3, nth4, nth5, int_i, bool_b, str_s, list_l, cells_p]; done) | (simp [laws_szInt64S_v, laws_szNumbers_v, laws_toInt64S_u3_1, laws_toInt64S_v, laws_toNumbers_v, spec_l00In_v, spec_l05Dims_k5_1, spec_l05Dims_u5_2, spec_l05Dims_u5_3, spec_l05Dims_vv, spec_l05Count_u3_1, spec_l05Count_v, spec_l25Fits_v, spec_l25Ok_k4_1, spec_l25Ok_u4_2, spec_l25Ok_u4_3, spec_l25Ok_v, spec_ValidNumbers_v, impl_within_v, impl_allWithin_1_v, slices_IndexFunc_int64_int64_k2_1, slices_IndexFunc_int64_int64_u2_2, slices_IndexFunc_int64_int64_u2_3, slices_IndexFunc_int64_int64_v, slices_ContainsFunc_int64_int64_v, impl_allWithin_v, impl_product_u3_1, impl_product_v, impl_ValidDims_vv, impl_ValidNumbers_v, laws_eqInt64S_u4_1, laws_eqInt64S_v, laws_eqNumbers_v, nth0, nth1, nth2, nth3, nth4, nth5, int_i, bool_b, str_s, list_l, cells_p] <;> rfl)) ?_
  refine Tr.t (by first | exact (by first | (apply is_true; and_intros <;> (first | rfl | assumption | exact (by first | (apply is_true; and_intros <;> (first | rfl | assumption | exact (by first | (apply is_true; and_intros <;> (first | rfl | assumption | exact (by first | (apply is_true; and_intros <;> (first | rfl | assumption | exact (by first | (apply is_true; and_intros <;> (first | rfl | assumption))))))))))))))) | simp [*]) ?_
  refine Tr.t (by first | exact (by first | (apply is_true; and_intros <;> (first | rfl | assumption | exact (by first | (apply is_true; and_intros <;> (first | rfl | assumption | exact (by first | (apply is_true; and_intros <;> (first | rfl | assumption | exact (by first | (apply is_true; and_intros <;> (first | rfl | assumption | exact (by first | (apply is_true; and_intros <;> (first | rfl | assumption))))))))))))))) | simp [*]) ?_
  refine Tr.n (by first | (simp [laws_szInt64S_v, laws_szNumbers_v, laws_toInt64S_u3_1, laws_toInt64S_v, laws_toNumbers_v, spec_l00In_v, spec_l05Dims_k5_1, spec_l05Dims_u5_2, spec_l05Dims_u5_3, spec_l05Dims_vv, spec_l05Count_u3_1, spec_l05Count_v, spec_l25Fits_v, spec_l25Ok_k4_1, spec_l25Ok_u4_2, spec_l25Ok_u4_3, spec_l25Ok_v, spec_ValidNumbers_v, impl_within_v, impl_allWithin_1_v, slices_IndexFunc_int64_int64_k2_1, slices_IndexFunc_int64_int64_u2_2, slices_IndexFunc_int64_int64_u2_3, slices_IndexFunc_int64_int64_v, slices_ContainsFunc_int64_int64_v, impl_allWithin_v, impl_product_u3_1, impl_product_v, impl_ValidDims_vv, impl_ValidNumbers_v, laws_eqInt64S_u4_1, laws_eqInt64S_v, laws_eqNumbers_v]; done) | (simp only [laws_szInt64S_v, laws_szNumbers_v, laws_toInt64S_u3_1, laws_toInt64S_v, laws_toNumbers_v, spec_l00In_v, spec_l05Dims_k5_1, spec_l05Dims_u5_2, spec_l05Dims_u5_3, spec_l05Dims_vv, spec_l05Count_u3_1, spec_l05Count_v, spec_l25Fits_v, spec_l25Ok_k4_1, spec_l25Ok_u4_2, spec_l25Ok_u4_3, spec_l25Ok_v, spec_ValidNumbers_v, impl_within_v, impl_allWithin_1_v, slices_IndexFunc_int64_int64_k2_1, slices_IndexFunc_int64_int64_u2_2, slices_IndexFunc_int64_int64_u2_3, slices_IndexFunc_int64_int64_v, slices_ContainsFunc_int64_int64_v, impl_allWithin_v, impl_product_u3_1, impl_product_v, impl_ValidDims_vv, impl_ValidNumbers_v, laws_eqInt64S_u4_1, laws_eqInt64S_v, laws_eqNumbers_v, nth0, nth1, nth2, nth3, nth4, nth5, int_i, bool_b, str_s, list_l, cells_p, Bool.not_eq_true, bne_self_eq_false, beq_self_eq_true, Bool.not_true]; done) | (simp [laws_szInt64S_v, laws_szNumbers_v, laws_toInt64S_u3_1, laws_toInt64S_v, laws_toNumbers_v, spec_l00In_v, spec_l05Dims_k5_1, spec_l05Dims_u5_2, spec_l05Dims_u5_3, spec_l05Dims_vv, spec_l05Count_u3_1, spec_l05Count_v, spec_l25Fits_v, spec_l25Ok_k4_1, spec_l25Ok_u4_2, spec_l25Ok_u4_3, spec_l25Ok_v, spec_ValidNumbers_v, impl_within_v, impl_allWithin_1_v, slices_IndexFunc_int64_int64_k2_1, slices_IndexFunc_int64_int64_u2_2, slices_IndexFunc_int64_int64_u2_3, slices_IndexFunc_int64_int64_v, slices_ContainsFunc_int64_int64_v, impl_allWithin_v, impl_product_u3_1, impl_product_v, impl_ValidDims_vv, impl_ValidNumbers_v, laws_eqInt64S_u4_1, laws_eqInt64S_v, laws_eqNumbers_v, nth0, nth1, nth2, nth3, nth4, nth5, int_i, bool_b, str_s, list_l, cells_p]; done) | (simp [laws_szInt64S_v, laws_szNumbers_v, laws_toInt64S_u3_1, laws_toInt64S_v, laws_toNumbers_v, spec_l00In_v, spec_l05Dims_k5_1, spec_l05Dims_u5_2, spec_l05Dims_u5_3, spec_l05Dims_vv, spec_l05Count_u3_1, spec_l05Count_v, spec_l25Fits_v, spec_l25Ok_k4_1, spec_l25Ok_u4_2, spec_l25Ok_u4_3, spec_l25Ok_v, spec_ValidNumbers_v, impl_within_v, impl_allWithin_1_v, slices_IndexFunc_int64_int64_k2_1, slices_IndexFunc_int64_int64_u2_2, slices_IndexFunc_int64_int64_u2_3, slices_IndexFunc_int64_int64_v, slices_ContainsFunc_int64_int64_v, impl_allWithin_v, impl_product_u3_1, impl_product_v, impl_ValidDims_vv, impl_ValidNumbers_v, laws_eqInt64S_u4_1, laws_eqInt64S_v, laws_eqNumbers_v, nth0, nth1, nth2, nth3, nth4, nth5, int_i, bool_b, str_s, list_l, cells_p] <;> rfl)) ?_
  rfl
theorem laws_FnExactValidNumbers_pure : ∀ xs, ArgsTyped tab [40] xs → runF tab FT D20 live 14 noLoops xs = yes := by
  intro xs h
  cases h with | cons l0 g0 h =>
  obtain ⟨z0_0, z0_1, rfl⟩ := len_2 l0
  have q0 := g0 0 (by decide)
  have q0 : Typed tab (.slice 2) z0_0 := q0
  obtain ⟨y0, rfl⟩ := typed_slice q0
  have q1 := g0 1 (by decide)
  have q1 : Typed tab (.slice 2) z0_1 := q1
  obtain ⟨y1, rfl⟩ := typed_slice q1
  cases h
  refine (laws_FnExactValidNumbers_e y0 y1).trans ?_
  rw [Tr.run_eq, laws_FnExactValidNumbers_p y0 y1 q0 q1]
  rfl
end Go.Proofs.Ytnlpkmkkidpfhaa.V
