/- What the functions of FnExactSamePipeline answer. No condition. -/
import Derived.Test.YtnlpkmkkidpfhaaVFacts
namespace Go.Proofs.Ytnlpkmkkidpfhaa.V
open Go
set_option maxRecDepth 100000
set_option linter.unusedVariables false
set_option linter.unusedSimpArgs false
/-! laws_szFilterS -/
noncomputable def laws_szFilterS_t (a0 : List (List TC)) (a1 : Int) : Tr (Int) := (.ite ((decide ((IntKind.wrap .i64 (a1 - (a0.length : Int))) < (0 : Int))) = true) (.ok (-1 : Int))
  (.ok (IntKind.wrap .i64 (a1 - (a0.length : Int)))))
def laws_szFilterS_mk (p : Int) : Res := [(false, [⟨.int .i64, .sh, .i p⟩])]
noncomputable def laws_szFilterS_c (a0 : List (List TC)) (a1 : Int) : Bool := true
noncomputable def laws_szFilterS_v (a0 : List (List TC)) (a1 : Int) : Int := (laws_szFilterS_t a0 a1).get
theorem laws_szFilterS_l (a0 : List (List TC)) (a1 : Int) : (laws_szFilterS_c a0 a1) = true → (laws_szFilterS_t a0 a1).val = some (laws_szFilterS_v a0 a1) := fun _ => Tr.val_get _ (Tr.tot_ok _ rfl)
noncomputable def laws_szFilterS_S : List Arg → Option (Bool × Res) := fun xs => match xs with
  | [(false, [(.slice 25, .l a0)]), (false, [(.int .i64, .i a1)])] => some (true, laws_szFilterS_mk (laws_szFilterS_v a0 a1))
  | _ => .none
theorem laws_szFilterS_e (a0 : List (List TC)) (a1 : Int) : runF tab FT D0 live 24 noLoops [(false, [(.slice 25, .l a0)]), (false, [(.int .i64, .i a1)])] = (laws_szFilterS_t a0 a1).run fun p => some (laws_szFilterS_mk p) := by kernel_rfl
theorem laws_szFilterS_s : ∀ xs r, laws_szFilterS_S xs = some (true, r) → runF tab FT D0 live 24 noLoops xs = some r := by
  intro xs r h
  unfold laws_szFilterS_S at h
  split at h
  · simp only [Option.some.injEq, Prod.mk.injEq] at h
    obtain ⟨h1, rfl⟩ := h
    exact fun_told (laws_szFilterS_e _ _) (laws_szFilterS_l _ _) rfl
  · cases h
noncomputable def D1 : Dt := also D0 24 laws_szFilterS_S
theorem d1 : DOk Go.Proofs.Try.prog tab D1 := d0.also mixed_ok tab_ok names_ok noLoops_ok laws_szFilterS_s
/-! laws_toFilter -/
noncomputable def laws_toFilter_t (a0 : Int) (a1 : Int) (a2 : Bool) : Tr (Int × Int × Bool) := .ok (a0, a1, a2)
def laws_toFilter_mk (p : Int × Int × Bool) : Res := [(true, [⟨.int .i64, .sh, .i (p.1)⟩, ⟨.int .i64, .sh, .i (p.2.1)⟩, ⟨.bool, .sh, .b (p.2.2)⟩])]
noncomputable def laws_toFilter_c (a0 : Int) (a1 : Int) (a2 : Bool) : Bool := true
noncomputable def laws_toFilter_v (a0 : Int) (a1 : Int) (a2 : Bool) : Int × Int × Bool := (laws_toFilter_t a0 a1 a2).get
theorem laws_toFilter_l (a0 : Int) (a1 : Int) (a2 : Bool) : (laws_toFilter_c a0 a1 a2) = true → (laws_toFilter_t a0 a1 a2).val = some (laws_toFilter_v a0 a1 a2) := fun _ => Tr.val_get _ (Tr.tot_ok _ rfl)
noncomputable def laws_toFilter_S : List Arg → Option (Bool × Res) := fun xs => match xs with
  | [(true, [(.int .i64, .i a0), (.int .i64, .i a1), (.bool, .b a2)])] => some (true, laws_toFilter_mk (laws_toFilter_v a0 a1 a2))
  | _ => .none
theorem laws_toFilter_e (a0 : Int) (a1 : Int) (a2 : Bool) : runF tab FT D1 live 18 noLoops [(true, [(.int .i64, .i a0), (.int .i64, .i a1), (.bool, .b a2)])] = (laws_toFilter_t a0 a1 a2).run fun p => some (laws_toFilter_mk p) := by kernel_rfl
theorem laws_toFilter_s : ∀ xs r, laws_toFilter_S xs = some (true, r) → runF tab FT D1 live 18 noLoops xs = some r := by
  intro xs r h
  unfold laws_toFilter_S at h
  split at h
  · simp only [Option.some.injEq, Prod.mk.injEq] at h
    obtain ⟨h1, rfl⟩ := h
    exact fun_told (laws_toFilter_e _ _ _) (laws_toFilter_l _ _ _) rfl
  · cases h
noncomputable def D2 : Dt := also D1 18 laws_toFilter_S
theorem d2 : DOk Go.Proofs.Try.prog tab D2 := d1.also mixed_ok tab_ok names_ok noLoops_ok laws_toFilter_s
/-! laws_toFilterS -/
def laws_toFilterS_g (x : List TC) : List TC := [.i ((nth x 0).int), .i ((nth x 1).int), .b ((nth x 2).bool)]
def laws_toFilterS_z : List TC := [.i (0 : Int), .i (0 : Int), .b false]
abbrev laws_toFilterS_3_σ := List (List TC) × List (List TC) × Int
abbrev laws_toFilterS_3_ω := (List (List TC))
noncomputable def laws_toFilterS_o3_1 (A : List (List TC)) (X : List (List TC)) (i : Int) : Bool := is (Typed tab (.slice 25) (.l A) ∧ X = List.replicate A.length laws_toFilterS_z ∧ i = 0)
noncomputable def laws_toFilterS_u3_1 (A : List (List TC)) (X : List (List TC)) (i : Int) : List (List TC) := A.map laws_toFilterS_g
noncomputable def laws_toFilterS_3_fin (A : List (List TC)) (X : List (List TC)) (i : Int) : Told laws_toFilterS_3_ω := (.leaf (laws_toFilterS_o3_1 A X i) (laws_toFilterS_u3_1 A X i))
noncomputable def laws_toFilterS_3_step (A : List (List TC)) (X : List (List TC)) (i : Int) : Tr (laws_toFilterS_3_σ ⊕ laws_toFilterS_3_ω) := (.ite ((decide (i < (A.length : Int))) = true) (.ite ((0 : Int) ≤ i ∧ i < (A.length : Int)) (.ite ((0 : Int) ≤ i ∧ i < (X.length : Int)) (.ok (.inl (A, (X.set (i).toNat (splice (row X i) 0 [.i ((nth (row A i) 0).int), .i ((nth (row A i) 1).int), .b ((nth (row A i) 2).bool)])), (IntKind.wrap .i64 (i + (1 : Int))))))
    .no)
   .no)
  (.ok (.inr X)))
def laws_toFilterS_3_sl (x : laws_toFilterS_3_σ) : List Slot := [⟨.val false [⟨.slice 25, .sh, .l (x.1)⟩], ⟨0, 0⟩⟩, ⟨.val false [⟨.slice 27, .own true, .l (x.2.1)⟩], ⟨0, 0⟩⟩, ⟨.val false [⟨.int .i64, .sh, .i (x.2.2)⟩], ⟨0, 0⟩⟩]
def laws_toFilterS_3_out : laws_toFilterS_3_ω → Ex × List Slot := (fun x => (.exit 0, [Slot.none, ⟨.val false [⟨.slice 27, .own true, .l x⟩], ⟨0, 0⟩⟩]))
noncomputable def laws_toFilterS_lo3 : List Slot → Option (Told (Ex × List Slot)) := fun s => match s with
  | [⟨.val false [⟨.slice 25, .sh, .l A⟩], ⟨0, 0⟩⟩, ⟨.val false [⟨.slice 27, .own true, .l X⟩], ⟨0, 0⟩⟩, ⟨.val false [⟨.int .i64, .sh, .i i⟩], ⟨0, 0⟩⟩] => some (((laws_toFilterS_3_fin A X i)).map laws_toFilterS_3_out)
  | _ => .none
noncomputable def laws_toFilterS_lo : LoopTeller := fun r s => bif Nat.beq r 3 then laws_toFilterS_lo3 s else .none
theorem laws_toFilterS_3_r (A : List (List TC)) (X : List (List TC)) (i : Int) (n : Nat) : rounds (rnd tab FT D2 live 26 laws_toFilterS_lo 0 3) leave (n + 1) (laws_toFilterS_3_sl (A, X, i)) = ((laws_toFilterS_3_step A X i)).run (goOn (fun s => rounds (rnd tab FT D2 live 26 laws_toFilterS_lo 0 3) leave n (laws_toFilterS_3_sl s)) fun w => some (laws_toFilterS_3_out w)) := by kernel_rfl
noncomputable def laws_toFilterS_3_st : laws_toFilterS_3_σ → Tr (laws_toFilterS_3_σ ⊕ laws_toFilterS_3_ω) := fun x => (laws_toFilterS_3_step (x.1) (x.2.1) (x.2.2))
theorem laws_toFilterS_3_h (A : List (List TC)) (X : List (List TC)) (i : Int) (w : laws_toFilterS_3_ω) : ((laws_toFilterS_3_fin A X i)).val = some w → ∃ n, loopN laws_toFilterS_3_st n (A, X, i) = some w := by
  intro h
  simp only [laws_toFilterS_3_fin, Told.val] at h
  split at h
  · rename_i ho
    obtain ⟨ht, rfl, rfl⟩ := is_iff.1 ho
    cases h
    have hlen : A.length ≤ 140737488351232 := by have := typed_room ht; simp only [show (tab 25).bytes = 24 from rfl] at this; omega
    have key := loopN_copy (step := laws_toFilterS_3_st) A (List.replicate A.length laws_toFilterS_z) laws_toFilterS_g (fun Y i => (A, Y, (i : Int))) (A.map laws_toFilterS_g) (by simp) (fun x hx i _ => by rw [(List.mem_replicate.1 hx).2]; exact Nat.le_refl 3) (fun Y i hi hl => ?_) ?_ A.length 0 (by omega)
    · rw [copied_zero] at key
      exact ⟨_, key⟩
    · skip
      show (laws_toFilterS_3_step A Y (i : Int)).val = _
      unfold laws_toFilterS_3_step
      refine Tr.t (by simp; omega) ?_
      refine Tr.t (by constructor <;> omega) ?_
      refine Tr.t (by constructor <;> omega) ?_
      repeat (refine Tr.t (is_true (by and_intros <;> (first | rfl | assumption | exact (is_true (by and_intros <;> (first | rfl | assumption | exact (is_true (by and_intros <;> (first | rfl | assumption | exact (is_true (by and_intros <;> (first | rfl | assumption | exact (is_true (by and_intros <;> (first | rfl | assumption))))))))))))))) ?_)
      rw [Tr.val_ok, wrap64 (by omega) (by omega)]; rfl
    · show (laws_toFilterS_3_step A (A.map laws_toFilterS_g) (A.length : Int)).val = _
      refine Tr.n (by simp) ?_
      rfl
  · cases h
theorem laws_toFilterS_is3 : LoopIs tab FT D2 live 26 laws_toFilterS_lo 0 3 := by
  refine loop_told (sl := laws_toFilterS_3_sl) (step := laws_toFilterS_3_st) (out := laws_toFilterS_3_out) (lor := laws_toFilterS_lo3) (fin := fun x => (laws_toFilterS_3_fin (x.1) (x.2.1) (x.2.2))) (fun _ => rfl) ?_ (fun x n => laws_toFilterS_3_r x.1 x.2.1 x.2.2 n) (fun x w => laws_toFilterS_3_h x.1 x.2.1 x.2.2 w)
  intro s t h
  unfold laws_toFilterS_lo3 at h
  split at h
  · cases h; exact ⟨(_, _, _), rfl, rfl⟩
  · cases h
noncomputable def laws_toFilterS_t (A : List (List TC)) : Tr (List (List TC)) := (.ite (0 ≤ (A.length : Int) ∧ (A.length : Int) ≤ (A.length : Int) ∧ (A.length : Int) * 24 ≤ 140737488355328 ∧ (A.length : Int) ≤ 140737488355328) (.ite ((laws_toFilterS_o3_1 A (List.replicate ((A.length : Int)).toNat [.i (0 : Int), .i (0 : Int), .b false]) (0 : Int)) = true) (.ok (laws_toFilterS_u3_1 A (List.replicate ((A.length : Int)).toNat [.i (0 : Int), .i (0 : Int), .b false]) (0 : Int)))
   .no)
  .no)
def laws_toFilterS_mk (p : List (List TC)) : Res := [(false, [⟨.slice 27, .own true, .l p⟩])]
noncomputable def laws_toFilterS_c (A : List (List TC)) : Bool := is (Typed tab (.slice 25) (.l A))
noncomputable def laws_toFilterS_v (A : List (List TC)) : List (List TC) := A.map laws_toFilterS_g
theorem laws_toFilterS_l (A : List (List TC)) : (laws_toFilterS_c A) = true → (laws_toFilterS_t A).val = some (laws_toFilterS_v A) := by
  intro h
  have ht := is_iff.1 h
  have hb := typed_room ht
  simp only [show (tab 25).bytes = 24 from rfl] at hb
  unfold laws_toFilterS_t
  refine Tr.t (by omega) ?_
  refine Tr.t (is_true ⟨ht, by rfl, rfl⟩) ?_
  rfl
noncomputable def laws_toFilterS_S : List Arg → Option (Bool × Res) := fun xs => match xs with
  | [(false, [(.slice 25, .l A)])] => some ((laws_toFilterS_c A), laws_toFilterS_mk (laws_toFilterS_v A))
  | _ => .none
theorem laws_toFilterS_e (A : List (List TC)) : runF tab FT D2 live 26 laws_toFilterS_lo [(false, [(.slice 25, .l A)])] = (laws_toFilterS_t A).run fun p => some (laws_toFilterS_mk p) := by kernel_rfl
theorem laws_toFilterS_s : ∀ xs r, laws_toFilterS_S xs = some (true, r) → runF tab FT D2 live 26 laws_toFilterS_lo xs = some r := by
  intro xs r h
  unfold laws_toFilterS_S at h
  split at h
  · simp only [Option.some.injEq, Prod.mk.injEq] at h
    obtain ⟨h1, rfl⟩ := h
    exact fun_told (laws_toFilterS_e _) (laws_toFilterS_l _) h1
  · cases h
noncomputable def D3 : Dt := also D2 26 laws_toFilterS_S
theorem d3 : DOk Go.Proofs.Try.prog tab D3 := d2.also mixed_ok tab_ok names_ok (fnLoops_one (by kernel_rfl) laws_toFilterS_is3) laws_toFilterS_s
theorem laws_toFilterS_ty {A : List (List TC)} (h : Typed tab (.slice 25) (.l A)) : Typed tab (.slice 27) (.l (A.map laws_toFilterS_g)) := by
  refine typed_map h (by decide) fun x _ _ hx => ⟨rfl, fun k hk => ?_⟩
  match k, hk with
    | 0, _ => exact typed_i (hx 0 (by decide))
    | 1, _ => exact typed_i (hx 1 (by decide))
    | 2, _ => exact typed_b (hx 2 (by decide))
/-! spec_l19Same -/
def E_27 (x y : List TC) : Bool := (((nth x 0).int == (nth y 0).int) && (((nth x 1).int == (nth y 1).int) && (((nth x 2).bool == (nth y 2).bool) && true)))
abbrev spec_l19Same_4_σ := List (List TC) × List (List TC) × Int
abbrev spec_l19Same_4_ω := (Unit) ⊕ (Unit)
noncomputable def spec_l19Same_k4_1 (A : List (List TC)) (C : List (List TC)) (i : Int) : Bool := allEq E_27 A C
noncomputable def spec_l19Same_o4_2 (A : List (List TC)) (C : List (List TC)) (i : Int) : Bool := is (A.length = C.length ∧ i = 0 ∧ Typed tab (.slice 27) (.l A))
noncomputable def spec_l19Same_u4_2 (A : List (List TC)) (C : List (List TC)) (i : Int) : Unit := ()
noncomputable def spec_l19Same_o4_3 (A : List (List TC)) (C : List (List TC)) (i : Int) : Bool := is (A.length = C.length ∧ i = 0 ∧ Typed tab (.slice 27) (.l A))
noncomputable def spec_l19Same_u4_3 (A : List (List TC)) (C : List (List TC)) (i : Int) : Unit := ()
noncomputable def spec_l19Same_4_fin (A : List (List TC)) (C : List (List TC)) (i : Int) : Told spec_l19Same_4_ω := (.br (spec_l19Same_k4_1 A C i) (.leaf (spec_l19Same_o4_2 A C i) (.inr (spec_l19Same_u4_2 A C i))) (.leaf (spec_l19Same_o4_3 A C i) (.inl (spec_l19Same_u4_3 A C i))))
noncomputable def spec_l19Same_4_step (A : List (List TC)) (C : List (List TC)) (i : Int) : Tr (spec_l19Same_4_σ ⊕ spec_l19Same_4_ω) := (.ite ((decide (i < (A.length : Int))) = true) (.ite ((0 : Int) ≤ i ∧ i < (A.length : Int)) (.ite ((0 : Int) ≤ i ∧ i < (C.length : Int)) (.ite ((!(((nth (row A i) 0).int == (nth (row C i) 0).int) && (((nth (row A i) 1).int == (nth (row C i) 1).int) && (((nth (row A i) 2).bool == (nth (row C i) 2).bool) && true)))) = true) (.ok (.inr (.inl ())))
     (.ok (.inl (A, C, (IntKind.wrap .i64 (i + (1 : Int)))))))
    .no)
   .no)
  (.ok (.inr (.inr ()))))
def spec_l19Same_4_sl (x : spec_l19Same_4_σ) : List Slot := [⟨.val false [⟨.slice 27, .sh, .l (x.1)⟩], ⟨0, 0⟩⟩, ⟨.val false [⟨.slice 27, .sh, .l (x.2.1)⟩], ⟨0, 0⟩⟩, ⟨.val false [⟨.int .i64, .sh, .i (x.2.2)⟩], ⟨0, 0⟩⟩]
def spec_l19Same_4_out : spec_l19Same_4_ω → Ex × List Slot := (Sum.elim (fun x => (.ret, [⟨.val false [⟨.bool, .sh, .b false⟩], ⟨0, 0⟩⟩])) (fun x => (.exit 0, [Slot.none])))
noncomputable def spec_l19Same_lo4 : List Slot → Option (Told (Ex × List Slot)) := fun s => match s with
  | [⟨.val false [⟨.slice 27, .sh, .l A⟩], ⟨0, 0⟩⟩, ⟨.val false [⟨.slice 27, .sh, .l C⟩], ⟨0, 0⟩⟩, ⟨.val false [⟨.int .i64, .sh, .i i⟩], ⟨0, 0⟩⟩] => some (((spec_l19Same_4_fin A C i)).map spec_l19Same_4_out)
  | _ => .none
noncomputable def spec_l19Same_lo : LoopTeller := fun r s => bif Nat.beq r 4 then spec_l19Same_lo4 s else .none
theorem spec_l19Same_4_r (A : List (List TC)) (C : List (List TC)) (i : Int) (n : Nat) : rounds (rnd tab FT D3 live 62 spec_l19Same_lo 0 4) leave (n + 1) (spec_l19Same_4_sl (A, C, i)) = ((spec_l19Same_4_step A C i)).run (goOn (fun s => rounds (rnd tab FT D3 live 62 spec_l19Same_lo 0 4) leave n (spec_l19Same_4_sl s)) fun w => some (spec_l19Same_4_out w)) := by kernel_rfl
noncomputable def spec_l19Same_4_st : spec_l19Same_4_σ → Tr (spec_l19Same_4_σ ⊕ spec_l19Same_4_ω) := fun x => (spec_l19Same_4_step (x.1) (x.2.1) (x.2.2))
theorem spec_l19Same_4_h (A : List (List TC)) (C : List (List TC)) (i : Int) (w : spec_l19Same_4_ω) : ((spec_l19Same_4_fin A C i)).val = some w → ∃ n, loopN spec_l19Same_4_st n (A, C, i) = some w := by
  intro h
  have key : A.length = C.length → Typed tab (.slice 27) (.l A) → loopN spec_l19Same_4_st (A.length + 1) (A, C, 0) = some (if allEq E_27 A C = true then .inr () else .inl ()) := by
    intro hl ht
    have hlen : A.length ≤ 140737488351232 := by have := typed_room ht; simp only [show (tab 27).bytes = 24 from rfl] at this; omega
    refine loopN_allEq A C E_27 (fun i => (A, C, (i : Int))) _ _ hl (fun i hi => ?_) ?_ A.length 0 (by omega)
    · show (spec_l19Same_4_step A C (i : Int)).val = _
      unfold spec_l19Same_4_step
      refine Tr.t (by simp; omega) ?_
      refine Tr.t (by constructor <;> omega) ?_
      refine Tr.t (by constructor <;> omega) ?_
      rw [wrap64 (by omega) (by omega)]
      rw [Tr.val_br]
      show (if (!(E_27 (A.getD i []) (C.getD i []))) = true then _ else _) = _
      cases E_27 (A.getD i []) (C.getD i []) <;> rfl
    · show (spec_l19Same_4_step A C (A.length : Int)).val = _
      refine Tr.n (by simp) ?_
      rfl
  simp only [spec_l19Same_4_fin, Told.val] at h
  cases hk : allEq E_27 A C with
  | true =>
    rw [if_pos (show spec_l19Same_k4_1 A C i = true from hk)] at h
    split at h
    · rename_i ho
      obtain ⟨hl, rfl, ht⟩ := is_iff.1 ho
      cases h
      refine ⟨_, (key hl ht).trans ?_⟩
      rw [hk]; rfl
    · cases h
  | false =>
    rw [if_neg (show ¬spec_l19Same_k4_1 A C i = true from by rw [show spec_l19Same_k4_1 A C i = allEq E_27 A C from rfl, hk]; simp)] at h
    split at h
    · rename_i ho
      obtain ⟨hl, rfl, ht⟩ := is_iff.1 ho
      cases h
      refine ⟨_, (key hl ht).trans ?_⟩
      rw [hk]; rfl
    · cases h
theorem spec_l19Same_is4 : LoopIs tab FT D3 live 62 spec_l19Same_lo 0 4 := by
  refine loop_told (sl := spec_l19Same_4_sl) (step := spec_l19Same_4_st) (out := spec_l19Same_4_out) (lor := spec_l19Same_lo4) (fin := fun x => (spec_l19Same_4_fin (x.1) (x.2.1) (x.2.2))) (fun _ => rfl) ?_ (fun x n => spec_l19Same_4_r x.1 x.2.1 x.2.2 n) (fun x w => spec_l19Same_4_h x.1 x.2.1 x.2.2 w)
  intro s t h
  unfold spec_l19Same_lo4 at h
  split at h
  · cases h; exact ⟨(_, _, _), rfl, rfl⟩
  · cases h
noncomputable def spec_l19Same_t (A : List (List TC)) (C : List (List TC)) : Tr (Bool) := (.ite ((!((A.length : Int) == (C.length : Int))) = true) (.ok false)
  (.ite ((spec_l19Same_k4_1 A C (0 : Int)) = true) (.ite ((spec_l19Same_o4_2 A C (0 : Int)) = true) (.ok true)
    .no)
   (.ite ((spec_l19Same_o4_3 A C (0 : Int)) = true) (.ok false)
    .no)))
def spec_l19Same_mk (p : Bool) : Res := [(false, [⟨.bool, .sh, .b p⟩])]
noncomputable def spec_l19Same_c (A : List (List TC)) (C : List (List TC)) : Bool := is (Typed tab (.slice 27) (.l A))
noncomputable def spec_l19Same_v (A : List (List TC)) (C : List (List TC)) : Bool := allEq E_27 A C
theorem spec_l19Same_l (A : List (List TC)) (C : List (List TC)) : (spec_l19Same_c A C) = true → (spec_l19Same_t A C).val = some (spec_l19Same_v A C) := by
  intro h
  have ht := is_iff.1 h
  unfold spec_l19Same_t
  by_cases hl : A.length = C.length
  · refine Tr.n (by simp [hl]) ?_
    cases hk : allEq E_27 A C with
    | true =>
      refine Tr.t (show allEq E_27 A C = true from hk) ?_
      refine Tr.t (is_true ⟨hl, rfl, ht⟩) ?_
      show _ = some (allEq E_27 A C); rw [hk]; rfl
    | false =>
      refine Tr.n (show ¬allEq E_27 A C = true from by rw [hk]; simp) ?_
      refine Tr.t (is_true ⟨hl, rfl, ht⟩) ?_
      show _ = some (allEq E_27 A C); rw [hk]; rfl
  · refine Tr.t (by simp; omega) ?_
    show _ = some (allEq E_27 A C)
    rw [allEq_ne hl]
    rfl
noncomputable def spec_l19Same_S : List Arg → Option (Bool × Res) := fun xs => match xs with
  | [(false, [(.slice 27, .l A)]), (false, [(.slice 27, .l C)])] => some ((spec_l19Same_c A C), spec_l19Same_mk (spec_l19Same_v A C))
  | _ => .none
theorem spec_l19Same_e (A : List (List TC)) (C : List (List TC)) : runF tab FT D3 live 62 spec_l19Same_lo [(false, [(.slice 27, .l A)]), (false, [(.slice 27, .l C)])] = (spec_l19Same_t A C).run fun p => some (spec_l19Same_mk p) := by kernel_rfl
theorem spec_l19Same_s : ∀ xs r, spec_l19Same_S xs = some (true, r) → runF tab FT D3 live 62 spec_l19Same_lo xs = some r := by
  intro xs r h
  unfold spec_l19Same_S at h
  split at h
  · simp only [Option.some.injEq, Prod.mk.injEq] at h
    obtain ⟨h1, rfl⟩ := h
    exact fun_told (spec_l19Same_e _ _) (spec_l19Same_l _ _) h1
  · cases h
noncomputable def D4 : Dt := also D3 62 spec_l19Same_S
theorem d4 : DOk Go.Proofs.Try.prog tab D4 := d3.also mixed_ok tab_ok names_ok (fnLoops_one (by kernel_rfl) spec_l19Same_is4) spec_l19Same_s
/-! spec_SamePipeline -/
noncomputable def spec_SamePipeline_t (a0 : List (List TC)) (a1 : List (List TC)) : Tr (Bool) := (.ite ((spec_l19Same_c a0 a1) = true) (.ok (spec_l19Same_v a0 a1))
  .no)
def spec_SamePipeline_mk (p : Bool) : Res := [(false, [⟨.bool, .sh, .b p⟩])]
noncomputable def spec_SamePipeline_c (a0 : List (List TC)) (a1 : List (List TC)) : Bool := (spec_l19Same_c a0 a1)
noncomputable def spec_SamePipeline_v (a0 : List (List TC)) (a1 : List (List TC)) : Bool := (spec_l19Same_v a0 a1)
theorem spec_SamePipeline_l (a0 : List (List TC)) (a1 : List (List TC)) : (spec_SamePipeline_c a0 a1) = true → (spec_SamePipeline_t a0 a1).val = some (spec_SamePipeline_v a0 a1) := by
  intro h
  have hc0 : (spec_l19Same_c a0 a1) = true := h
  unfold spec_SamePipeline_t
  exact (Tr.t hc0 rfl)
noncomputable def spec_SamePipeline_S : List Arg → Option (Bool × Res) := fun xs => match xs with
  | [(false, [(.slice 27, .l a0)]), (false, [(.slice 27, .l a1)])] => some ((spec_SamePipeline_c a0 a1), spec_SamePipeline_mk (spec_SamePipeline_v a0 a1))
  | _ => .none
theorem spec_SamePipeline_e (a0 : List (List TC)) (a1 : List (List TC)) : runF tab FT D4 live 25 noLoops [(false, [(.slice 27, .l a0)]), (false, [(.slice 27, .l a1)])] = (spec_SamePipeline_t a0 a1).run fun p => some (spec_SamePipeline_mk p) := by kernel_rfl
theorem spec_SamePipeline_s : ∀ xs r, spec_SamePipeline_S xs = some (true, r) → runF tab FT D4 live 25 noLoops xs = some r := by
  intro xs r h
  unfold spec_SamePipeline_S at h
  split at h
  · simp only [Option.some.injEq, Prod.mk.injEq] at h
    obtain ⟨h1, rfl⟩ := h
    exact fun_told (spec_SamePipeline_e _ _) (spec_SamePipeline_l _ _) h1
  · cases h
noncomputable def D5 : Dt := also D4 25 spec_SamePipeline_S
theorem d5 : DOk Go.Proofs.Try.prog tab D5 := d4.also mixed_ok tab_ok names_ok noLoops_ok spec_SamePipeline_s
/-! slices_Equal_impl_Filter_impl_Filter -/
abbrev slices_Equal_impl_Filter_impl_Filter_4_σ := List (List TC) × List (List TC) × Int × Int
abbrev slices_Equal_impl_Filter_impl_Filter_4_ω := (Unit) ⊕ (Unit)
noncomputable def slices_Equal_impl_Filter_impl_Filter_k4_1 (A : List (List TC)) (C : List (List TC)) (m : Int) (i : Int) : Bool := allEq E_27 A C
noncomputable def slices_Equal_impl_Filter_impl_Filter_o4_2 (A : List (List TC)) (C : List (List TC)) (m : Int) (i : Int) : Bool := is (A.length = C.length ∧ i = 0 ∧ Typed tab (.slice 27) (.l A) ∧ m = (A.length : Int))
noncomputable def slices_Equal_impl_Filter_impl_Filter_u4_2 (A : List (List TC)) (C : List (List TC)) (m : Int) (i : Int) : Unit := ()
noncomputable def slices_Equal_impl_Filter_impl_Filter_o4_3 (A : List (List TC)) (C : List (List TC)) (m : Int) (i : Int) : Bool := is (A.length = C.length ∧ i = 0 ∧ Typed tab (.slice 27) (.l A) ∧ m = (A.length : Int))
noncomputable def slices_Equal_impl_Filter_impl_Filter_u4_3 (A : List (List TC)) (C : List (List TC)) (m : Int) (i : Int) : Unit := ()
noncomputable def slices_Equal_impl_Filter_impl_Filter_4_fin (A : List (List TC)) (C : List (List TC)) (m : Int) (i : Int) : Told slices_Equal_impl_Filter_impl_Filter_4_ω := (.br (slices_Equal_impl_Filter_impl_Filter_k4_1 A C m i) (.leaf (slices_Equal_impl_Filter_impl_Filter_o4_2 A C m i) (.inr (slices_Equal_impl_Filter_impl_Filter_u4_2 A C m i))) (.leaf (slices_Equal_impl_Filter_impl_Filter_o4_3 A C m i) (.inl (slices_Equal_impl_Filter_impl_Filter_u4_3 A C m i))))
noncomputable def slices_Equal_impl_Filter_impl_Filter_4_step (A : List (List TC)) (C : List (List TC)) (m : Int) (i : Int) : Tr (slices_Equal_impl_Filter_impl_Filter_4_σ ⊕ slices_Equal_impl_Filter_impl_Filter_4_ω) := (.ite ((decide (i < m)) = true) (.ite ((0 : Int) ≤ i ∧ i < (A.length : Int)) (.ite ((0 : Int) ≤ i ∧ i < (C.length : Int)) (.ite ((!(((nth (row A i) 0).int == (nth (row C i) 0).int) && (((nth (row A i) 1).int == (nth (row C i) 1).int) && (((nth (row A i) 2).bool == (nth (row C i) 2).bool) && true)))) = true) (.ok (.inr (.inl ())))
     (.ok (.inl (A, C, m, (IntKind.wrap .i64 (i + (1 : Int)))))))
    .no)
   .no)
  (.ok (.inr (.inr ()))))
def slices_Equal_impl_Filter_impl_Filter_4_sl (x : slices_Equal_impl_Filter_impl_Filter_4_σ) : List Slot := [⟨.val false [⟨.slice 27, .sh, .l (x.1)⟩], ⟨0, 0⟩⟩, ⟨.val false [⟨.slice 27, .sh, .l (x.2.1)⟩], ⟨0, 0⟩⟩, ⟨.val false [⟨.int .i64, .sh, .i (x.2.2.1)⟩], ⟨0, 0⟩⟩, ⟨.val false [⟨.int .i64, .sh, .i (x.2.2.2)⟩], ⟨0, 0⟩⟩]
def slices_Equal_impl_Filter_impl_Filter_4_out : slices_Equal_impl_Filter_impl_Filter_4_ω → Ex × List Slot := (Sum.elim (fun x => (.ret, [⟨.val false [⟨.bool, .sh, .b false⟩], ⟨0, 0⟩⟩])) (fun x => (.exit 0, [Slot.none])))
noncomputable def slices_Equal_impl_Filter_impl_Filter_lo4 : List Slot → Option (Told (Ex × List Slot)) := fun s => match s with
  | [⟨.val false [⟨.slice 27, .sh, .l A⟩], ⟨0, 0⟩⟩, ⟨.val false [⟨.slice 27, .sh, .l C⟩], ⟨0, 0⟩⟩, ⟨.val false [⟨.int .i64, .sh, .i m⟩], ⟨0, 0⟩⟩, ⟨.val false [⟨.int .i64, .sh, .i i⟩], ⟨0, 0⟩⟩] => some (((slices_Equal_impl_Filter_impl_Filter_4_fin A C m i)).map slices_Equal_impl_Filter_impl_Filter_4_out)
  | _ => .none
noncomputable def slices_Equal_impl_Filter_impl_Filter_lo : LoopTeller := fun r s => bif Nat.beq r 4 then slices_Equal_impl_Filter_impl_Filter_lo4 s else .none
theorem slices_Equal_impl_Filter_impl_Filter_4_r (A : List (List TC)) (C : List (List TC)) (m : Int) (i : Int) (n : Nat) : rounds (rnd tab FT D5 live 63 slices_Equal_impl_Filter_impl_Filter_lo 0 4) leave (n + 1) (slices_Equal_impl_Filter_impl_Filter_4_sl (A, C, m, i)) = ((slices_Equal_impl_Filter_impl_Filter_4_step A C m i)).run (goOn (fun s => rounds (rnd tab FT D5 live 63 slices_Equal_impl_Filter_impl_Filter_lo 0 4) leave n (slices_Equal_impl_Filter_impl_Filter_4_sl s)) fun w => some (slices_Equal_impl_Filter_impl_Filter_4_out w)) := by kernel_rfl
noncomputable def slices_Equal_impl_Filter_impl_Filter_4_st : slices_Equal_impl_Filter_impl_Filter_4_σ → Tr (slices_Equal_impl_Filter_impl_Filter_4_σ ⊕ slices_Equal_impl_Filter_impl_Filter_4_ω) := fun x => (slices_Equal_impl_Filter_impl_Filter_4_step (x.1) (x.2.1) (x.2.2.1) (x.2.2.2))
theorem slices_Equal_impl_Filter_impl_Filter_4_h (A : List (List TC)) (C : List (List TC)) (m : Int) (i : Int) (w : slices_Equal_impl_Filter_impl_Filter_4_ω) : ((slices_Equal_impl_Filter_impl_Filter_4_fin A C m i)).val = some w → ∃ n, loopN slices_Equal_impl_Filter_impl_Filter_4_st n (A, C, m, i) = some w := by
  intro h
  have key : A.length = C.length → Typed tab (.slice 27) (.l A) → loopN slices_Equal_impl_Filter_impl_Filter_4_st (A.length + 1) (A, C, (A.length : Int), 0) = some (if allEq E_27 A C = true then .inr () else .inl ()) := by
    intro hl ht
    have hlen : A.length ≤ 140737488351232 := by have := typed_room ht; simp only [show (tab 27).bytes = 24 from rfl] at this; omega
    refine loopN_allEq A C E_27 (fun i => (A, C, (A.length : Int), (i : Int))) _ _ hl (fun i hi => ?_) ?_ A.length 0 (by omega)
    · show (slices_Equal_impl_Filter_impl_Filter_4_step A C (A.length : Int) (i : Int)).val = _
      unfold slices_Equal_impl_Filter_impl_Filter_4_step
      refine Tr.t (by simp; omega) ?_
      refine Tr.t (by constructor <;> omega) ?_
      refine Tr.t (by constructor <;> omega) ?_
      rw [wrap64 (by omega) (by omega)]
      rw [Tr.val_br]
      show (if (!(E_27 (A.getD i []) (C.getD i []))) = true then _ else _) = _
      cases E_27 (A.getD i []) (C.getD i []) <;> rfl
    · show (slices_Equal_impl_Filter_impl_Filter_4_step A C (A.length : Int) (A.length : Int)).val = _
      refine Tr.n (by simp) ?_
      rfl
  simp only [slices_Equal_impl_Filter_impl_Filter_4_fin, Told.val] at h
  cases hk : allEq E_27 A C with
  | true =>
    rw [if_pos (show slices_Equal_impl_Filter_impl_Filter_k4_1 A C m i = true from hk)] at h
    split at h
    · rename_i ho
      obtain ⟨hl, rfl, ht, rfl⟩ := is_iff.1 ho
      cases h
      refine ⟨_, (key hl ht).trans ?_⟩
      rw [hk]; rfl
    · cases h
  | false =>
    rw [if_neg (show ¬slices_Equal_impl_Filter_impl_Filter_k4_1 A C m i = true from by rw [show slices_Equal_impl_Filter_impl_Filter_k4_1 A C m i = allEq E_27 A C from rfl, hk]; simp)] at h
    split at h
    · rename_i ho
      obtain ⟨hl, rfl, ht, rfl⟩ := is_iff.1 ho
      cases h
      refine ⟨_, (key hl ht).trans ?_⟩
      rw [hk]; rfl
    · cases h
theorem slices_Equal_impl_Filter_impl_Filter_is4 : LoopIs tab FT D5 live 63 slices_Equal_impl_Filter_impl_Filter_lo 0 4 := by
  refine loop_told (sl := slices_Equal_impl_Filter_impl_Filter_4_sl) (step := slices_Equal_impl_Filter_impl_Filter_4_st) (out := slices_Equal_impl_Filter_impl_Filter_4_out) (lor := slices_Equal_impl_Filter_impl_Filter_lo4) (fin := fun x => (slices_Equal_impl_Filter_impl_Filter_4_fin (x.1) (x.2.1) (x.2.2.1) (x.2.2.2))) (fun _ => rfl) ?_ (fun x n => slices_Equal_impl_Filter_impl_Filter_4_r x.1 x.2.1 x.2.2.1 x.2.2.2 n) (fun x w => slices_Equal_impl_Filter_impl_Filter_4_h x.1 x.2.1 x.2.2.1 x.2.2.2 w)
  intro s t h
  unfold slices_Equal_impl_Filter_impl_Filter_lo4 at h
  split at h
  · cases h; exact ⟨(_, _, _, _), rfl, rfl⟩
  · cases h
noncomputable def slices_Equal_impl_Filter_impl_Filter_t (A : List (List TC)) (C : List (List TC)) : Tr (Bool) := (.ite ((!((A.length : Int) == (C.length : Int))) = true) (.ok false)
  (.ite ((slices_Equal_impl_Filter_impl_Filter_k4_1 A C (A.length : Int) (0 : Int)) = true) (.ite ((slices_Equal_impl_Filter_impl_Filter_o4_2 A C (A.length : Int) (0 : Int)) = true) (.ok true)
    .no)
   (.ite ((slices_Equal_impl_Filter_impl_Filter_o4_3 A C (A.length : Int) (0 : Int)) = true) (.ok false)
    .no)))
def slices_Equal_impl_Filter_impl_Filter_mk (p : Bool) : Res := [(false, [⟨.bool, .sh, .b p⟩])]
noncomputable def slices_Equal_impl_Filter_impl_Filter_c (A : List (List TC)) (C : List (List TC)) : Bool := is (Typed tab (.slice 27) (.l A))
noncomputable def slices_Equal_impl_Filter_impl_Filter_v (A : List (List TC)) (C : List (List TC)) : Bool := allEq E_27 A C
theorem slices_Equal_impl_Filter_impl_Filter_l (A : List (List TC)) (C : List (List TC)) : (slices_Equal_impl_Filter_impl_Filter_c A C) = true → (slices_Equal_impl_Filter_impl_Filter_t A C).val = some (slices_Equal_impl_Filter_impl_Filter_v A C) := by
  intro h
  have ht := is_iff.1 h
  unfold slices_Equal_impl_Filter_impl_Filter_t
  by_cases hl : A.length = C.length
  · refine Tr.n (by simp [hl]) ?_
    cases hk : allEq E_27 A C with
    | true =>
      refine Tr.t (show allEq E_27 A C = true from hk) ?_
      refine Tr.t (is_true ⟨hl, rfl, ht, rfl⟩) ?_
      show _ = some (allEq E_27 A C); rw [hk]; rfl
    | false =>
      refine Tr.n (show ¬allEq E_27 A C = true from by rw [hk]; simp) ?_
      refine Tr.t (is_true ⟨hl, rfl, ht, rfl⟩) ?_
      show _ = some (allEq E_27 A C); rw [hk]; rfl
  · refine Tr.t (by simp; omega) ?_
    show _ = some (allEq E_27 A C)
    rw [allEq_ne hl]
    rfl
noncomputable def slices_Equal_impl_Filter_impl_Filter_S : List Arg → Option (Bool × Res) := fun xs => match xs with
  | [(false, [(.slice 27, .l A)]), (false, [(.slice 27, .l C)])] => some ((slices_Equal_impl_Filter_impl_Filter_c A C), slices_Equal_impl_Filter_impl_Filter_mk (slices_Equal_impl_Filter_impl_Filter_v A C))
  | _ => .none
theorem slices_Equal_impl_Filter_impl_Filter_e (A : List (List TC)) (C : List (List TC)) : runF tab FT D5 live 63 slices_Equal_impl_Filter_impl_Filter_lo [(false, [(.slice 27, .l A)]), (false, [(.slice 27, .l C)])] = (slices_Equal_impl_Filter_impl_Filter_t A C).run fun p => some (slices_Equal_impl_Filter_impl_Filter_mk p) := by kernel_rfl
theorem slices_Equal_impl_Filter_impl_Filter_s : ∀ xs r, slices_Equal_impl_Filter_impl_Filter_S xs = some (true, r) → runF tab FT D5 live 63 slices_Equal_impl_Filter_impl_Filter_lo xs = some r := by
  intro xs r h
  unfold slices_Equal_impl_Filter_impl_Filter_S at h
  split at h
  · simp only [Option.some.injEq, Prod.mk.injEq] at h
    obtain ⟨h1, rfl⟩ := h
    exact fun_told (slices_Equal_impl_Filter_impl_Filter_e _ _) (slices_Equal_impl_Filter_impl_Filter_l _ _) h1
  · cases h
noncomputable def D6 : Dt := also D5 63 slices_Equal_impl_Filter_impl_Filter_S
theorem d6 : DOk Go.Proofs.Try.prog tab D6 := d5.also mixed_ok tab_ok names_ok (fnLoops_one (by kernel_rfl) slices_Equal_impl_Filter_impl_Filter_is4) slices_Equal_impl_Filter_impl_Filter_s
/-! impl_SamePipeline -/
noncomputable def impl_SamePipeline_t (a0 : List (List TC)) (a1 : List (List TC)) : Tr (Bool) := (.ite ((slices_Equal_impl_Filter_impl_Filter_c a0 a1) = true) (.ok (slices_Equal_impl_Filter_impl_Filter_v a0 a1))
  .no)
def impl_SamePipeline_mk (p : Bool) : Res := [(false, [⟨.bool, .sh, .b p⟩])]
noncomputable def impl_SamePipeline_c (a0 : List (List TC)) (a1 : List (List TC)) : Bool := (slices_Equal_impl_Filter_impl_Filter_c a0 a1)
noncomputable def impl_SamePipeline_v (a0 : List (List TC)) (a1 : List (List TC)) : Bool := (slices_Equal_impl_Filter_impl_Filter_v a0 a1)
theorem impl_SamePipeline_l (a0 : List (List TC)) (a1 : List (List TC)) : (impl_SamePipeline_c a0 a1) = true → (impl_SamePipeline_t a0 a1).val = some (impl_SamePipeline_v a0 a1) := by
  intro h
  have hc0 : (slices_Equal_impl_Filter_impl_Filter_c a0 a1) = true := h
  unfold impl_SamePipeline_t
  exact (Tr.t hc0 rfl)
noncomputable def impl_SamePipeline_S : List Arg → Option (Bool × Res) := fun xs => match xs with
  | [(false, [(.slice 27, .l a0)]), (false, [(.slice 27, .l a1)])] => some ((impl_SamePipeline_c a0 a1), impl_SamePipeline_mk (impl_SamePipeline_v a0 a1))
  | _ => .none
theorem impl_SamePipeline_e (a0 : List (List TC)) (a1 : List (List TC)) : runF tab FT D6 live 27 noLoops [(false, [(.slice 27, .l a0)]), (false, [(.slice 27, .l a1)])] = (impl_SamePipeline_t a0 a1).run fun p => some (impl_SamePipeline_mk p) := by kernel_rfl
theorem impl_SamePipeline_s : ∀ xs r, impl_SamePipeline_S xs = some (true, r) → runF tab FT D6 live 27 noLoops xs = some r := by
  intro xs r h
  unfold impl_SamePipeline_S at h
  split at h
  · simp only [Option.some.injEq, Prod.mk.injEq] at h
    obtain ⟨h1, rfl⟩ := h
    exact fun_told (impl_SamePipeline_e _ _) (impl_SamePipeline_l _ _) h1
  · cases h
noncomputable def D7 : Dt := also D6 27 impl_SamePipeline_S
theorem d7 : DOk Go.Proofs.Try.prog tab D7 := d6.also mixed_ok tab_ok names_ok noLoops_ok impl_SamePipeline_s
/-! laws_eqFilter -/
noncomputable def laws_eqFilter_t (x0 : Int) (x1 : Int) (x2 : Bool) (y0 : Int) (y1 : Int) (y2 : Bool) : Tr (Bool) := (.ite ((!(x0 == y0)) = true) (.ok false)
  (.ite ((!(x1 == y1)) = true) (.ok false)
   (.ite ((!(x2 == y2)) = true) (.ok false)
    (.ok true))))
def laws_eqFilter_mk (p : Bool) : Res := [(false, [⟨.bool, .sh, .b p⟩])]
noncomputable def laws_eqFilter_c (x0 : Int) (x1 : Int) (x2 : Bool) (y0 : Int) (y1 : Int) (y2 : Bool) : Bool := is (x0 = y0 ∧ x1 = y1 ∧ x2 = y2)
noncomputable def laws_eqFilter_v (x0 : Int) (x1 : Int) (x2 : Bool) (y0 : Int) (y1 : Int) (y2 : Bool) : Bool := true
theorem laws_eqFilter_l (x0 : Int) (x1 : Int) (x2 : Bool) (y0 : Int) (y1 : Int) (y2 : Bool) : (laws_eqFilter_c x0 x1 x2 y0 y1 y2) = true → (laws_eqFilter_t x0 x1 x2 y0 y1 y2).val = some (laws_eqFilter_v x0 x1 x2 y0 y1 y2) := by
  intro h
  obtain ⟨rfl, rfl, rfl⟩ := is_iff.1 h
  unfold laws_eqFilter_t
  refine Tr.n (by simp) ?_
  refine Tr.n (by simp) ?_
  refine Tr.n (by simp) ?_
  rfl
noncomputable def laws_eqFilter_S : List Arg → Option (Bool × Res) := fun xs => match xs with
  | [(true, [(.int .i64, .i x0), (.int .i64, .i x1), (.bool, .b x2)]), (true, [(.int .i64, .i y0), (.int .i64, .i y1), (.bool, .b y2)])] => some ((laws_eqFilter_c x0 x1 x2 y0 y1 y2), laws_eqFilter_mk (laws_eqFilter_v x0 x1 x2 y0 y1 y2))
  | _ => .none
theorem laws_eqFilter_e (x0 : Int) (x1 : Int) (x2 : Bool) (y0 : Int) (y1 : Int) (y2 : Bool) : runF tab FT D7 live 64 noLoops [(true, [(.int .i64, .i x0), (.int .i64, .i x1), (.bool, .b x2)]), (true, [(.int .i64, .i y0), (.int .i64, .i y1), (.bool, .b y2)])] = (laws_eqFilter_t x0 x1 x2 y0 y1 y2).run fun p => some (laws_eqFilter_mk p) := by kernel_rfl
theorem laws_eqFilter_s : ∀ xs r, laws_eqFilter_S xs = some (true, r) → runF tab FT D7 live 64 noLoops xs = some r := by
  intro xs r h
  unfold laws_eqFilter_S at h
  split at h
  · simp only [Option.some.injEq, Prod.mk.injEq] at h
    obtain ⟨h1, rfl⟩ := h
    exact fun_told (laws_eqFilter_e _ _ _ _ _ _) (laws_eqFilter_l _ _ _ _ _ _) h1
  · cases h
noncomputable def D8 : Dt := also D7 64 laws_eqFilter_S
theorem d8 : DOk Go.Proofs.Try.prog tab D8 := d7.also mixed_ok tab_ok names_ok noLoops_ok laws_eqFilter_s
/-! laws_eqFilterS -/
abbrev laws_eqFilterS_4_σ := List (List TC) × List (List TC) × Int
abbrev laws_eqFilterS_4_ω := (Unit) ⊕ (Unit)
noncomputable def laws_eqFilterS_o4_1 (A : List (List TC)) (C : List (List TC)) (i : Int) : Bool := is (A = C ∧ i = 0 ∧ Typed tab (.slice 27) (.l A))
noncomputable def laws_eqFilterS_u4_1 (A : List (List TC)) (C : List (List TC)) (i : Int) : Unit := ()
noncomputable def laws_eqFilterS_4_fin (A : List (List TC)) (C : List (List TC)) (i : Int) : Told laws_eqFilterS_4_ω := (.leaf (laws_eqFilterS_o4_1 A C i) (.inr (laws_eqFilterS_u4_1 A C i)))
noncomputable def laws_eqFilterS_4_step (A : List (List TC)) (C : List (List TC)) (i : Int) : Tr (laws_eqFilterS_4_σ ⊕ laws_eqFilterS_4_ω) := (.ite ((decide (i < (A.length : Int))) = true) (.ite ((0 : Int) ≤ i ∧ i < (A.length : Int)) (.ite ((0 : Int) ≤ i ∧ i < (C.length : Int)) (.ite ((laws_eqFilter_c ((nth (row A i) 0).int) ((nth (row A i) 1).int) ((nth (row A i) 2).bool) ((nth (row C i) 0).int) ((nth (row C i) 1).int) ((nth (row C i) 2).bool)) = true) (.ite ((!(laws_eqFilter_v ((nth (row A i) 0).int) ((nth (row A i) 1).int) ((nth (row A i) 2).bool) ((nth (row C i) 0).int) ((nth (row C i) 1).int) ((nth (row C i) 2).bool))) = true) (.ok (.inr (.inl ())))
      (.ok (.inl (A, C, (IntKind.wrap .i64 (i + (1 : Int)))))))
     .no)
    .no)
   .no)
  (.ok (.inr (.inr ()))))
def laws_eqFilterS_4_sl (x : laws_eqFilterS_4_σ) : List Slot := [⟨.val false [⟨.slice 27, .sh, .l (x.1)⟩], ⟨0, 0⟩⟩, ⟨.val false [⟨.slice 27, .sh, .l (x.2.1)⟩], ⟨0, 0⟩⟩, ⟨.val false [⟨.int .i64, .sh, .i (x.2.2)⟩], ⟨0, 0⟩⟩]
def laws_eqFilterS_4_out : laws_eqFilterS_4_ω → Ex × List Slot := (Sum.elim (fun x => (.ret, [⟨.val false [⟨.bool, .sh, .b false⟩], ⟨0, 0⟩⟩])) (fun x => (.exit 0, [Slot.none])))
noncomputable def laws_eqFilterS_lo4 : List Slot → Option (Told (Ex × List Slot)) := fun s => match s with
  | [⟨.val false [⟨.slice 27, .sh, .l A⟩], ⟨0, 0⟩⟩, ⟨.val false [⟨.slice 27, .sh, .l C⟩], ⟨0, 0⟩⟩, ⟨.val false [⟨.int .i64, .sh, .i i⟩], ⟨0, 0⟩⟩] => some (((laws_eqFilterS_4_fin A C i)).map laws_eqFilterS_4_out)
  | _ => .none
noncomputable def laws_eqFilterS_lo : LoopTeller := fun r s => bif Nat.beq r 4 then laws_eqFilterS_lo4 s else .none
theorem laws_eqFilterS_4_r (A : List (List TC)) (C : List (List TC)) (i : Int) (n : Nat) : rounds (rnd tab FT D8 live 28 laws_eqFilterS_lo 0 4) leave (n + 1) (laws_eqFilterS_4_sl (A, C, i)) = ((laws_eqFilterS_4_step A C i)).run (goOn (fun s => rounds (rnd tab FT D8 live 28 laws_eqFilterS_lo 0 4) leave n (laws_eqFilterS_4_sl s)) fun w => some (laws_eqFilterS_4_out w)) := by kernel_rfl
noncomputable def laws_eqFilterS_4_st : laws_eqFilterS_4_σ → Tr (laws_eqFilterS_4_σ ⊕ laws_eqFilterS_4_ω) := fun x => (laws_eqFilterS_4_step (x.1) (x.2.1) (x.2.2))
theorem laws_eqFilterS_4_h (A : List (List TC)) (C : List (List TC)) (i : Int) (w : laws_eqFilterS_4_ω) : ((laws_eqFilterS_4_fin A C i)).val = some w → ∃ n, loopN laws_eqFilterS_4_st n (A, C, i) = some w := by
  intro h
  simp only [laws_eqFilterS_4_fin, Told.val] at h
  split at h
  · rename_i ho
    obtain ⟨rfl, rfl, ht⟩ := is_iff.1 ho
    cases h
    have hlen : A.length ≤ 140737488351232 := by have := typed_room ht; simp only [show (tab 27).bytes = 24 from rfl] at this; omega
    refine ⟨_, loopN_run (N := A.length) (fun i => (A, A, (i : Int))) (fun i hi => ?_) ?_ A.length 0 (by omega)⟩
    · skip
      show (laws_eqFilterS_4_step A A (i : Int)).val = _
      unfold laws_eqFilterS_4_step
      refine Tr.t (by simp; omega) ?_
      refine Tr.t (by constructor <;> omega) ?_
      refine Tr.t (by constructor <;> omega) ?_
      refine Tr.t (is_true (by and_intros <;> (first | rfl | assumption | exact (is_true (by and_intros <;> (first | rfl | assumption | exact (is_true (by and_intros <;> (first | rfl | assumption | exact (is_true (by and_intros <;> (first | rfl | assumption | exact (is_true (by and_intros <;> (first | rfl | assumption))))))))))))))) ?_
      refine Tr.n (by simp [laws_eqFilter_v]) ?_
      rw [Tr.val_ok, wrap64 (by omega) (by omega)]; rfl
    · show (laws_eqFilterS_4_step A A (A.length : Int)).val = _
      refine Tr.n (by simp) ?_
      rfl
  · cases h
theorem laws_eqFilterS_is4 : LoopIs tab FT D8 live 28 laws_eqFilterS_lo 0 4 := by
  refine loop_told (sl := laws_eqFilterS_4_sl) (step := laws_eqFilterS_4_st) (out := laws_eqFilterS_4_out) (lor := laws_eqFilterS_lo4) (fin := fun x => (laws_eqFilterS_4_fin (x.1) (x.2.1) (x.2.2))) (fun _ => rfl) ?_ (fun x n => laws_eqFilterS_4_r x.1 x.2.1 x.2.2 n) (fun x w => laws_eqFilterS_4_h x.1 x.2.1 x.2.2 w)
  intro s t h
  unfold laws_eqFilterS_lo4 at h
  split at h
  · cases h; exact ⟨(_, _, _), rfl, rfl⟩
  · cases h
noncomputable def laws_eqFilterS_t (A : List (List TC)) (C : List (List TC)) : Tr (Bool) := (.ite ((!((A.length : Int) == (C.length : Int))) = true) (.ok false)
  (.ite ((laws_eqFilterS_o4_1 A C (0 : Int)) = true) (.ok true)
   .no))
def laws_eqFilterS_mk (p : Bool) : Res := [(false, [⟨.bool, .sh, .b p⟩])]
noncomputable def laws_eqFilterS_c (A : List (List TC)) (C : List (List TC)) : Bool := is (A = C ∧ Typed tab (.slice 27) (.l A))
noncomputable def laws_eqFilterS_v (A : List (List TC)) (C : List (List TC)) : Bool := true
theorem laws_eqFilterS_l (A : List (List TC)) (C : List (List TC)) : (laws_eqFilterS_c A C) = true → (laws_eqFilterS_t A C).val = some (laws_eqFilterS_v A C) := by
  intro h
  obtain ⟨rfl, ht⟩ := is_iff.1 h
  unfold laws_eqFilterS_t
  refine Tr.n (by simp) ?_
  refine Tr.t (is_true (by and_intros <;> (first | rfl | assumption | exact (is_true (by and_intros <;> (first | rfl | assumption | exact (is_true (by and_intros <;> (first | rfl | assumption | exact (is_true (by and_intros <;> (first | rfl | assumption | exact (is_true (by and_intros <;> (first | rfl | assumption))))))))))))))) ?_
  rfl
noncomputable def laws_eqFilterS_S : List Arg → Option (Bool × Res) := fun xs => match xs with
  | [(false, [(.slice 27, .l A)]), (false, [(.slice 27, .l C)])] => some ((laws_eqFilterS_c A C), laws_eqFilterS_mk (laws_eqFilterS_v A C))
  | _ => .none
theorem laws_eqFilterS_e (A : List (List TC)) (C : List (List TC)) : runF tab FT D8 live 28 laws_eqFilterS_lo [(false, [(.slice 27, .l A)]), (false, [(.slice 27, .l C)])] = (laws_eqFilterS_t A C).run fun p => some (laws_eqFilterS_mk p) := by kernel_rfl
theorem laws_eqFilterS_s : ∀ xs r, laws_eqFilterS_S xs = some (true, r) → runF tab FT D8 live 28 laws_eqFilterS_lo xs = some r := by
  intro xs r h
  unfold laws_eqFilterS_S at h
  split at h
  · simp only [Option.some.injEq, Prod.mk.injEq] at h
    obtain ⟨h1, rfl⟩ := h
    exact fun_told (laws_eqFilterS_e _ _) (laws_eqFilterS_l _ _) h1
  · cases h
noncomputable def D9 : Dt := also D8 28 laws_eqFilterS_S
theorem d9 : DOk Go.Proofs.Try.prog tab D9 := d8.also mixed_ok tab_ok names_ok (fnLoops_one (by kernel_rfl) laws_eqFilterS_is4) laws_eqFilterS_s
/-! the law -/
noncomputable def laws_FnExactSamePipeline_t (x0 : List (List TC)) (x1 : List (List TC)) : Tr Bool := (.ite ((decide ((laws_szFilterS_v x0 (1048576 : Int)) < (0 : Int))) = true) (.ok true)
  (.ite ((decide ((laws_szFilterS_v x1 (laws_szFilterS_v x0 (1048576 : Int))) < (0 : Int))) = true) (.ok true)
   (.ite ((laws_toFilterS_c x0) = true) (.ite ((laws_toFilterS_c x1) = true) (.ite ((spec_SamePipeline_c (laws_toFilterS_v x0) (laws_toFilterS_v x1)) = true) (.ite ((laws_toFilterS_c x0) = true) (.ite ((laws_toFilterS_c x1) = true) (.ite ((impl_SamePipeline_c (laws_toFilterS_v x0) (laws_toFilterS_v x1)) = true) (.ite ((!((impl_SamePipeline_v (laws_toFilterS_v x0) (laws_toFilterS_v x1)) == (spec_SamePipeline_v (laws_toFilterS_v x0) (laws_toFilterS_v x1)))) = true) (.ok false)
          (.ite ((laws_toFilterS_c x0) = true) (.ite ((laws_eqFilterS_c (laws_toFilterS_v x0) (laws_toFilterS_v x0)) = true) (.ite ((!(laws_eqFilterS_v (laws_toFilterS_v x0) (laws_toFilterS_v x0))) = true) (.ok false)
             (.ite ((laws_toFilterS_c x1) = true) (.ite ((laws_eqFilterS_c (laws_toFilterS_v x1) (laws_toFilterS_v x1)) = true) (.ite ((!(laws_eqFilterS_v (laws_toFilterS_v x1) (laws_toFilterS_v x1))) = true) (.ok false)
                (.ok true))
               .no)
              .no))
            .no)
           .no))
         .no)
        .no)
       .no)
      .no)
     .no)
    .no)))
theorem laws_FnExactSamePipeline_e (x0 : List (List TC)) (x1 : List (List TC)) : runF tab FT D9 live 7 noLoops [(false, [(.slice 25, .l x0)]), (false, [(.slice 25, .l x1)])] = (laws_FnExactSamePipeline_t x0 x1).run fun p => some [(false, [⟨.bool, .sh, .b p⟩])] := by kernel_rfl
theorem laws_FnExactSamePipeline_p (x0 : List (List TC)) (x1 : List (List TC)) (h0 : Typed tab (.slice 25) (.l x0)) (h1 : Typed tab (.slice 25) (.l x1)) : (laws_FnExactSamePipeline_t x0 x1).val = some true := by
  have t0_27 := laws_toFilterS_ty h0
  have t1_27 := laws_toFilterS_ty h1
  unfold laws_FnExactSamePipeline_t
  refine Tr.y ?_
  refine Tr.y ?_
  refine Tr.t (by first | exact (is_true (by and_intros <;> (first | rfl | assumption | exact (is_true (by and_intros <;> (first | rfl | assumption | exact (is_true (by and_intros <;> (first | rfl | assumption | exact (is_true (by and_intros <;> (first | rfl | assumption | exact (is_true (by and_intros <;> (first | rfl | assumption))))))))))))))) | simp [*]) ?_
  refine Tr.t (by first | exact (is_true (by and_intros <;> (first | rfl | assumption | exact (is_true (by and_intros <;> (first | rfl | assumption | exact (is_true (by and_intros <;> (first | rfl | assumption | exact (is_true (by and_intros <;> (first | rfl | assumption | exact (is_true (by and_intros <;> (first | rfl | assumption))))))))))))))) | simp [*]) ?_
  refine Tr.t (by first | exact (is_true (by and_intros <;> (first | rfl | assumption | exact (is_true (by and_intros <;> (first | rfl | assumption | exact (is_true (by and_intros <;> (first | rfl | assumption | exact (is_true (by and_intros <;> (first | rfl | assumption | exact (is_true (by and_intros <;> (first | rfl | assumption))))))))))))))) | simp [*]) ?_
  refine Tr.t (by first | exact (is_true (by and_intros <;> (first | rfl | assumption | exact (is_true (by and_intros <;> (first | rfl | assumption | exact (is_true (by and_intros <;> (first | rfl | assumption | exact (is_true (by and_intros <;> (first | rfl | assumption | exact (is_true (by and_intros <;> (first | rfl | assumption))))))))))))))) | simp [*]) ?_
  refine Tr.t (by first | exact (is_true (by and_intros <;> (first | rfl | assumption | exact (is_true (by and_intros <;> (first | rfl | assumption | exact (is_true (by and_intros <;> (first | rfl | assumption | exact (is_true (by and_intros <;> (first | rfl | assumption | exact (is_true (by and_intros <;> (first | rfl | assumption))))))))))))))) | simp [*]) ?_
  refine Tr.t (by first | exact (is_true (by and_intros <;> (first | rfl | assumption | exact (is_true (by and_intros <;> (first | rfl | assumption | exact (is_true (by and_intros <;> (first | rfl | assumption | exact (is_true (by and_intros <;> (first | rfl | assumption | exact (is_true (by and_intros <;> (first | rfl | assumption))))))))))))))) | simp [*]) ?_
  refine Tr.n (by simp [laws_toFilterS_v, spec_l19Same_v, spec_SamePipeline_v, slices_Equal_impl_Filter_impl_Filter_v, impl_SamePipeline_v, laws_eqFilter_v, laws_eqFilterS_v]) ?_
  refine Tr.t (by first | exact (is_true (by and_intros <;> (first | rfl | assumption | exact (is_true (by and_intros <;> (first | rfl | assumption | exact (is_true (by and_intros <;> (first | rfl | assumption | exact (is_true (by and_intros <;> (first | rfl | assumption | exact (is_true (by and_intros <;> (first | rfl | assumption))))))))))))))) | simp [*]) ?_
  refine Tr.t (by first | exact (is_true (by and_intros <;> (first | rfl | assumption | exact (is_true (by and_intros <;> (first | rfl | assumption | exact (is_true (by and_intros <;> (first | rfl | assumption | exact (is_true (by and_intros <;> (first | rfl | assumption | exact (is_true (by and_intros <;> (first | rfl | assumption))))))))))))))) | simp [*]) ?_
  refine Tr.n (by simp [laws_toFilterS_v, spec_l19Same_v, spec_SamePipeline_v, slices_Equal_impl_Filter_impl_Filter_v, impl_SamePipeline_v, laws_eqFilter_v, laws_eqFilterS_v]) ?_
  refine Tr.t (by first | exact (is_true (by and_intros <;> (first | rfl | assumption | exact (is_true (by and_intros <;> (first | rfl | assumption | exact (is_true (by and_intros <;> (first | rfl | assumption | exact (is_true (by and_intros <;> (first | rfl | assumption | exact (is_true (by and_intros <;> (first | rfl | assumption))))))))))))))) | simp [*]) ?_
  refine Tr.t (by first | exact (is_true (by and_intros <;> (first | rfl | assumption | exact (is_true (by and_intros <;> (first | rfl | assumption | exact (is_true (by and_intros <;> (first | rfl | assumption | exact (is_true (by and_intros <;> (first | rfl | assumption | exact (is_true (by and_intros <;> (first | rfl | assumption))))))))))))))) | simp [*]) ?_
  refine Tr.n (by simp [laws_toFilterS_v, spec_l19Same_v, spec_SamePipeline_v, slices_Equal_impl_Filter_impl_Filter_v, impl_SamePipeline_v, laws_eqFilter_v, laws_eqFilterS_v]) ?_
  rfl
theorem laws_FnExactSamePipeline_pure : ∀ xs, ArgsTyped tab [32, 32] xs → runF tab FT D9 live 7 noLoops xs = yes := by
  intro xs h
  cases h with | cons l0 g0 h =>
  obtain ⟨z0_0, rfl⟩ := len_1 l0
  have q0 := g0 0 (by decide)
  have q0 : Typed tab (.slice 25) z0_0 := q0
  obtain ⟨y0, rfl⟩ := typed_slice q0
  cases h with | cons l1 g1 h =>
  obtain ⟨z1_0, rfl⟩ := len_1 l1
  have q1 := g1 0 (by decide)
  have q1 : Typed tab (.slice 25) z1_0 := q1
  obtain ⟨y1, rfl⟩ := typed_slice q1
  cases h
  refine (laws_FnExactSamePipeline_e y0 y1).trans ?_
  rw [Tr.run_eq, laws_FnExactSamePipeline_p y0 y1 q0 q1]
  rfl
end Go.Proofs.Ytnlpkmkkidpfhaa.V
