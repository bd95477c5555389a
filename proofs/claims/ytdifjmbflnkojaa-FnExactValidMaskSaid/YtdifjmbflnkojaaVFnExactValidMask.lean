/- What the functions of FnExactValidMask answer. No condition. -/
import Derived.Test.YtdifjmbflnkojaaVFacts
namespace Go.Proofs.Ytdifjmbflnkojaa.V
open Go
set_option maxRecDepth 100000
set_option linter.unusedVariables false
set_option linter.unusedSimpArgs false
/-! laws_szFilterS -/
noncomputable def laws_szFilterS_t (a0 : List (List TC)) (a1 : Int) : Tr (Int) := (.ite ((decide ((IntKind.wrap .i64 (a1 - (a0.length : Int))) < (0 : Int))) = true) (.ok (-1 : Int))
  (.ok (IntKind.wrap .i64 (a1 - (a0.length : Int)))))
def laws_szFilterS_mk (p : Int) : Res := [(false, [⟨.int .i64, .sh, TC.i p⟩])]
noncomputable def laws_szFilterS_c (a0 : List (List TC)) (a1 : Int) : Bool := true
noncomputable def laws_szFilterS_v (a0 : List (List TC)) (a1 : Int) : Int := (bif (decide ((IntKind.wrap .i64 (a1 - (a0.length : Int))) < (0 : Int))) then (-1 : Int) else (IntKind.wrap .i64 (a1 - (a0.length : Int))))
theorem laws_szFilterS_l (a0 : List (List TC)) (a1 : Int) : (laws_szFilterS_c a0 a1) = true → (laws_szFilterS_t a0 a1).val = some (laws_szFilterS_v a0 a1) := by
  intro h
  skip
  unfold laws_szFilterS_t laws_szFilterS_v
  exact (Tr.s rfl rfl)
noncomputable def laws_szFilterS_S : List Arg → Option (Bool × Res) := fun xs => match xs with
  | [(false, [(.slice 82, TC.l a0)]), (false, [(.int .i64, TC.i a1)])] => some (true, laws_szFilterS_mk (laws_szFilterS_v a0 a1))
  | _ => .none
theorem laws_szFilterS_e (a0 : List (List TC)) (a1 : Int) : runF tab FT D0 live 20 noLoops [(false, [(.slice 82, TC.l a0)]), (false, [(.int .i64, TC.i a1)])] = (laws_szFilterS_t a0 a1).run fun p => some (laws_szFilterS_mk p) := by kernel_rfl
theorem laws_szFilterS_s : ∀ xs r, laws_szFilterS_S xs = some (true, r) → runF tab FT D0 live 20 noLoops xs = some r := by
  intro xs r h
  unfold laws_szFilterS_S at h
  split at h
  · simp only [Option.some.injEq, Prod.mk.injEq] at h
    obtain ⟨h1, rfl⟩ := h
    exact fun_told (laws_szFilterS_e _ _) (laws_szFilterS_l _ _) rfl
  · cases h
noncomputable def D1 : Dt := also D0 20 laws_szFilterS_S
theorem d1 : DOk Go.Proofs.Try.prog tab D1 := d0.also mixed_ok tab_ok names_ok noLoops_ok laws_szFilterS_s
/-! laws_toFilter -/
noncomputable def laws_toFilter_t (a0 : Int) (a1 : Int) (a2 : Bool) : Tr (Int × Int × Bool) := .ok (a0, a1, a2)
def laws_toFilter_mk (p : Int × Int × Bool) : Res := [(true, [⟨.int .i64, .sh, TC.i (p.1)⟩, ⟨.int .i64, .sh, TC.i (p.2.1)⟩, ⟨.bool, .sh, TC.b (p.2.2)⟩])]
noncomputable def laws_toFilter_c (a0 : Int) (a1 : Int) (a2 : Bool) : Bool := true
noncomputable def laws_toFilter_v (a0 : Int) (a1 : Int) (a2 : Bool) : Int × Int × Bool := (a0, a1, a2)
theorem laws_toFilter_l (a0 : Int) (a1 : Int) (a2 : Bool) : (laws_toFilter_c a0 a1 a2) = true → (laws_toFilter_t a0 a1 a2).val = some (laws_toFilter_v a0 a1 a2) := by
  intro h
  skip
  unfold laws_toFilter_t laws_toFilter_v
  exact rfl
noncomputable def laws_toFilter_S : List Arg → Option (Bool × Res) := fun xs => match xs with
  | [(true, [(.int .i64, TC.i a0), (.int .i64, TC.i a1), (.bool, TC.b a2)])] => some (true, laws_toFilter_mk (laws_toFilter_v a0 a1 a2))
  | _ => .none
theorem laws_toFilter_e (a0 : Int) (a1 : Int) (a2 : Bool) : runF tab FT D1 live 59 noLoops [(true, [(.int .i64, TC.i a0), (.int .i64, TC.i a1), (.bool, TC.b a2)])] = (laws_toFilter_t a0 a1 a2).run fun p => some (laws_toFilter_mk p) := by kernel_rfl
theorem laws_toFilter_s : ∀ xs r, laws_toFilter_S xs = some (true, r) → runF tab FT D1 live 59 noLoops xs = some r := by
  intro xs r h
  unfold laws_toFilter_S at h
  split at h
  · simp only [Option.some.injEq, Prod.mk.injEq] at h
    obtain ⟨h1, rfl⟩ := h
    exact fun_told (laws_toFilter_e _ _ _) (laws_toFilter_l _ _ _) rfl
  · cases h
noncomputable def D2 : Dt := also D1 59 laws_toFilter_S
theorem d2 : DOk Go.Proofs.Try.prog tab D2 := d1.also mixed_ok tab_ok names_ok noLoops_ok laws_toFilter_s
/-! laws_toFilterS -/
def laws_toFilterS_g (x : List TC) : List TC := [TC.i ((nth x 0).int), TC.i ((nth x 1).int), TC.b ((nth x 2).bool)]
def laws_toFilterS_z : List TC := [TC.i (0 : Int), TC.i (0 : Int), TC.b false]
abbrev laws_toFilterS_3_σ := List (List TC) × List (List TC) × Int
abbrev laws_toFilterS_3_ω := (List (List TC))
noncomputable def laws_toFilterS_3_step (A : List (List TC)) (X : List (List TC)) (i : Int) : Tr (laws_toFilterS_3_σ ⊕ laws_toFilterS_3_ω) := (.ite ((decide (i < (A.length : Int))) = true) (.ite ((0 : Int) ≤ i ∧ i < (A.length : Int)) (.ite ((0 : Int) ≤ i ∧ i < (X.length : Int)) (.ok (.inl (A, (X.set (i).toNat (splice (row X i) 0 [TC.i ((nth (row A i) 0).int), TC.i ((nth (row A i) 1).int), TC.b ((nth (row A i) 2).bool)])), (IntKind.wrap .i64 (i + (1 : Int))))))
    .no)
   .no)
  (.ok (.inr X)))
noncomputable def laws_toFilterS_3_st : laws_toFilterS_3_σ → Tr (laws_toFilterS_3_σ ⊕ laws_toFilterS_3_ω) := fun x => (laws_toFilterS_3_step (x.1) (x.2.1) (x.2.2))
noncomputable def laws_toFilterS_o3_1 (A : List (List TC)) (X : List (List TC)) (i : Int) : Bool := is (Typed tab (.slice 82) (.l A) ∧ X = List.replicate A.length laws_toFilterS_z ∧ i = 0)
noncomputable def laws_toFilterS_u3_1 (A : List (List TC)) (X : List (List TC)) (i : Int) : List (List TC) := A.map laws_toFilterS_g
noncomputable def laws_toFilterS_3_fin (A : List (List TC)) (X : List (List TC)) (i : Int) : Told laws_toFilterS_3_ω := (.leaf (laws_toFilterS_o3_1 A X i) (laws_toFilterS_u3_1 A X i))
def laws_toFilterS_3_sl (x : laws_toFilterS_3_σ) : List Slot := [⟨.val false [⟨.slice 82, .sh, TC.l (x.1)⟩], ⟨0, 0⟩⟩, ⟨.val false [⟨.slice 80, .own true, TC.l (x.2.1)⟩], ⟨0, 0⟩⟩, ⟨.val false [⟨.int .i64, .sh, TC.i (x.2.2)⟩], ⟨0, 0⟩⟩]
def laws_toFilterS_3_out : laws_toFilterS_3_ω → Ex × List Slot := (fun x => (.exit 0, [Slot.none, ⟨.val false [⟨.slice 80, .own true, TC.l x⟩], ⟨0, 0⟩⟩]))
noncomputable def laws_toFilterS_lo3 : List Slot → Option (Told (Ex × List Slot)) := fun s => match s with
  | [⟨.val false [⟨.slice 82, .sh, TC.l A⟩], ⟨0, 0⟩⟩, ⟨.val false [⟨.slice 80, .own true, TC.l X⟩], ⟨0, 0⟩⟩, ⟨.val false [⟨.int .i64, .sh, TC.i i⟩], ⟨0, 0⟩⟩] => some (((laws_toFilterS_3_fin A X i)).map laws_toFilterS_3_out)
  | _ => .none
noncomputable def laws_toFilterS_lo : LoopTeller := fun r s => bif Nat.beq r 3 then laws_toFilterS_lo3 s else .none
theorem laws_toFilterS_3_r (A : List (List TC)) (X : List (List TC)) (i : Int) (fuel : Nat) : rounds (rnd tab FT D2 live 22 laws_toFilterS_lo 0 3) leave (fuel + 1) (laws_toFilterS_3_sl (A, X, i)) = ((laws_toFilterS_3_step A X i)).run (goOn (fun s => rounds (rnd tab FT D2 live 22 laws_toFilterS_lo 0 3) leave fuel (laws_toFilterS_3_sl s)) fun w => some (laws_toFilterS_3_out w)) := by kernel_rfl
theorem laws_toFilterS_3_h (A : List (List TC)) (X : List (List TC)) (i : Int) (ow : laws_toFilterS_3_ω) : ((laws_toFilterS_3_fin A X i)).val = some ow → ∃ fuel, loopN laws_toFilterS_3_st fuel (A, X, i) = some ow := by
  intro h
  simp only [laws_toFilterS_3_fin, Told.val] at h
  split at h
  · rename_i ho
    obtain ⟨ht, rfl, rfl⟩ := is_iff.1 ho
    cases h
    have hlen : A.length ≤ 140737488351232 := by have := typed_room ht; simp only [show (tab 82).bytes = 24 from rfl] at this; omega
    have key := loopN_copy (step := laws_toFilterS_3_st) A (List.replicate A.length laws_toFilterS_z) laws_toFilterS_g (fun Y i => (A, Y, (i : Int))) (A.map laws_toFilterS_g) (by simp) (fun x hx i _ => by rw [(List.mem_replicate.1 hx).2]; exact Nat.le_refl 3) (fun Y i hi hl => ?_) ?_ A.length 0 (by omega)
    · rw [copied_zero] at key
      exact ⟨_, key⟩
    · skip
      show (laws_toFilterS_3_step A Y (i : Int)).val = _
      unfold laws_toFilterS_3_step
      refine Tr.t (by simp; omega) ?_
      refine Tr.t (by constructor <;> omega) ?_
      refine Tr.t (by constructor <;> omega) ?_
      repeat (refine Tr.t (by first | (apply is_true; and_intros <;> (first | rfl | assumption | (first | (apply is_true; and_intros <;> (first | rfl | assumption | (first | (apply is_true; and_intros <;> (first | rfl | assumption | (first | (apply is_true; and_intros <;> (first | rfl | assumption)))))))))))) ?_)
      rw [Tr.val_ok, wrap64 (i := (i : Int) + 1) (by omega) (by omega)]; rfl
    · show (laws_toFilterS_3_step A (A.map laws_toFilterS_g) (A.length : Int)).val = _
      refine Tr.n (by simp) ?_
      rfl
  · cases h
theorem laws_toFilterS_is3 : LoopIs tab FT D2 live 22 laws_toFilterS_lo 0 3 := by
  refine loop_told (sl := laws_toFilterS_3_sl) (step := laws_toFilterS_3_st) (out := laws_toFilterS_3_out) (lor := laws_toFilterS_lo3) (fin := fun x => (laws_toFilterS_3_fin (x.1) (x.2.1) (x.2.2))) (fun _ => rfl) ?_ (fun x n => laws_toFilterS_3_r x.1 x.2.1 x.2.2 n) (fun x ow => laws_toFilterS_3_h x.1 x.2.1 x.2.2 ow)
  intro s t h
  unfold laws_toFilterS_lo3 at h
  split at h
  · cases h; exact ⟨(_, _, _), rfl, rfl⟩
  · cases h
noncomputable def laws_toFilterS_t (A : List (List TC)) : Tr (List (List TC)) := (.ite (0 ≤ (A.length : Int) ∧ (A.length : Int) ≤ (A.length : Int) ∧ (A.length : Int) * 24 ≤ 140737488355328 ∧ (A.length : Int) ≤ 140737488355328) (.ite ((laws_toFilterS_o3_1 A (List.replicate ((A.length : Int)).toNat [TC.i (0 : Int), TC.i (0 : Int), TC.b false]) (0 : Int)) = true) (.ok (laws_toFilterS_u3_1 A (List.replicate ((A.length : Int)).toNat [TC.i (0 : Int), TC.i (0 : Int), TC.b false]) (0 : Int)))
   .no)
  .no)
def laws_toFilterS_mk (p : List (List TC)) : Res := [(false, [⟨.slice 80, .own true, TC.l p⟩])]
noncomputable def laws_toFilterS_c (A : List (List TC)) : Bool := is (Typed tab (.slice 82) (.l A))
noncomputable def laws_toFilterS_v (A : List (List TC)) : List (List TC) := A.map laws_toFilterS_g
theorem laws_toFilterS_l (A : List (List TC)) : (laws_toFilterS_c A) = true → (laws_toFilterS_t A).val = some (laws_toFilterS_v A) := by
  intro h
  have ht := is_iff.1 h
  have hb := typed_room ht
  simp only [show (tab 82).bytes = 24 from rfl] at hb
  unfold laws_toFilterS_t
  refine Tr.t (by omega) ?_
  refine Tr.t (is_true ⟨ht, by rfl, rfl⟩) ?_
  rfl
noncomputable def laws_toFilterS_S : List Arg → Option (Bool × Res) := fun xs => match xs with
  | [(false, [(.slice 82, TC.l A)])] => some ((laws_toFilterS_c A), laws_toFilterS_mk (laws_toFilterS_v A))
  | _ => .none
theorem laws_toFilterS_e (A : List (List TC)) : runF tab FT D2 live 22 laws_toFilterS_lo [(false, [(.slice 82, TC.l A)])] = (laws_toFilterS_t A).run fun p => some (laws_toFilterS_mk p) := by kernel_rfl
theorem laws_toFilterS_s : ∀ xs r, laws_toFilterS_S xs = some (true, r) → runF tab FT D2 live 22 laws_toFilterS_lo xs = some r := by
  intro xs r h
  unfold laws_toFilterS_S at h
  split at h
  · simp only [Option.some.injEq, Prod.mk.injEq] at h
    obtain ⟨h1, rfl⟩ := h
    exact fun_told (laws_toFilterS_e _) (laws_toFilterS_l _) h1
  · cases h
noncomputable def D3 : Dt := also D2 22 laws_toFilterS_S
theorem d3 : DOk Go.Proofs.Try.prog tab D3 := d2.also mixed_ok tab_ok names_ok (fnLoops_one (by kernel_rfl) laws_toFilterS_is3) laws_toFilterS_s
theorem laws_toFilterS_ty {A : List (List TC)} (h : Typed tab (.slice 82) (.l A)) : Typed tab (.slice 80) (.l (A.map laws_toFilterS_g)) := by
  refine typed_map h (by decide) fun x _ _ hx => ⟨rfl, fun k hk => ?_⟩
  match k, hk with
    | 0, _ => exact typed_i (hx 0 (by decide))
    | 1, _ => exact typed_i (hx 1 (by decide))
    | 2, _ => exact typed_b (hx 2 (by decide))
/-! spec_l00In -/
noncomputable def spec_l00In_t (a0 : Int) (a1 : Int) (a2 : Int) : Tr (Bool) := (.ite ((decide (a0 ≥ a1)) = true) (.ok (decide (a0 ≤ a2)))
  (.ok false))
def spec_l00In_mk (p : Bool) : Res := [(false, [⟨.bool, .sh, TC.b p⟩])]
noncomputable def spec_l00In_c (a0 : Int) (a1 : Int) (a2 : Int) : Bool := true
noncomputable def spec_l00In_v (a0 : Int) (a1 : Int) (a2 : Int) : Bool := (bif (decide (a0 ≥ a1)) then (decide (a0 ≤ a2)) else false)
theorem spec_l00In_l (a0 : Int) (a1 : Int) (a2 : Int) : (spec_l00In_c a0 a1 a2) = true → (spec_l00In_t a0 a1 a2).val = some (spec_l00In_v a0 a1 a2) := by
  intro h
  skip
  unfold spec_l00In_t spec_l00In_v
  exact (Tr.s rfl rfl)
noncomputable def spec_l00In_S : List Arg → Option (Bool × Res) := fun xs => match xs with
  | [(false, [(.int .i64, TC.i a0)]), (false, [(.int .i64, TC.i a1)]), (false, [(.int .i64, TC.i a2)])] => some (true, spec_l00In_mk (spec_l00In_v a0 a1 a2))
  | _ => .none
theorem spec_l00In_e (a0 : Int) (a1 : Int) (a2 : Int) : runF tab FT D3 live 53 noLoops [(false, [(.int .i64, TC.i a0)]), (false, [(.int .i64, TC.i a1)]), (false, [(.int .i64, TC.i a2)])] = (spec_l00In_t a0 a1 a2).run fun p => some (spec_l00In_mk p) := by kernel_rfl
theorem spec_l00In_s : ∀ xs r, spec_l00In_S xs = some (true, r) → runF tab FT D3 live 53 noLoops xs = some r := by
  intro xs r h
  unfold spec_l00In_S at h
  split at h
  · simp only [Option.some.injEq, Prod.mk.injEq] at h
    obtain ⟨h1, rfl⟩ := h
    exact fun_told (spec_l00In_e _ _ _) (spec_l00In_l _ _ _) rfl
  · cases h
noncomputable def D4 : Dt := also D3 53 spec_l00In_S
theorem d4 : DOk Go.Proofs.Try.prog tab D4 := d3.also mixed_ok tab_ok names_ok noLoops_ok spec_l00In_s
def okFil (k p : Int) (o : Bool) : Bool :=
  bif k == 1 then (decide (p ≥ 1) && decide (p ≤ 24)) && !o else bif k == 2 then (p == 1 || p == 2 || p == 4) && !o else bif k == 3 then p == 0 else bif k == 4 then p == 0 else k == 5 && p == 0 && !o
def okFilR (x : List TC) : Bool := okFil (nth x 0).int (nth x 1).int (nth x 2).bool
/-! spec_l18Ok -/
noncomputable def spec_l18Ok_t (k : Int) (p : Int) (o : Bool) : Tr (Bool) := (.ite ((k == (1 : Int)) = true) (.ite ((spec_l00In_v p (1 : Int) (24 : Int)) = true) (.ok (!o))
   (.ok false))
  (.ite ((k == (2 : Int)) = true) (.ite ((p == (1 : Int)) = true) (.ok (!o))
    (.ite ((p == (2 : Int)) = true) (.ok (!o))
     (.ite ((p == (4 : Int)) = true) (.ok (!o))
      (.ok false))))
   (.ite ((k == (3 : Int)) = true) (.ok (p == (0 : Int)))
    (.ite ((k == (4 : Int)) = true) (.ok (p == (0 : Int)))
     (.ite ((k == (5 : Int)) = true) (.ite ((p == (0 : Int)) = true) (.ok (!o))
       (.ok false))
      (.ok false))))))
def spec_l18Ok_mk (p : Bool) : Res := [(false, [⟨.bool, .sh, TC.b p⟩])]
noncomputable def spec_l18Ok_c (k : Int) (p : Int) (o : Bool) : Bool := true
noncomputable def spec_l18Ok_v (k : Int) (p : Int) (o : Bool) : Bool := okFil k p o
theorem spec_l18Ok_l (k : Int) (p : Int) (o : Bool) : (spec_l18Ok_c k p o) = true → (spec_l18Ok_t k p o).val = some (spec_l18Ok_v k p o) := by
  intro _
  unfold spec_l18Ok_t
  simp only [Tr.val_br, Tr.val_ok]
  simp only [ite_bif, somebif]
  refine congrArg some ?_
  unfold spec_l18Ok_v
  unfold okFil
  simp only [spec_l00In_v]
  generalize (k == 1) = p0, (k == 2) = p1, (k == 3) = p2, (k == 4) = p3, (k == 5) = p4, (p == 0) = p5, decide (p ≥ 1) = p6, decide (p ≤ 24) = p7, (p == 1) = p8, (p == 2) = p9, (p == 4) = p10, o = p11
  revert p0 p1 p2 p3 p4 p5 p6 p7 p8 p9 p10 p11
  decide
noncomputable def spec_l18Ok_S : List Arg → Option (Bool × Res) := fun xs => match xs with
  | [(true, [(.int .i64, TC.i k), (.int .i64, TC.i p), (.bool, TC.b o)])] => some (true, spec_l18Ok_mk (spec_l18Ok_v k p o))
  | _ => .none
theorem spec_l18Ok_e (k : Int) (p : Int) (o : Bool) : runF tab FT D4 live 123 noLoops [(true, [(.int .i64, TC.i k), (.int .i64, TC.i p), (.bool, TC.b o)])] = (spec_l18Ok_t k p o).run fun p => some (spec_l18Ok_mk p) := by kernel_rfl
theorem spec_l18Ok_s : ∀ xs r, spec_l18Ok_S xs = some (true, r) → runF tab FT D4 live 123 noLoops xs = some r := by
  intro xs r h
  unfold spec_l18Ok_S at h
  split at h
  · simp only [Option.some.injEq, Prod.mk.injEq] at h
    obtain ⟨h1, rfl⟩ := h
    exact fun_told (spec_l18Ok_e _ _ _) (spec_l18Ok_l _ _ _) rfl
  · cases h
noncomputable def D5 : Dt := also D4 123 spec_l18Ok_S
theorem d5 : DOk Go.Proofs.Try.prog tab D5 := d4.also mixed_ok tab_ok names_ok noLoops_ok spec_l18Ok_s
/-! spec_l19Ok -/
abbrev spec_l19Ok_2_σ := List (List TC) × Int
abbrev spec_l19Ok_2_ω := (List (List TC)) ⊕ (List (List TC))
noncomputable def spec_l19Ok_2_step (A : List (List TC)) (i : Int) : Tr (spec_l19Ok_2_σ ⊕ spec_l19Ok_2_ω) := (.ite ((decide (i < (A.length : Int))) = true) (.ite ((0 : Int) ≤ i ∧ i < (A.length : Int)) (.ite ((!(spec_l18Ok_v ((nth (row A i) 0).int) ((nth (row A i) 1).int) ((nth (row A i) 2).bool))) = true) (.ok (.inr (.inl A)))
    (.ok (.inl (A, (IntKind.wrap .i64 (i + (1 : Int)))))))
   .no)
  (.ok (.inr (.inr A))))
noncomputable def spec_l19Ok_2_st : spec_l19Ok_2_σ → Tr (spec_l19Ok_2_σ ⊕ spec_l19Ok_2_ω) := fun x => (spec_l19Ok_2_step (x.1) (x.2))
noncomputable def spec_l19Ok_k2_1 (A : List (List TC)) (i : Int) : Bool := A.all okFilR
noncomputable def spec_l19Ok_o2_2 (A : List (List TC)) (i : Int) : Bool := is (i = 0 ∧ Typed tab (.slice 80) (.l A))
noncomputable def spec_l19Ok_o2_3 (A : List (List TC)) (i : Int) : Bool := is (i = 0 ∧ Typed tab (.slice 80) (.l A))
noncomputable def spec_l19Ok_2_fin (A : List (List TC)) (i : Int) : Told spec_l19Ok_2_ω := (.br (spec_l19Ok_k2_1 A i) (.leaf (spec_l19Ok_o2_2 A i) (.inr A)) (.leaf (spec_l19Ok_o2_3 A i) (.inl A)))
def spec_l19Ok_2_sl (x : spec_l19Ok_2_σ) : List Slot := [⟨.val false [⟨.slice 80, .sh, TC.l (x.1)⟩], ⟨0, 0⟩⟩, ⟨.val false [⟨.int .i64, .sh, TC.i (x.2)⟩], ⟨0, 0⟩⟩]
def spec_l19Ok_2_out : spec_l19Ok_2_ω → Ex × List Slot := (Sum.elim (fun x => (.ret, [⟨.val false [⟨.slice 80, .sh, TC.l x⟩], ⟨0, 0⟩⟩, ⟨.val false [⟨.bool, .sh, TC.b false⟩], ⟨0, 0⟩⟩])) (fun x => (.exit 0, [⟨.val false [⟨.slice 80, .sh, TC.l x⟩], ⟨0, 0⟩⟩, Slot.none])))
noncomputable def spec_l19Ok_lo2 : List Slot → Option (Told (Ex × List Slot)) := fun s => match s with
  | [⟨.val false [⟨.slice 80, .sh, TC.l A⟩], ⟨0, 0⟩⟩, ⟨.val false [⟨.int .i64, .sh, TC.i i⟩], ⟨0, 0⟩⟩] => some (((spec_l19Ok_2_fin A i)).map spec_l19Ok_2_out)
  | _ => .none
noncomputable def spec_l19Ok_lo : LoopTeller := fun r s => bif Nat.beq r 2 then spec_l19Ok_lo2 s else .none
theorem spec_l19Ok_2_r (A : List (List TC)) (i : Int) (fuel : Nat) : rounds (rnd tab FT D5 live 84 spec_l19Ok_lo 0 2) leave (fuel + 1) (spec_l19Ok_2_sl (A, i)) = ((spec_l19Ok_2_step A i)).run (goOn (fun s => rounds (rnd tab FT D5 live 84 spec_l19Ok_lo 0 2) leave fuel (spec_l19Ok_2_sl s)) fun w => some (spec_l19Ok_2_out w)) := by kernel_rfl
theorem spec_l19Ok_2_h (A : List (List TC)) (i : Int) (ow : spec_l19Ok_2_ω) : ((spec_l19Ok_2_fin A i)).val = some ow → ∃ fuel, loopN spec_l19Ok_2_st fuel (A, i) = some ow := by
  intro h
  have key : Typed tab (.slice 80) (.l A) → loopN spec_l19Ok_2_st (A.length + 1) (A, (0 : Int)) = some (if A.all okFilR = true then (.inr A) else (.inl A)) := by
    intro ht
    have hlen : A.length ≤ 140737488351232 := by have := typed_room ht; simp only [show (tab 80).bytes = 24 from rfl] at this; omega
    have key := loopN_find (step := spec_l19Ok_2_st) A [] okFilR (fun i => (A, (i : Int))) (.inr A) (fun i => (.inl A)) (fun i hi => ?_) ?_ A.length 0 (by omega)
    · first | (rw [Nat.zero_add] at key; exact key) | exact key
    · show (spec_l19Ok_2_step A (i : Int)).val = _
      unfold spec_l19Ok_2_step
      refine Tr.t (by simp; omega) ?_
      refine Tr.t (by constructor <;> omega) ?_
      skip
      skip
      rw [wrap64 (i := (i : Int) + 1) (by omega) (by omega), Tr.val_br]
      show (if (!(okFilR (A.getD i []))) = true then _ else _) = _
      cases okFilR (A.getD i []) <;> rfl
    · show (spec_l19Ok_2_step A (A.length : Int)).val = _
      refine Tr.n (by simp) ?_
      rfl
  simp only [spec_l19Ok_2_fin, Told.val] at h
  cases hk : A.all okFilR with
  | true =>
    rw [if_pos (show spec_l19Ok_k2_1 A i = true from hk)] at h
    split at h
    · rename_i ho
      obtain ⟨rfl, ht⟩ := is_iff.1 ho
      cases h
      refine ⟨_, (key ht).trans ?_⟩
      rw [hk]; rfl
    · cases h
  | false =>
    rw [if_neg (show ¬spec_l19Ok_k2_1 A i = true from by rw [show spec_l19Ok_k2_1 A i = (A.all okFilR) from rfl, hk]; simp)] at h
    split at h
    · rename_i ho
      obtain ⟨rfl, ht⟩ := is_iff.1 ho
      cases h
      refine ⟨_, (key ht).trans ?_⟩
      rw [hk]; rfl
    · cases h
theorem spec_l19Ok_is2 : LoopIs tab FT D5 live 84 spec_l19Ok_lo 0 2 := by
  refine loop_told (sl := spec_l19Ok_2_sl) (step := spec_l19Ok_2_st) (out := spec_l19Ok_2_out) (lor := spec_l19Ok_lo2) (fin := fun x => (spec_l19Ok_2_fin (x.1) (x.2))) (fun _ => rfl) ?_ (fun x n => spec_l19Ok_2_r x.1 x.2 n) (fun x ow => spec_l19Ok_2_h x.1 x.2 ow)
  intro s t h
  unfold spec_l19Ok_lo2 at h
  split at h
  · cases h; exact ⟨(_, _), rfl, rfl⟩
  · cases h
noncomputable def spec_l19Ok_t (A : List (List TC)) : Tr (Bool) := (.ite ((spec_l19Ok_k2_1 A (0 : Int)) = true) (.ite ((spec_l19Ok_o2_2 A (0 : Int)) = true) (.ok (decide ((A.length : Int) ≤ (4 : Int))))
   .no)
  (.ite ((spec_l19Ok_o2_3 A (0 : Int)) = true) (.ok false)
   .no))
def spec_l19Ok_mk (p : Bool) : Res := [(false, [⟨.bool, .sh, TC.b p⟩])]
noncomputable def spec_l19Ok_c (A : List (List TC)) : Bool := is (Typed tab (.slice 80) (.l A))
noncomputable def spec_l19Ok_v (A : List (List TC)) : Bool := A.all okFilR && decide ((A.length : Int) ≤ 4)
theorem spec_l19Ok_l (A : List (List TC)) : (spec_l19Ok_c A) = true → (spec_l19Ok_t A).val = some (spec_l19Ok_v A) := by
  intro h
  have ht := is_iff.1 h
  unfold spec_l19Ok_t
  cases hk : A.all okFilR with
  | true =>
    refine Tr.t (show A.all okFilR = true from hk) ?_
    refine Tr.t (by first | (apply is_true; and_intros <;> (first | rfl | assumption | (first | (apply is_true; and_intros <;> (first | rfl | assumption | (first | (apply is_true; and_intros <;> (first | rfl | assumption | (first | (apply is_true; and_intros <;> (first | rfl | assumption)))))))))))) ?_
    (simp [spec_l19Ok_v, hk]) <;> rfl
  | false =>
    refine Tr.n (show ¬A.all okFilR = true from by rw [hk]; simp) ?_
    refine Tr.t (by first | (apply is_true; and_intros <;> (first | rfl | assumption | (first | (apply is_true; and_intros <;> (first | rfl | assumption | (first | (apply is_true; and_intros <;> (first | rfl | assumption | (first | (apply is_true; and_intros <;> (first | rfl | assumption)))))))))))) ?_
    (simp [spec_l19Ok_v, hk]) <;> rfl
noncomputable def spec_l19Ok_S : List Arg → Option (Bool × Res) := fun xs => match xs with
  | [(false, [(.slice 80, TC.l A)])] => some ((spec_l19Ok_c A), spec_l19Ok_mk (spec_l19Ok_v A))
  | _ => .none
theorem spec_l19Ok_e (A : List (List TC)) : runF tab FT D5 live 84 spec_l19Ok_lo [(false, [(.slice 80, TC.l A)])] = (spec_l19Ok_t A).run fun p => some (spec_l19Ok_mk p) := by kernel_rfl
theorem spec_l19Ok_s : ∀ xs r, spec_l19Ok_S xs = some (true, r) → runF tab FT D5 live 84 spec_l19Ok_lo xs = some r := by
  intro xs r h
  unfold spec_l19Ok_S at h
  split at h
  · simp only [Option.some.injEq, Prod.mk.injEq] at h
    obtain ⟨h1, rfl⟩ := h
    exact fun_told (spec_l19Ok_e _) (spec_l19Ok_l _) h1
  · cases h
noncomputable def D6 : Dt := also D5 84 spec_l19Ok_S
theorem d6 : DOk Go.Proofs.Try.prog tab D6 := d5.also mixed_ok tab_ok names_ok (fnLoops_one (by kernel_rfl) spec_l19Ok_is2) spec_l19Ok_s
def bitB (mask : Int) (i : Nat) : Bool := (bits .i64 (fun a b => a &&& b) (Int.fdiv mask (2 ^ (min ((IntKind.wrap .u64 (i : Int))).toNat 64))) (1 : Int)) == (1 : Int)
def topM (n : Nat) : Int := IntKind.wrap .i64 ((IntKind.wrap .i64 ((1 : Int) * (2 ^ (min ((IntKind.wrap .u64 (n : Int))).toNat 64)))) - (1 : Int))
def orM (b : Nat → Bool) (i : Nat) (a : Int) : Int := bif b i then bits .i64 (fun a b => a ||| b) a (IntKind.wrap .i64 ((1 : Int) * (2 ^ (min (i : Int).toNat 64)))) else a
def specM (n : Nat) (b : Nat → Bool) (mask : Int) : Bool := (bif decide (mask ≥ 0) then decide (mask ≤ topM n) else false) && allI (fun i => !(bitB mask i) || b i) n
def implM (n : Nat) (b : Nat → Bool) (mask : Int) : Bool := bif decide (mask ≥ 0) then (bits .i64 (fun a b => a &&& ~~~b) mask (foldI (orM b) n 0) == (0 : Int)) else false
def four (b0 b1 b2 b3 : Bool) (i : Nat) : Bool := match i with
  | 0 => b0
  | 1 => b1
  | 2 => b2
  | _ => b3
theorem four_at (b : Nat → Bool) : ∀ i, i < 4 → b i = four (b 0) (b 1) (b 2) (b 3) i
  | 0, _ => rfl
  | 1, _ => rfl
  | 2, _ => rfl
  | 3, _ => rfl
theorem specM_four {n : Nat} {b : Nat → Bool} {mask : Int} (h : n ≤ 4) : specM n b mask = specM n (four (b 0) (b 1) (b 2) (b 3)) mask := by
  unfold specM
  rw [allI_congr (Q := fun i => !(bitB mask i) || four (b 0) (b 1) (b 2) (b 3) i) fun i hi => by rw [four_at b i (by omega)]]
theorem orM_four {n : Nat} {b : Nat → Bool} (h : n ≤ 4) : foldI (orM b) n 0 = foldI (orM (four (b 0) (b 1) (b 2) (b 3))) n 0 :=
  foldI_congr fun i a hi => by unfold orM; rw [four_at b i (by omega)]
theorem small_all : ∀ n : Fin 5, ∀ b0 b1 b2 b3 : Bool, ∀ m : Fin 16, specM n.val (four b0 b1 b2 b3) (m.val : Int) = implM n.val (four b0 b1 b2 b3) (m.val : Int) := by decide +kernel
theorem small_or : ∀ n : Fin 5, ∀ b0 b1 b2 b3 : Bool, 0 ≤ foldI (orM (four b0 b1 b2 b3)) n.val 0 ∧ foldI (orM (four b0 b1 b2 b3)) n.val 0 < 16 := by decide +kernel
theorem small_top : ∀ n : Fin 5, topM n.val < 16 := by decide +kernel
theorem andNot_zero {x c : BitVec 64} (h : x &&& ~~~c = 0#64) : x.toNat ≤ c.toNat := by
  have e : x = x &&& c := by
    have e1 : x = (x &&& c) ||| (x &&& ~~~c) := by
      ext i hi
      simp only [BitVec.getElem_or, BitVec.getElem_and, BitVec.getElem_not]
      cases x[i] <;> cases c[i] <;> rfl
    rw [h] at e1
    simpa using e1
  rw [e, BitVec.toNat_and]
  exact Nat.and_le_right
theorem bits_zero {x c : Int} (hx : 0 ≤ x ∧ x < 9223372036854775808) (hc : 0 ≤ c ∧ c < 9223372036854775808) (h : bits .i64 (fun a b => a &&& ~~~b) x c = 0) : x ≤ c := by
  have h : IntKind.wrap .i64 ((BitVec.ofInt IntKind.i64.bits x &&& ~~~BitVec.ofInt IntKind.i64.bits c).toNat : Int) = 0 := h
  have hlt := (BitVec.ofInt IntKind.i64.bits x &&& ~~~BitVec.ofInt IntKind.i64.bits c).isLt
  have hx2 : ((BitVec.ofInt IntKind.i64.bits x).toNat : Int) = x := by
    rw [BitVec.toNat_ofInt]
    show ((x % ((2 ^ 64 : Nat) : Int)).toNat : Int) = _
    rw [Int.toNat_of_nonneg (Int.emod_nonneg _ (by decide))]
    exact Int.emod_eq_of_lt hx.1 (Int.lt_trans hx.2 (by decide))
  have hc2 : ((BitVec.ofInt IntKind.i64.bits c).toNat : Int) = c := by
    rw [BitVec.toNat_ofInt]
    show ((c % ((2 ^ 64 : Nat) : Int)).toNat : Int) = _
    rw [Int.toNat_of_nonneg (Int.emod_nonneg _ (by decide))]
    exact Int.emod_eq_of_lt hc.1 (Int.lt_trans hc.2 (by decide))
  have h64 : (2 ^ IntKind.i64.bits : Nat) = 18446744073709551616 := rfl
  rw [IntKind.wrap_i64] at h
  have h0 : (BitVec.ofInt IntKind.i64.bits x &&& ~~~BitVec.ofInt IntKind.i64.bits c).toNat = 0 := by
    rw [h64] at hlt
    omega
  have h1 : BitVec.ofInt IntKind.i64.bits x &&& ~~~BitVec.ofInt IntKind.i64.bits c = 0#64 := BitVec.eq_of_toNat_eq (by rw [h0]; rfl)
  have h2 : (BitVec.ofInt IntKind.i64.bits x).toNat ≤ (BitVec.ofInt IntKind.i64.bits c).toNat := andNot_zero h1
  omega
theorem mask_eq {n : Nat} {b : Nat → Bool} {mask : Int} (h : n ≤ 4) (hm : mask < 9223372036854775808) : specM n b mask = implM n b mask := by
  have hf := small_or ⟨n, by omega⟩ (b 0) (b 1) (b 2) (b 3)
  have ht := small_top ⟨n, by omega⟩
  simp only at hf ht
  rw [← orM_four h] at hf
  by_cases h0 : mask ≥ 0
  · by_cases h1 : mask < 16
    · have hs := small_all ⟨n, by omega⟩ (b 0) (b 1) (b 2) (b 3) ⟨mask.toNat, by omega⟩
      simp only at hs
      rw [show ((mask.toNat : Nat) : Int) = mask from by omega, ← specM_four h] at hs
      rw [hs]
      unfold implM
      rw [orM_four (b := b) h]
    · unfold specM implM
      rw [show decide (mask ≥ 0) = true from by simpa using h0, show decide (mask ≤ topM n) = false from by simp; omega]
      simp only [cond_true, Bool.false_and]
      refine (beq_eq_false_iff_ne.2 fun hb => ?_).symm
      have := bits_zero (c := foldI (orM b) n 0) ⟨h0, hm⟩ ⟨hf.1, by omega⟩ hb
      omega
  · unfold specM implM
    rw [show decide (mask ≥ 0) = false from by simpa using h0]
    rfl
def optB (A : List (List TC)) (i : Nat) : Bool := (nth (row A (i : Int)) 2).bool
def maskV (A : List (List TC)) (mask : Int) : Bool := bif A.all okFilR && decide ((A.length : Int) ≤ 4) then implM A.length (optB A) mask else false
/-! spec_l19Mask -/
noncomputable def spec_l19Mask_f4 (A : List (List TC)) (mask : Int) (i : Int) : (Unit) ⊕ ((Unit) ⊕ (Unit)) := (bif ((bits .i64 (fun a b => a &&& b) (Int.fdiv mask (2 ^ (min ((IntKind.wrap .u64 i)).toNat 64))) (1 : Int)) == (1 : Int)) then (bif (!(nth (row A i) 2).bool) then (.inr (.inl ())) else (.inl ())) else (.inl ()))
noncomputable def spec_l19Mask_e4 (A : List (List TC)) (mask : Int) : (Unit) ⊕ (Unit) := .inr ()
noncomputable def spec_l19Mask_R4 (A : List (List TC)) (mask : Int) (i : Int) : (Unit) ⊕ (Unit) := iter (fun i a => (spec_l19Mask_f4 A mask (i : Int))) (fun a => (spec_l19Mask_e4 A mask)) (A.length) 0 ()
abbrev spec_l19Mask_4_σ := List (List TC) × Int × Int
abbrev spec_l19Mask_4_ω := (Unit) ⊕ (Unit)
noncomputable def spec_l19Mask_4_step (A : List (List TC)) (mask : Int) (i : Int) : Tr (spec_l19Mask_4_σ ⊕ spec_l19Mask_4_ω) := (.ite ((decide (i < (A.length : Int))) = true) (.ite (0 ≤ (IntKind.wrap .u64 i)) (.ite (((bits .i64 (fun a b => a &&& b) (Int.fdiv mask (2 ^ (min ((IntKind.wrap .u64 i)).toNat 64))) (1 : Int)) == (1 : Int)) = true) (.ite ((0 : Int) ≤ i ∧ i < (A.length : Int)) (.ite ((!(nth (row A i) 2).bool) = true) (.ok (.inr (.inl ())))
      (.ok (.inl (A, mask, (IntKind.wrap .i64 (i + (1 : Int)))))))
     .no)
    (.ok (.inl (A, mask, (IntKind.wrap .i64 (i + (1 : Int)))))))
   .no)
  (.ok (.inr (.inr ()))))
noncomputable def spec_l19Mask_4_st : spec_l19Mask_4_σ → Tr (spec_l19Mask_4_σ ⊕ spec_l19Mask_4_ω) := fun x => (spec_l19Mask_4_step (x.1) (x.2.1) (x.2.2))
noncomputable def spec_l19Mask_k4_1 (A : List (List TC)) (mask : Int) (i : Int) : Bool := sumIs (spec_l19Mask_R4 A mask i)
noncomputable def spec_l19Mask_o4_2 (A : List (List TC)) (mask : Int) (i : Int) : Bool := is (i = 0 ∧ Typed tab (.slice 80) (.l A))
noncomputable def spec_l19Mask_o4_3 (A : List (List TC)) (mask : Int) (i : Int) : Bool := is (i = 0 ∧ Typed tab (.slice 80) (.l A))
noncomputable def spec_l19Mask_4_fin (A : List (List TC)) (mask : Int) (i : Int) : Told spec_l19Mask_4_ω := (.br (spec_l19Mask_k4_1 A mask i) (.leaf (spec_l19Mask_o4_2 A mask i) (.inl ())) (.leaf (spec_l19Mask_o4_3 A mask i) (.inr ())))
def spec_l19Mask_4_sl (x : spec_l19Mask_4_σ) : List Slot := [⟨.val false [⟨.slice 80, .sh, TC.l (x.1)⟩], ⟨0, 0⟩⟩, ⟨.val false [⟨.int .i64, .sh, TC.i (x.2.1)⟩], ⟨0, 0⟩⟩, ⟨.val false [⟨.int .i64, .sh, TC.i (x.2.2)⟩], ⟨0, 0⟩⟩]
def spec_l19Mask_4_out : spec_l19Mask_4_ω → Ex × List Slot := (Sum.elim (fun x => (.ret, [⟨.val false [⟨.bool, .sh, TC.b false⟩], ⟨0, 0⟩⟩])) (fun x => (.exit 0, [Slot.none])))
noncomputable def spec_l19Mask_lo4 : List Slot → Option (Told (Ex × List Slot)) := fun s => match s with
  | [⟨.val false [⟨.slice 80, .sh, TC.l A⟩], ⟨0, 0⟩⟩, ⟨.val false [⟨.int .i64, .sh, TC.i mask⟩], ⟨0, 0⟩⟩, ⟨.val false [⟨.int .i64, .sh, TC.i i⟩], ⟨0, 0⟩⟩] => some (((spec_l19Mask_4_fin A mask i)).map spec_l19Mask_4_out)
  | _ => .none
noncomputable def spec_l19Mask_lo : LoopTeller := fun r s => bif Nat.beq r 4 then spec_l19Mask_lo4 s else .none
theorem spec_l19Mask_4_r (A : List (List TC)) (mask : Int) (i : Int) (fuel : Nat) : rounds (rnd tab FT D6 live 58 spec_l19Mask_lo 0 4) leave (fuel + 1) (spec_l19Mask_4_sl (A, mask, i)) = ((spec_l19Mask_4_step A mask i)).run (goOn (fun s => rounds (rnd tab FT D6 live 58 spec_l19Mask_lo 0 4) leave fuel (spec_l19Mask_4_sl s)) fun w => some (spec_l19Mask_4_out w)) := by kernel_rfl
theorem spec_l19Mask_R4_eq (A : List (List TC)) (mask : Int) : spec_l19Mask_R4 A mask 0 = bif allI (fun i => !(bitB mask i) || optB A i) A.length then Sum.inr () else Sum.inl () := by
  unfold spec_l19Mask_R4
  refine (iter_all (P := fun i => !(bitB mask i) || optB A i) (g := fun _ a => a) (w := Sum.inl ()) fun j a hj => ?_)
  unfold spec_l19Mask_f4
  show (bif bitB mask j then (bif !(optB A j) then _ else _) else _) = _
  cases bitB mask j <;> cases optB A j <;> rfl
theorem spec_l19Mask_4_h (A : List (List TC)) (mask : Int) (i : Int) (ow : spec_l19Mask_4_ω) : ((spec_l19Mask_4_fin A mask i)).val = some ow → ∃ fuel, loopN spec_l19Mask_4_st fuel (A, mask, i) = some ow := by
  refine auto_const (R := (spec_l19Mask_R4 A mask i)) rfl (iter_onR (f := (fun i a => (spec_l19Mask_f4 A mask (i : Int)))) (fin := (fun a => (spec_l19Mask_e4 A mask))) (Q := endsAs () ()) (fun i a => by unfold spec_l19Mask_f4; exact (onR_bif (onR_bif rfl trivial) trivial)) (fun _ => rfl) _ _ _) ?_
  intro ho
  have ho : is (i = 0 ∧ Typed tab (.slice 80) (.l A)) = true := ho.elim id id
  obtain ⟨rfl, ht⟩ := is_iff.1 ho
  have hlen : A.length ≤ 140737488351232 := by have := typed_room ht; simp only [show (tab 80).bytes = 24 from rfl] at this; omega
  refine ⟨(A.length) + 1, ?_⟩
  refine iter_loop (step := spec_l19Mask_4_st) (A.length) (fun i a => (spec_l19Mask_f4 A mask (i : Int))) (fun a => (spec_l19Mask_e4 A mask)) (fun i a => (A, mask, (i : Int))) (fun _ _ => True) trivial (fun i a hi hI => ⟨?_, fun _ _ => trivial⟩) (fun a hI => ?_)
  · show (spec_l19Mask_4_step A mask (i : Int)).val = _
    unfold spec_l19Mask_4_step spec_l19Mask_f4
    skip
    refine Tr.t (by simp; omega) ?_
    exact (Tr.t (by first | omega | (constructor <;> omega) | (rw [IntKind.wrap_u64]; omega)) (Tr.bf (Tr.t (by first | omega | (constructor <;> omega) | (rw [IntKind.wrap_u64]; omega)) (Tr.bf rfl (by rw [Tr.val_ok, wrap64 (i := (i : Int) + 1) (by omega) (by omega)]; rfl))) (by rw [Tr.val_ok, wrap64 (i := (i : Int) + 1) (by omega) (by omega)]; rfl)))
  · show (spec_l19Mask_4_step A mask (A.length : Int)).val = _
    refine Tr.n (by first | (simp; done) | (simp; omega) | omega) ?_
    rfl
theorem spec_l19Mask_is4 : LoopIs tab FT D6 live 58 spec_l19Mask_lo 0 4 := by
  refine loop_told (sl := spec_l19Mask_4_sl) (step := spec_l19Mask_4_st) (out := spec_l19Mask_4_out) (lor := spec_l19Mask_lo4) (fin := fun x => (spec_l19Mask_4_fin (x.1) (x.2.1) (x.2.2))) (fun _ => rfl) ?_ (fun x n => spec_l19Mask_4_r x.1 x.2.1 x.2.2 n) (fun x ow => spec_l19Mask_4_h x.1 x.2.1 x.2.2 ow)
  intro s t h
  unfold spec_l19Mask_lo4 at h
  split at h
  · cases h; exact ⟨(_, _, _), rfl, rfl⟩
  · cases h
noncomputable def spec_l19Mask_t (A : List (List TC)) (mask : Int) : Tr (Bool) := (.ite ((spec_l19Ok_c A) = true) (.ite ((!(spec_l19Ok_v A)) = true) (.ok false)
   (.ite (0 ≤ (IntKind.wrap .u64 (A.length : Int))) (.ite ((!(spec_l00In_v mask (0 : Int) (IntKind.wrap .i64 ((IntKind.wrap .i64 ((1 : Int) * (2 ^ (min ((IntKind.wrap .u64 (A.length : Int))).toNat 64)))) - (1 : Int))))) = true) (.ok false)
     (.ite ((spec_l19Mask_k4_1 A mask (0 : Int)) = true) (.ite ((spec_l19Mask_o4_2 A mask (0 : Int)) = true) (.ok false)
       .no)
      (.ite ((spec_l19Mask_o4_3 A mask (0 : Int)) = true) (.ok true)
       .no)))
    .no))
  .no)
def spec_l19Mask_mk (p : Bool) : Res := [(false, [⟨.bool, .sh, TC.b p⟩])]
noncomputable def spec_l19Mask_c (A : List (List TC)) (mask : Int) : Bool := ((spec_l19Ok_c A) && (bif (!(spec_l19Ok_v A)) then true else (is (0 ≤ (IntKind.wrap .u64 (A.length : Int))) && (bif (!(spec_l00In_v mask (0 : Int) (IntKind.wrap .i64 ((IntKind.wrap .i64 ((1 : Int) * (2 ^ (min ((IntKind.wrap .u64 (A.length : Int))).toNat 64)))) - (1 : Int))))) then true else (bif (spec_l19Mask_k4_1 A mask (0 : Int)) then ((spec_l19Mask_o4_2 A mask (0 : Int)) && true) else ((spec_l19Mask_o4_3 A mask (0 : Int)) && true))))))
noncomputable def spec_l19Mask_v (A : List (List TC)) (mask : Int) : Bool := (bif (!(spec_l19Ok_v A)) then false else (bif (!(spec_l00In_v mask (0 : Int) (IntKind.wrap .i64 ((IntKind.wrap .i64 ((1 : Int) * (2 ^ (min ((IntKind.wrap .u64 (A.length : Int))).toNat 64)))) - (1 : Int))))) then false else (bif (spec_l19Mask_k4_1 A mask (0 : Int)) then false else true)))
theorem spec_l19Mask_l (A : List (List TC)) (mask : Int) : (spec_l19Mask_c A mask) = true → (spec_l19Mask_t A mask).val = some (spec_l19Mask_v A mask) := by
  unfold spec_l19Mask_t spec_l19Mask_v spec_l19Mask_c
  exact fun h => (Tr.gb h fun h => (Tr.ss h (fun h => rfl) (fun h => (Tr.gs h fun h => (Tr.ss h (fun h => rfl) (fun h => (Tr.ss h (fun h => (Tr.gb h fun h => rfl)) (fun h => (Tr.gb h fun h => rfl)))))))))
noncomputable def spec_l19Mask_S : List Arg → Option (Bool × Res) := fun xs => match xs with
  | [(false, [(.slice 80, TC.l A)]), (false, [(.int .i64, TC.i mask)])] => some ((spec_l19Mask_c A mask), spec_l19Mask_mk (spec_l19Mask_v A mask))
  | _ => .none
theorem spec_l19Mask_e (A : List (List TC)) (mask : Int) : runF tab FT D6 live 58 spec_l19Mask_lo [(false, [(.slice 80, TC.l A)]), (false, [(.int .i64, TC.i mask)])] = (spec_l19Mask_t A mask).run fun p => some (spec_l19Mask_mk p) := by kernel_rfl
theorem spec_l19Mask_s : ∀ xs r, spec_l19Mask_S xs = some (true, r) → runF tab FT D6 live 58 spec_l19Mask_lo xs = some r := by
  intro xs r h
  unfold spec_l19Mask_S at h
  split at h
  · simp only [Option.some.injEq, Prod.mk.injEq] at h
    obtain ⟨h1, rfl⟩ := h
    exact fun_told (spec_l19Mask_e _ _) (spec_l19Mask_l _ _) h1
  · cases h
noncomputable def D7 : Dt := also D6 58 spec_l19Mask_S
theorem d7 : DOk Go.Proofs.Try.prog tab D7 := d6.also mixed_ok tab_ok names_ok (fnLoops_one (by kernel_rfl) spec_l19Mask_is4) spec_l19Mask_s
theorem spec_l19Mask_cc {A : List (List TC)} {mask : Int} (hA : Typed tab (.slice 80) (.l A)) : (spec_l19Mask_c A mask) = true := by
  unfold spec_l19Mask_c
  refine andT (by first | (apply is_true; and_intros <;> (first | rfl | assumption | (first | (apply is_true; and_intros <;> (first | rfl | assumption | (first | (apply is_true; and_intros <;> (first | rfl | assumption | (first | (apply is_true; and_intros <;> (first | rfl | assumption)))))))))))) ?_
  refine bifT (fun b1 => ?_) (fun b1 => ?_)
  · skip
    rfl
  · skip
    refine andT (is_true (by rw [IntKind.wrap_u64]; omega)) ?_
    refine bifT (fun b2 => ?_) (fun b2 => ?_)
    · skip
      rfl
    · skip
      refine bifT (fun b3 => ?_) (fun b3 => ?_)
      · skip
        refine andT (by first | (apply is_true; and_intros <;> (first | rfl | assumption | (first | (apply is_true; and_intros <;> (first | rfl | assumption | (first | (apply is_true; and_intros <;> (first | rfl | assumption | (first | (apply is_true; and_intros <;> (first | rfl | assumption)))))))))))) ?_
        rfl
      · skip
        refine andT (by first | (apply is_true; and_intros <;> (first | rfl | assumption | (first | (apply is_true; and_intros <;> (first | rfl | assumption | (first | (apply is_true; and_intros <;> (first | rfl | assumption | (first | (apply is_true; and_intros <;> (first | rfl | assumption)))))))))))) ?_
        rfl
theorem spec_l19Mask_vv (A : List (List TC)) (mask : Int) (hm : mask < 9223372036854775808) : spec_l19Mask_v A mask = maskV A mask := by
  unfold spec_l19Mask_v spec_l19Mask_k4_1 maskV
  rw [spec_l19Mask_R4_eq, show spec_l19Ok_v A = (A.all okFilR && decide ((A.length : Int) ≤ 4)) from rfl]
  cases h : (A.all okFilR && decide ((A.length : Int) ≤ 4)) with
  | false => rfl
  | true =>
    simp only [Bool.and_eq_true, decide_eq_true_eq] at h
    rw [cond_true, ← mask_eq (n := A.length) (b := optB A) (by omega) hm]
    show (bif (!(bif decide (mask ≥ 0) then decide (mask ≤ topM A.length) else false)) then false else _) = _
    unfold specM
    generalize (bif decide (mask ≥ 0) then decide (mask ≤ topM A.length) else false) = q
    generalize allI (fun i => !(bitB mask i) || optB A i) A.length = p
    cases q <;> cases p <;> rfl
/-! spec_ValidMask -/
noncomputable def spec_ValidMask_t (a0 : List (List TC)) (a1 : Int) : Tr (Bool) := (.ite ((spec_l19Mask_c a0 a1) = true) (.ok (spec_l19Mask_v a0 a1))
  .no)
def spec_ValidMask_mk (p : Bool) : Res := [(false, [⟨.bool, .sh, TC.b p⟩])]
noncomputable def spec_ValidMask_c (a0 : List (List TC)) (a1 : Int) : Bool := (spec_l19Mask_c a0 a1)
noncomputable def spec_ValidMask_v (a0 : List (List TC)) (a1 : Int) : Bool := (spec_l19Mask_v a0 a1)
theorem spec_ValidMask_l (a0 : List (List TC)) (a1 : Int) : (spec_ValidMask_c a0 a1) = true → (spec_ValidMask_t a0 a1).val = some (spec_ValidMask_v a0 a1) := by
  intro h
  have hc0 : (spec_l19Mask_c a0 a1) = true := h
  unfold spec_ValidMask_t
  exact (Tr.t hc0 rfl)
noncomputable def spec_ValidMask_S : List Arg → Option (Bool × Res) := fun xs => match xs with
  | [(false, [(.slice 80, TC.l a0)]), (false, [(.int .i64, TC.i a1)])] => some ((spec_ValidMask_c a0 a1), spec_ValidMask_mk (spec_ValidMask_v a0 a1))
  | _ => .none
theorem spec_ValidMask_e (a0 : List (List TC)) (a1 : Int) : runF tab FT D7 live 21 noLoops [(false, [(.slice 80, TC.l a0)]), (false, [(.int .i64, TC.i a1)])] = (spec_ValidMask_t a0 a1).run fun p => some (spec_ValidMask_mk p) := by kernel_rfl
theorem spec_ValidMask_s : ∀ xs r, spec_ValidMask_S xs = some (true, r) → runF tab FT D7 live 21 noLoops xs = some r := by
  intro xs r h
  unfold spec_ValidMask_S at h
  split at h
  · simp only [Option.some.injEq, Prod.mk.injEq] at h
    obtain ⟨h1, rfl⟩ := h
    exact fun_told (spec_ValidMask_e _ _) (spec_ValidMask_l _ _) h1
  · cases h
noncomputable def D8 : Dt := also D7 21 spec_ValidMask_S
theorem d8 : DOk Go.Proofs.Try.prog tab D8 := d7.also mixed_ok tab_ok names_ok noLoops_ok spec_ValidMask_s
/-! impl_within -/
noncomputable def impl_within_t (a0 : Int) (a1 : Int) (a2 : Int) : Tr (Bool) := (.ite ((decide (a0 ≥ a1)) = true) (.ok (decide (a0 ≤ a2)))
  (.ok false))
def impl_within_mk (p : Bool) : Res := [(false, [⟨.bool, .sh, TC.b p⟩])]
noncomputable def impl_within_c (a0 : Int) (a1 : Int) (a2 : Int) : Bool := true
noncomputable def impl_within_v (a0 : Int) (a1 : Int) (a2 : Int) : Bool := (bif (decide (a0 ≥ a1)) then (decide (a0 ≤ a2)) else false)
theorem impl_within_l (a0 : Int) (a1 : Int) (a2 : Int) : (impl_within_c a0 a1 a2) = true → (impl_within_t a0 a1 a2).val = some (impl_within_v a0 a1 a2) := by
  intro h
  skip
  unfold impl_within_t impl_within_v
  exact (Tr.s rfl rfl)
noncomputable def impl_within_S : List Arg → Option (Bool × Res) := fun xs => match xs with
  | [(false, [(.int .i64, TC.i a0)]), (false, [(.int .i64, TC.i a1)]), (false, [(.int .i64, TC.i a2)])] => some (true, impl_within_mk (impl_within_v a0 a1 a2))
  | _ => .none
theorem impl_within_e (a0 : Int) (a1 : Int) (a2 : Int) : runF tab FT D8 live 54 noLoops [(false, [(.int .i64, TC.i a0)]), (false, [(.int .i64, TC.i a1)]), (false, [(.int .i64, TC.i a2)])] = (impl_within_t a0 a1 a2).run fun p => some (impl_within_mk p) := by kernel_rfl
theorem impl_within_s : ∀ xs r, impl_within_S xs = some (true, r) → runF tab FT D8 live 54 noLoops xs = some r := by
  intro xs r h
  unfold impl_within_S at h
  split at h
  · simp only [Option.some.injEq, Prod.mk.injEq] at h
    obtain ⟨h1, rfl⟩ := h
    exact fun_told (impl_within_e _ _ _) (impl_within_l _ _ _) rfl
  · cases h
noncomputable def D9 : Dt := also D8 54 impl_within_S
theorem d9 : DOk Go.Proofs.Try.prog tab D9 := d8.also mixed_ok tab_ok names_ok noLoops_ok impl_within_s
/-! impl_isWidth -/
noncomputable def impl_isWidth_t (a0 : Int) : Tr (Bool) := (.ite ((a0 == (1 : Int)) = true) (.ok true)
  (.ite ((a0 == (2 : Int)) = true) (.ok true)
   (.ok (a0 == (4 : Int)))))
def impl_isWidth_mk (p : Bool) : Res := [(false, [⟨.bool, .sh, TC.b p⟩])]
noncomputable def impl_isWidth_c (a0 : Int) : Bool := true
noncomputable def impl_isWidth_v (a0 : Int) : Bool := (bif (a0 == (1 : Int)) then true else (bif (a0 == (2 : Int)) then true else (a0 == (4 : Int))))
theorem impl_isWidth_l (a0 : Int) : (impl_isWidth_c a0) = true → (impl_isWidth_t a0).val = some (impl_isWidth_v a0) := by
  intro h
  skip
  unfold impl_isWidth_t impl_isWidth_v
  exact (Tr.s rfl (Tr.s rfl rfl))
noncomputable def impl_isWidth_S : List Arg → Option (Bool × Res) := fun xs => match xs with
  | [(false, [(.int .i64, TC.i a0)])] => some (true, impl_isWidth_mk (impl_isWidth_v a0))
  | _ => .none
theorem impl_isWidth_e (a0 : Int) : runF tab FT D9 live 137 noLoops [(false, [(.int .i64, TC.i a0)])] = (impl_isWidth_t a0).run fun p => some (impl_isWidth_mk p) := by kernel_rfl
theorem impl_isWidth_s : ∀ xs r, impl_isWidth_S xs = some (true, r) → runF tab FT D9 live 137 noLoops xs = some r := by
  intro xs r h
  unfold impl_isWidth_S at h
  split at h
  · simp only [Option.some.injEq, Prod.mk.injEq] at h
    obtain ⟨h1, rfl⟩ := h
    exact fun_told (impl_isWidth_e _) (impl_isWidth_l _) rfl
  · cases h
noncomputable def D10 : Dt := also D9 137 impl_isWidth_S
theorem d10 : DOk Go.Proofs.Try.prog tab D10 := d9.also mixed_ok tab_ok names_ok noLoops_ok impl_isWidth_s
/-! impl_ValidFilter -/
noncomputable def impl_ValidFilter_t (k : Int) (p : Int) (o : Bool) : Tr (Bool) := (.ite ((k == (1 : Int)) = true) (.ite ((impl_within_v p (1 : Int) (24 : Int)) = true) (.ok (!o))
   (.ok false))
  (.ite ((k == (2 : Int)) = true) (.ite ((impl_isWidth_v p) = true) (.ok (!o))
    (.ok false))
   (.ite ((k == (3 : Int)) = true) (.ok (p == (0 : Int)))
    (.ite ((k == (4 : Int)) = true) (.ok (p == (0 : Int)))
     (.ite ((k == (5 : Int)) = true) (.ite ((p == (0 : Int)) = true) (.ok (!o))
       (.ok false))
      (.ok false))))))
def impl_ValidFilter_mk (p : Bool) : Res := [(false, [⟨.bool, .sh, TC.b p⟩])]
noncomputable def impl_ValidFilter_c (k : Int) (p : Int) (o : Bool) : Bool := true
noncomputable def impl_ValidFilter_v (k : Int) (p : Int) (o : Bool) : Bool := okFil k p o
theorem impl_ValidFilter_l (k : Int) (p : Int) (o : Bool) : (impl_ValidFilter_c k p o) = true → (impl_ValidFilter_t k p o).val = some (impl_ValidFilter_v k p o) := by
  intro _
  unfold impl_ValidFilter_t
  simp only [Tr.val_br, Tr.val_ok]
  simp only [ite_bif, somebif]
  refine congrArg some ?_
  unfold impl_ValidFilter_v
  unfold okFil
  simp only [impl_within_v, impl_isWidth_v]
  generalize (k == 1) = p0, (k == 2) = p1, (k == 3) = p2, (k == 4) = p3, (k == 5) = p4, (p == 0) = p5, decide (p ≥ 1) = p6, decide (p ≤ 24) = p7, (p == 1) = p8, (p == 2) = p9, (p == 4) = p10, o = p11
  revert p0 p1 p2 p3 p4 p5 p6 p7 p8 p9 p10 p11
  decide
noncomputable def impl_ValidFilter_S : List Arg → Option (Bool × Res) := fun xs => match xs with
  | [(true, [(.int .i64, TC.i k), (.int .i64, TC.i p), (.bool, TC.b o)])] => some (true, impl_ValidFilter_mk (impl_ValidFilter_v k p o))
  | _ => .none
theorem impl_ValidFilter_e (k : Int) (p : Int) (o : Bool) : runF tab FT D10 live 105 noLoops [(true, [(.int .i64, TC.i k), (.int .i64, TC.i p), (.bool, TC.b o)])] = (impl_ValidFilter_t k p o).run fun p => some (impl_ValidFilter_mk p) := by kernel_rfl
theorem impl_ValidFilter_s : ∀ xs r, impl_ValidFilter_S xs = some (true, r) → runF tab FT D10 live 105 noLoops xs = some r := by
  intro xs r h
  unfold impl_ValidFilter_S at h
  split at h
  · simp only [Option.some.injEq, Prod.mk.injEq] at h
    obtain ⟨h1, rfl⟩ := h
    exact fun_told (impl_ValidFilter_e _ _ _) (impl_ValidFilter_l _ _ _) rfl
  · cases h
noncomputable def D11 : Dt := also D10 105 impl_ValidFilter_S
theorem d11 : DOk Go.Proofs.Try.prog tab D11 := d10.also mixed_ok tab_ok names_ok noLoops_ok impl_ValidFilter_s
/-! impl_ValidPipeline_1 -/
noncomputable def impl_ValidPipeline_1_t (a0 : Int) (a1 : Int) (a2 : Bool) : Tr (Bool) := .ok (!(impl_ValidFilter_v a0 a1 a2))
def impl_ValidPipeline_1_mk (p : Bool) : Res := [(false, [⟨.bool, .sh, TC.b p⟩])]
noncomputable def impl_ValidPipeline_1_c (a0 : Int) (a1 : Int) (a2 : Bool) : Bool := true
noncomputable def impl_ValidPipeline_1_v (a0 : Int) (a1 : Int) (a2 : Bool) : Bool := (!(impl_ValidFilter_v a0 a1 a2))
theorem impl_ValidPipeline_1_l (a0 : Int) (a1 : Int) (a2 : Bool) : (impl_ValidPipeline_1_c a0 a1 a2) = true → (impl_ValidPipeline_1_t a0 a1 a2).val = some (impl_ValidPipeline_1_v a0 a1 a2) := by
  intro h
  skip
  unfold impl_ValidPipeline_1_t impl_ValidPipeline_1_v
  exact rfl
noncomputable def impl_ValidPipeline_1_S : List Arg → Option (Bool × Res) := fun xs => match xs with
  | [(true, [(.int .i64, TC.i a0), (.int .i64, TC.i a1), (.bool, TC.b a2)])] => some (true, impl_ValidPipeline_1_mk (impl_ValidPipeline_1_v a0 a1 a2))
  | _ => .none
theorem impl_ValidPipeline_1_e (a0 : Int) (a1 : Int) (a2 : Bool) : runF tab FT D11 live 104 noLoops [(true, [(.int .i64, TC.i a0), (.int .i64, TC.i a1), (.bool, TC.b a2)])] = (impl_ValidPipeline_1_t a0 a1 a2).run fun p => some (impl_ValidPipeline_1_mk p) := by kernel_rfl
theorem impl_ValidPipeline_1_s : ∀ xs r, impl_ValidPipeline_1_S xs = some (true, r) → runF tab FT D11 live 104 noLoops xs = some r := by
  intro xs r h
  unfold impl_ValidPipeline_1_S at h
  split at h
  · simp only [Option.some.injEq, Prod.mk.injEq] at h
    obtain ⟨h1, rfl⟩ := h
    exact fun_told (impl_ValidPipeline_1_e _ _ _) (impl_ValidPipeline_1_l _ _ _) rfl
  · cases h
noncomputable def D12 : Dt := also D11 104 impl_ValidPipeline_1_S
theorem d12 : DOk Go.Proofs.Try.prog tab D12 := d11.also mixed_ok tab_ok names_ok noLoops_ok impl_ValidPipeline_1_s
/-! slices_IndexFunc_impl_Filter_impl_Filter -/
abbrev slices_IndexFunc_impl_Filter_impl_Filter_2_σ := List (List TC) × Int × Int
abbrev slices_IndexFunc_impl_Filter_impl_Filter_2_ω := (Int) ⊕ (Unit)
noncomputable def slices_IndexFunc_impl_Filter_impl_Filter_2_step (A : List (List TC)) (m : Int) (i : Int) : Tr (slices_IndexFunc_impl_Filter_impl_Filter_2_σ ⊕ slices_IndexFunc_impl_Filter_impl_Filter_2_ω) := (.ite ((decide (i < m)) = true) (.ite ((0 : Int) ≤ i ∧ i < (A.length : Int)) (.ite ((!(impl_ValidFilter_v ((nth (row A i) 0).int) ((nth (row A i) 1).int) ((nth (row A i) 2).bool))) = true) (.ok (.inr (.inl i)))
    (.ok (.inl (A, m, (IntKind.wrap .i64 (i + (1 : Int)))))))
   .no)
  (.ok (.inr (.inr ()))))
noncomputable def slices_IndexFunc_impl_Filter_impl_Filter_2_st : slices_IndexFunc_impl_Filter_impl_Filter_2_σ → Tr (slices_IndexFunc_impl_Filter_impl_Filter_2_σ ⊕ slices_IndexFunc_impl_Filter_impl_Filter_2_ω) := fun x => (slices_IndexFunc_impl_Filter_impl_Filter_2_step (x.1) (x.2.1) (x.2.2))
noncomputable def slices_IndexFunc_impl_Filter_impl_Filter_k2_1 (A : List (List TC)) (m : Int) (i : Int) : Bool := A.all okFilR
noncomputable def slices_IndexFunc_impl_Filter_impl_Filter_o2_2 (A : List (List TC)) (m : Int) (i : Int) : Bool := is (i = 0 ∧ Typed tab (.slice 80) (.l A) ∧ m = (A.length : Int))
noncomputable def slices_IndexFunc_impl_Filter_impl_Filter_o2_3 (A : List (List TC)) (m : Int) (i : Int) : Bool := is (i = 0 ∧ Typed tab (.slice 80) (.l A) ∧ m = (A.length : Int))
noncomputable def slices_IndexFunc_impl_Filter_impl_Filter_u2_3 (A : List (List TC)) (m : Int) (i : Int) : Int := (Int.ofNat (A.findIdx fun x => !okFilR x))
noncomputable def slices_IndexFunc_impl_Filter_impl_Filter_2_fin (A : List (List TC)) (m : Int) (i : Int) : Told slices_IndexFunc_impl_Filter_impl_Filter_2_ω := (.br (slices_IndexFunc_impl_Filter_impl_Filter_k2_1 A m i) (.leaf (slices_IndexFunc_impl_Filter_impl_Filter_o2_2 A m i) (.inr ())) (.leaf (slices_IndexFunc_impl_Filter_impl_Filter_o2_3 A m i) (.inl (slices_IndexFunc_impl_Filter_impl_Filter_u2_3 A m i))))
def slices_IndexFunc_impl_Filter_impl_Filter_2_sl (x : slices_IndexFunc_impl_Filter_impl_Filter_2_σ) : List Slot := [⟨.val false [⟨.slice 80, .sh, TC.l (x.1)⟩], ⟨0, 0⟩⟩, ⟨.val false [⟨.func, .sh, TC.f 104 []⟩], ⟨0, 0⟩⟩, ⟨.val false [⟨.int .i64, .sh, TC.i (x.2.1)⟩], ⟨0, 0⟩⟩, ⟨.val false [⟨.int .i64, .sh, TC.i (x.2.2)⟩], ⟨0, 0⟩⟩]
def slices_IndexFunc_impl_Filter_impl_Filter_2_out : slices_IndexFunc_impl_Filter_impl_Filter_2_ω → Ex × List Slot := (Sum.elim (fun x => (.ret, [⟨.val false [⟨.int .i64, .sh, TC.i x⟩], ⟨0, 0⟩⟩])) (fun x => (.exit 0, [Slot.none])))
noncomputable def slices_IndexFunc_impl_Filter_impl_Filter_lo2 : List Slot → Option (Told (Ex × List Slot)) := fun s => match s with
  | [⟨.val false [⟨.slice 80, .sh, TC.l A⟩], ⟨0, 0⟩⟩, ⟨.val false [⟨.func, .sh, TC.f 104 []⟩], ⟨0, 0⟩⟩, ⟨.val false [⟨.int .i64, .sh, TC.i m⟩], ⟨0, 0⟩⟩, ⟨.val false [⟨.int .i64, .sh, TC.i i⟩], ⟨0, 0⟩⟩] => some (((slices_IndexFunc_impl_Filter_impl_Filter_2_fin A m i)).map slices_IndexFunc_impl_Filter_impl_Filter_2_out)
  | _ => .none
noncomputable def slices_IndexFunc_impl_Filter_impl_Filter_lo : LoopTeller := fun r s => bif Nat.beq r 2 then slices_IndexFunc_impl_Filter_impl_Filter_lo2 s else .none
theorem slices_IndexFunc_impl_Filter_impl_Filter_2_r (A : List (List TC)) (m : Int) (i : Int) (fuel : Nat) : rounds (rnd tab FT D12 live 136 slices_IndexFunc_impl_Filter_impl_Filter_lo 0 2) leave (fuel + 1) (slices_IndexFunc_impl_Filter_impl_Filter_2_sl (A, m, i)) = ((slices_IndexFunc_impl_Filter_impl_Filter_2_step A m i)).run (goOn (fun s => rounds (rnd tab FT D12 live 136 slices_IndexFunc_impl_Filter_impl_Filter_lo 0 2) leave fuel (slices_IndexFunc_impl_Filter_impl_Filter_2_sl s)) fun w => some (slices_IndexFunc_impl_Filter_impl_Filter_2_out w)) := by kernel_rfl
theorem slices_IndexFunc_impl_Filter_impl_Filter_2_h (A : List (List TC)) (m : Int) (i : Int) (ow : slices_IndexFunc_impl_Filter_impl_Filter_2_ω) : ((slices_IndexFunc_impl_Filter_impl_Filter_2_fin A m i)).val = some ow → ∃ fuel, loopN slices_IndexFunc_impl_Filter_impl_Filter_2_st fuel (A, m, i) = some ow := by
  intro h
  have key : Typed tab (.slice 80) (.l A) → loopN slices_IndexFunc_impl_Filter_impl_Filter_2_st (A.length + 1) (A, (A.length : Int), (0 : Int)) = some (if A.all okFilR = true then (.inr ()) else (.inl (Int.ofNat (A.findIdx fun x => !okFilR x)))) := by
    intro ht
    have hlen : A.length ≤ 140737488351232 := by have := typed_room ht; simp only [show (tab 80).bytes = 24 from rfl] at this; omega
    have key := loopN_scan (step := slices_IndexFunc_impl_Filter_impl_Filter_2_st) A [] okFilR (fun a _ => a) (fun i a => (A, (A.length : Int), (i : Int))) (fun a => (.inr ())) (fun i a => (.inl (i : Int))) (fun i a hi => ?_) (fun a => ?_) A.length 0 () (by omega)
    · first | (rw [Nat.zero_add] at key; exact key) | exact key
    · skip
      show (slices_IndexFunc_impl_Filter_impl_Filter_2_step A (A.length : Int) (i : Int)).val = _
      unfold slices_IndexFunc_impl_Filter_impl_Filter_2_step
      refine Tr.t (by simp; omega) ?_
      skip
      refine Tr.t (by first | omega | (constructor <;> omega)) ?_
      refine Tr.b (P := okFilR (A.getD i [])) (fun hP => ?_) (fun _ => rfl)
      rw [Tr.val_ok, wrap64 (i := (i : Int) + 1) (by omega) (by omega)]; rfl
    · show (slices_IndexFunc_impl_Filter_impl_Filter_2_step A (A.length : Int) (A.length : Int)).val = _
      refine Tr.n (by simp) ?_
      rfl
  simp only [slices_IndexFunc_impl_Filter_impl_Filter_2_fin, Told.val] at h
  cases hk : A.all okFilR with
  | true =>
    rw [if_pos (show slices_IndexFunc_impl_Filter_impl_Filter_k2_1 A m i = true from hk)] at h
    split at h
    · rename_i ho
      obtain ⟨rfl, ht, rfl⟩ := is_iff.1 ho
      cases h
      refine ⟨_, (key ht).trans ?_⟩
      rw [hk]; rfl
    · cases h
  | false =>
    rw [if_neg (show ¬slices_IndexFunc_impl_Filter_impl_Filter_k2_1 A m i = true from by rw [show slices_IndexFunc_impl_Filter_impl_Filter_k2_1 A m i = (A.all okFilR) from rfl, hk]; simp)] at h
    split at h
    · rename_i ho
      obtain ⟨rfl, ht, rfl⟩ := is_iff.1 ho
      cases h
      refine ⟨_, (key ht).trans ?_⟩
      rw [hk]; rfl
    · cases h
theorem slices_IndexFunc_impl_Filter_impl_Filter_is2 : LoopIs tab FT D12 live 136 slices_IndexFunc_impl_Filter_impl_Filter_lo 0 2 := by
  refine loop_told (sl := slices_IndexFunc_impl_Filter_impl_Filter_2_sl) (step := slices_IndexFunc_impl_Filter_impl_Filter_2_st) (out := slices_IndexFunc_impl_Filter_impl_Filter_2_out) (lor := slices_IndexFunc_impl_Filter_impl_Filter_lo2) (fin := fun x => (slices_IndexFunc_impl_Filter_impl_Filter_2_fin (x.1) (x.2.1) (x.2.2))) (fun _ => rfl) ?_ (fun x n => slices_IndexFunc_impl_Filter_impl_Filter_2_r x.1 x.2.1 x.2.2 n) (fun x ow => slices_IndexFunc_impl_Filter_impl_Filter_2_h x.1 x.2.1 x.2.2 ow)
  intro s t h
  unfold slices_IndexFunc_impl_Filter_impl_Filter_lo2 at h
  split at h
  · cases h; exact ⟨(_, _, _), rfl, rfl⟩
  · cases h
noncomputable def slices_IndexFunc_impl_Filter_impl_Filter_t (A : List (List TC)) : Tr (Int) := (.ite ((slices_IndexFunc_impl_Filter_impl_Filter_k2_1 A (A.length : Int) (0 : Int)) = true) (.ite ((slices_IndexFunc_impl_Filter_impl_Filter_o2_2 A (A.length : Int) (0 : Int)) = true) (.ok (-1 : Int))
   .no)
  (.ite ((slices_IndexFunc_impl_Filter_impl_Filter_o2_3 A (A.length : Int) (0 : Int)) = true) (.ok (slices_IndexFunc_impl_Filter_impl_Filter_u2_3 A (A.length : Int) (0 : Int)))
   .no))
def slices_IndexFunc_impl_Filter_impl_Filter_mk (p : Int) : Res := [(false, [⟨.int .i64, .sh, TC.i p⟩])]
noncomputable def slices_IndexFunc_impl_Filter_impl_Filter_c (A : List (List TC)) : Bool := is (Typed tab (.slice 80) (.l A))
noncomputable def slices_IndexFunc_impl_Filter_impl_Filter_v (A : List (List TC)) : Int := if (A.all okFilR) = true then -1 else (Int.ofNat (A.findIdx fun x => !okFilR x))
theorem slices_IndexFunc_impl_Filter_impl_Filter_l (A : List (List TC)) : (slices_IndexFunc_impl_Filter_impl_Filter_c A) = true → (slices_IndexFunc_impl_Filter_impl_Filter_t A).val = some (slices_IndexFunc_impl_Filter_impl_Filter_v A) := by
  intro h
  have ht := is_iff.1 h
  unfold slices_IndexFunc_impl_Filter_impl_Filter_t
  cases hk : A.all okFilR with
  | true =>
    refine Tr.t (show A.all okFilR = true from hk) ?_
    refine Tr.t (by first | (apply is_true; and_intros <;> (first | rfl | assumption | (apply spec_l19Mask_cc <;> assumption) | (first | (apply is_true; and_intros <;> (first | rfl | assumption | (apply spec_l19Mask_cc <;> assumption) | (first | (apply is_true; and_intros <;> (first | rfl | assumption | (apply spec_l19Mask_cc <;> assumption) | (first | (apply is_true; and_intros <;> (first | rfl | assumption | (apply spec_l19Mask_cc <;> assumption))) | (apply spec_l19Mask_cc <;> assumption)))) | (apply spec_l19Mask_cc <;> assumption)))) | (apply spec_l19Mask_cc <;> assumption)))) | (apply spec_l19Mask_cc <;> assumption)) ?_
    show _ = some (slices_IndexFunc_impl_Filter_impl_Filter_v A ); unfold slices_IndexFunc_impl_Filter_impl_Filter_v; rw [if_pos hk]; rfl
  | false =>
    refine Tr.n (show ¬A.all okFilR = true from by rw [hk]; simp) ?_
    refine Tr.t (by first | (apply is_true; and_intros <;> (first | rfl | assumption | (apply spec_l19Mask_cc <;> assumption) | (first | (apply is_true; and_intros <;> (first | rfl | assumption | (apply spec_l19Mask_cc <;> assumption) | (first | (apply is_true; and_intros <;> (first | rfl | assumption | (apply spec_l19Mask_cc <;> assumption) | (first | (apply is_true; and_intros <;> (first | rfl | assumption | (apply spec_l19Mask_cc <;> assumption))) | (apply spec_l19Mask_cc <;> assumption)))) | (apply spec_l19Mask_cc <;> assumption)))) | (apply spec_l19Mask_cc <;> assumption)))) | (apply spec_l19Mask_cc <;> assumption)) ?_
    show _ = some (slices_IndexFunc_impl_Filter_impl_Filter_v A ); unfold slices_IndexFunc_impl_Filter_impl_Filter_v; rw [if_neg (by rw [hk]; simp)]; rfl
noncomputable def slices_IndexFunc_impl_Filter_impl_Filter_S : List Arg → Option (Bool × Res) := fun xs => match xs with
  | [(false, [(.slice 80, TC.l A)]), (false, [(.func, TC.f 104 [])])] => some ((slices_IndexFunc_impl_Filter_impl_Filter_c A), slices_IndexFunc_impl_Filter_impl_Filter_mk (slices_IndexFunc_impl_Filter_impl_Filter_v A))
  | _ => .none
theorem slices_IndexFunc_impl_Filter_impl_Filter_e (A : List (List TC)) : runF tab FT D12 live 136 slices_IndexFunc_impl_Filter_impl_Filter_lo [(false, [(.slice 80, TC.l A)]), (false, [(.func, TC.f 104 [])])] = (slices_IndexFunc_impl_Filter_impl_Filter_t A).run fun p => some (slices_IndexFunc_impl_Filter_impl_Filter_mk p) := by kernel_rfl
theorem slices_IndexFunc_impl_Filter_impl_Filter_s : ∀ xs r, slices_IndexFunc_impl_Filter_impl_Filter_S xs = some (true, r) → runF tab FT D12 live 136 slices_IndexFunc_impl_Filter_impl_Filter_lo xs = some r := by
  intro xs r h
  unfold slices_IndexFunc_impl_Filter_impl_Filter_S at h
  split at h
  · simp only [Option.some.injEq, Prod.mk.injEq] at h
    obtain ⟨h1, rfl⟩ := h
    exact fun_told (slices_IndexFunc_impl_Filter_impl_Filter_e _) (slices_IndexFunc_impl_Filter_impl_Filter_l _) h1
  · cases h
noncomputable def D13 : Dt := also D12 136 slices_IndexFunc_impl_Filter_impl_Filter_S
theorem d13 : DOk Go.Proofs.Try.prog tab D13 := d12.also mixed_ok tab_ok names_ok (fnLoops_one (by kernel_rfl) slices_IndexFunc_impl_Filter_impl_Filter_is2) slices_IndexFunc_impl_Filter_impl_Filter_s
/-! slices_ContainsFunc_impl_Filter_impl_Filter -/
noncomputable def slices_ContainsFunc_impl_Filter_impl_Filter_t (A : List (List TC)) : Tr (Bool) := (.ite ((slices_IndexFunc_impl_Filter_impl_Filter_c A) = true) (.ok (decide ((slices_IndexFunc_impl_Filter_impl_Filter_v A) ≥ (0 : Int))))
  .no)
def slices_ContainsFunc_impl_Filter_impl_Filter_mk (p : Bool) : Res := [(false, [⟨.bool, .sh, TC.b p⟩])]
noncomputable def slices_ContainsFunc_impl_Filter_impl_Filter_c (A : List (List TC)) : Bool := is (Typed tab (.slice 80) (.l A))
noncomputable def slices_ContainsFunc_impl_Filter_impl_Filter_v (A : List (List TC)) : Bool := !(A.all okFilR)
theorem slices_ContainsFunc_impl_Filter_impl_Filter_l (A : List (List TC)) : (slices_ContainsFunc_impl_Filter_impl_Filter_c A) = true → (slices_ContainsFunc_impl_Filter_impl_Filter_t A).val = some (slices_ContainsFunc_impl_Filter_impl_Filter_v A) := by
  intro h
  have ht := is_iff.1 h
  unfold slices_ContainsFunc_impl_Filter_impl_Filter_t
  refine Tr.t (by first | (apply is_true; and_intros <;> (first | rfl | assumption | (apply spec_l19Mask_cc <;> assumption) | (first | (apply is_true; and_intros <;> (first | rfl | assumption | (apply spec_l19Mask_cc <;> assumption) | (first | (apply is_true; and_intros <;> (first | rfl | assumption | (apply spec_l19Mask_cc <;> assumption) | (first | (apply is_true; and_intros <;> (first | rfl | assumption | (apply spec_l19Mask_cc <;> assumption))) | (apply spec_l19Mask_cc <;> assumption)))) | (apply spec_l19Mask_cc <;> assumption)))) | (apply spec_l19Mask_cc <;> assumption)))) | (apply spec_l19Mask_cc <;> assumption)) ?_
  show some (decide (slices_IndexFunc_impl_Filter_impl_Filter_v A  ≥ 0)) = some (!(A.all okFilR))
  unfold slices_IndexFunc_impl_Filter_impl_Filter_v
  cases hk : A.all okFilR <;> simp
noncomputable def slices_ContainsFunc_impl_Filter_impl_Filter_S : List Arg → Option (Bool × Res) := fun xs => match xs with
  | [(false, [(.slice 80, TC.l A)]), (false, [(.func, TC.f 104 [])])] => some ((slices_ContainsFunc_impl_Filter_impl_Filter_c A), slices_ContainsFunc_impl_Filter_impl_Filter_mk (slices_ContainsFunc_impl_Filter_impl_Filter_v A))
  | _ => .none
theorem slices_ContainsFunc_impl_Filter_impl_Filter_e (A : List (List TC)) : runF tab FT D13 live 103 noLoops [(false, [(.slice 80, TC.l A)]), (false, [(.func, TC.f 104 [])])] = (slices_ContainsFunc_impl_Filter_impl_Filter_t A).run fun p => some (slices_ContainsFunc_impl_Filter_impl_Filter_mk p) := by kernel_rfl
theorem slices_ContainsFunc_impl_Filter_impl_Filter_s : ∀ xs r, slices_ContainsFunc_impl_Filter_impl_Filter_S xs = some (true, r) → runF tab FT D13 live 103 noLoops xs = some r := by
  intro xs r h
  unfold slices_ContainsFunc_impl_Filter_impl_Filter_S at h
  split at h
  · simp only [Option.some.injEq, Prod.mk.injEq] at h
    obtain ⟨h1, rfl⟩ := h
    exact fun_told (slices_ContainsFunc_impl_Filter_impl_Filter_e _) (slices_ContainsFunc_impl_Filter_impl_Filter_l _) h1
  · cases h
noncomputable def D14 : Dt := also D13 103 slices_ContainsFunc_impl_Filter_impl_Filter_S
theorem d14 : DOk Go.Proofs.Try.prog tab D14 := d13.also mixed_ok tab_ok names_ok noLoops_ok slices_ContainsFunc_impl_Filter_impl_Filter_s
/-! impl_ValidPipeline -/
noncomputable def impl_ValidPipeline_t (A : List (List TC)) : Tr (Bool) := (.ite ((decide ((A.length : Int) ≤ (4 : Int))) = true) (.ite ((slices_ContainsFunc_impl_Filter_impl_Filter_c A) = true) (.ok (!(slices_ContainsFunc_impl_Filter_impl_Filter_v A)))
   .no)
  (.ok false))
def impl_ValidPipeline_mk (p : Bool) : Res := [(false, [⟨.bool, .sh, TC.b p⟩])]
noncomputable def impl_ValidPipeline_c (A : List (List TC)) : Bool := is (Typed tab (.slice 80) (.l A))
noncomputable def impl_ValidPipeline_v (A : List (List TC)) : Bool := A.all okFilR && decide ((A.length : Int) ≤ 4)
theorem impl_ValidPipeline_l (A : List (List TC)) : (impl_ValidPipeline_c A) = true → (impl_ValidPipeline_t A).val = some (impl_ValidPipeline_v A) := by
  intro h
  have ht := is_iff.1 h
  unfold impl_ValidPipeline_t
  rw [Tr.val_br]
  split
  · rename_i h4
    refine Tr.t (by first | (apply is_true; and_intros <;> (first | rfl | assumption | (apply spec_l19Mask_cc <;> assumption) | (first | (apply is_true; and_intros <;> (first | rfl | assumption | (apply spec_l19Mask_cc <;> assumption) | (first | (apply is_true; and_intros <;> (first | rfl | assumption | (apply spec_l19Mask_cc <;> assumption) | (first | (apply is_true; and_intros <;> (first | rfl | assumption | (apply spec_l19Mask_cc <;> assumption))) | (apply spec_l19Mask_cc <;> assumption)))) | (apply spec_l19Mask_cc <;> assumption)))) | (apply spec_l19Mask_cc <;> assumption)))) | (apply spec_l19Mask_cc <;> assumption)) ?_
    show some (!!(A.all okFilR)) = some (A.all okFilR && decide ((A.length : Int) ≤ 4))
    rw [h4]; simp
  · rename_i h4
    show some false = some (A.all okFilR && decide ((A.length : Int) ≤ 4))
    rw [show decide ((A.length : Int) ≤ 4) = false from by simpa using h4]; simp
noncomputable def impl_ValidPipeline_S : List Arg → Option (Bool × Res) := fun xs => match xs with
  | [(false, [(.slice 80, TC.l A)])] => some ((impl_ValidPipeline_c A), impl_ValidPipeline_mk (impl_ValidPipeline_v A))
  | _ => .none
theorem impl_ValidPipeline_e (A : List (List TC)) : runF tab FT D14 live 60 noLoops [(false, [(.slice 80, TC.l A)])] = (impl_ValidPipeline_t A).run fun p => some (impl_ValidPipeline_mk p) := by kernel_rfl
theorem impl_ValidPipeline_s : ∀ xs r, impl_ValidPipeline_S xs = some (true, r) → runF tab FT D14 live 60 noLoops xs = some r := by
  intro xs r h
  unfold impl_ValidPipeline_S at h
  split at h
  · simp only [Option.some.injEq, Prod.mk.injEq] at h
    obtain ⟨h1, rfl⟩ := h
    exact fun_told (impl_ValidPipeline_e _) (impl_ValidPipeline_l _) h1
  · cases h
noncomputable def D15 : Dt := also D14 60 impl_ValidPipeline_S
theorem d15 : DOk Go.Proofs.Try.prog tab D15 := d14.also mixed_ok tab_ok names_ok noLoops_ok impl_ValidPipeline_s
/-! impl_maskOk -/
noncomputable def impl_maskOk_f3 (mask : Int) (A : List (List TC)) (m : Int) (i : Int) (a : Int) : (Int) ⊕ ((Int × Int)) := (bif (nth (row A i) 2).bool then (.inl (bits .i64 (fun a b => a ||| b) a (IntKind.wrap .i64 ((1 : Int) * (2 ^ (min (i).toNat 64)))))) else (.inl a))
noncomputable def impl_maskOk_e3 (mask : Int) (A : List (List TC)) (m : Int) (a : Int) : (Int × Int) := (mask, a)
noncomputable def impl_maskOk_R3 (mask : Int) (a : Int) (A : List (List TC)) (m : Int) (i : Int) : (Int × Int) := iter (fun i a => (impl_maskOk_f3 mask A m (i : Int) a)) (fun a => (impl_maskOk_e3 mask A m a)) (A.length) 0 a
abbrev impl_maskOk_3_σ := Int × Int × List (List TC) × Int × Int
abbrev impl_maskOk_3_ω := (Int × Int)
noncomputable def impl_maskOk_3_step (mask : Int) (a : Int) (A : List (List TC)) (m : Int) (i : Int) : Tr (impl_maskOk_3_σ ⊕ impl_maskOk_3_ω) := (.ite ((decide (i < m)) = true) (.ite ((0 : Int) ≤ i ∧ i < (A.length : Int)) (.ite ((nth (row A i) 2).bool = true) (.ite (0 ≤ i) (.ok (.inl (mask, (bits .i64 (fun a b => a ||| b) a (IntKind.wrap .i64 ((1 : Int) * (2 ^ (min (i).toNat 64))))), A, m, (IntKind.wrap .i64 (i + (1 : Int))))))
     .no)
    (.ok (.inl (mask, a, A, m, (IntKind.wrap .i64 (i + (1 : Int)))))))
   .no)
  (.ok (.inr (mask, a))))
noncomputable def impl_maskOk_3_st : impl_maskOk_3_σ → Tr (impl_maskOk_3_σ ⊕ impl_maskOk_3_ω) := fun x => (impl_maskOk_3_step (x.1) (x.2.1) (x.2.2.1) (x.2.2.2.1) (x.2.2.2.2))
noncomputable def impl_maskOk_o3_1 (mask : Int) (a : Int) (A : List (List TC)) (m : Int) (i : Int) : Bool := is (i = 0 ∧ Typed tab (.slice 80) (.l A) ∧ m = (A.length : Int))
noncomputable def impl_maskOk_u3_1_0 (mask : Int) (a : Int) (A : List (List TC)) (m : Int) (i : Int) : Int := (impl_maskOk_R3 mask a A m i).1
noncomputable def impl_maskOk_u3_1_1 (mask : Int) (a : Int) (A : List (List TC)) (m : Int) (i : Int) : Int := (impl_maskOk_R3 mask a A m i).2
noncomputable def impl_maskOk_3_fin (mask : Int) (a : Int) (A : List (List TC)) (m : Int) (i : Int) : Told impl_maskOk_3_ω := (.leaf (impl_maskOk_o3_1 mask a A m i) ((impl_maskOk_u3_1_0 mask a A m i), (impl_maskOk_u3_1_1 mask a A m i)))
def impl_maskOk_3_sl (x : impl_maskOk_3_σ) : List Slot := [⟨.val false [⟨.int .i64, .sh, TC.i (x.1)⟩], ⟨0, 0⟩⟩, ⟨.val false [⟨.int .i64, .sh, TC.i (x.2.1)⟩], ⟨0, 0⟩⟩, ⟨.val false [⟨.slice 80, .sh, TC.l (x.2.2.1)⟩], ⟨0, 0⟩⟩, ⟨.val false [⟨.int .i64, .sh, TC.i (x.2.2.2.1)⟩], ⟨0, 0⟩⟩, ⟨.val false [⟨.int .i64, .sh, TC.i (x.2.2.2.2)⟩], ⟨0, 0⟩⟩]
def impl_maskOk_3_out : impl_maskOk_3_ω → Ex × List Slot := (fun x => (.exit 0, [⟨.val false [⟨.int .i64, .sh, TC.i (x.1)⟩], ⟨0, 0⟩⟩, Slot.none, ⟨.val false [⟨.int .i64, .sh, TC.i (x.2)⟩], ⟨0, 0⟩⟩]))
noncomputable def impl_maskOk_lo3 : List Slot → Option (Told (Ex × List Slot)) := fun s => match s with
  | [⟨.val false [⟨.int .i64, .sh, TC.i mask⟩], ⟨0, 0⟩⟩, ⟨.val false [⟨.int .i64, .sh, TC.i a⟩], ⟨0, 0⟩⟩, ⟨.val false [⟨.slice 80, .sh, TC.l A⟩], ⟨0, 0⟩⟩, ⟨.val false [⟨.int .i64, .sh, TC.i m⟩], ⟨0, 0⟩⟩, ⟨.val false [⟨.int .i64, .sh, TC.i i⟩], ⟨0, 0⟩⟩] => some (((impl_maskOk_3_fin mask a A m i)).map impl_maskOk_3_out)
  | _ => .none
noncomputable def impl_maskOk_lo : LoopTeller := fun r s => bif Nat.beq r 3 then impl_maskOk_lo3 s else .none
theorem impl_maskOk_3_r (mask : Int) (a : Int) (A : List (List TC)) (m : Int) (i : Int) (fuel : Nat) : rounds (rnd tab FT D15 live 61 impl_maskOk_lo 0 3) leave (fuel + 1) (impl_maskOk_3_sl (mask, a, A, m, i)) = ((impl_maskOk_3_step mask a A m i)).run (goOn (fun s => rounds (rnd tab FT D15 live 61 impl_maskOk_lo 0 3) leave fuel (impl_maskOk_3_sl s)) fun w => some (impl_maskOk_3_out w)) := by kernel_rfl
theorem impl_maskOk_R3_eq (A : List (List TC)) (mask : Int) : impl_maskOk_R3 mask 0 A (A.length : Int) 0 = (mask, foldI (orM (optB A)) A.length 0) := by
  unfold impl_maskOk_R3
  refine (iter_each (g := orM (optB A)) (fin := fun a => impl_maskOk_e3 mask A (A.length : Int) a) fun j a hj => ?_)
  unfold impl_maskOk_f3 orM
  show (bif optB A j then _ else _) = _
  cases optB A j <;> rfl
theorem impl_maskOk_u0 (A : List (List TC)) (mask : Int) : impl_maskOk_u3_1_0 mask 0 A (A.length : Int) 0 = mask := by
  unfold impl_maskOk_u3_1_0
  rw [impl_maskOk_R3_eq]
theorem impl_maskOk_u1 (A : List (List TC)) (mask : Int) : impl_maskOk_u3_1_1 mask 0 A (A.length : Int) 0 = foldI (orM (optB A)) A.length 0 := by
  unfold impl_maskOk_u3_1_1
  rw [impl_maskOk_R3_eq]
theorem impl_maskOk_3_h (mask : Int) (a : Int) (A : List (List TC)) (m : Int) (i : Int) (ow : impl_maskOk_3_ω) : ((impl_maskOk_3_fin mask a A m i)).val = some ow → ∃ fuel, loopN impl_maskOk_3_st fuel (mask, a, A, m, i) = some ow := by
  refine auto_leaf (R := (impl_maskOk_R3 mask a A m i)) ?_
  intro ho
  have ho : is (i = 0 ∧ Typed tab (.slice 80) (.l A) ∧ m = (A.length : Int)) = true := ho
  obtain ⟨rfl, ht, rfl⟩ := is_iff.1 ho
  have hlen : A.length ≤ 140737488351232 := by have := typed_room ht; simp only [show (tab 80).bytes = 24 from rfl] at this; omega
  refine ⟨(A.length) + 1, ?_⟩
  refine iter_loop (step := impl_maskOk_3_st) (A.length) (fun i a => (impl_maskOk_f3 mask A (A.length : Int) (i : Int) a)) (fun a => (impl_maskOk_e3 mask A (A.length : Int) a)) (fun i a => (mask, a, A, (A.length : Int), (i : Int))) (fun _ _ => True) trivial (fun i a hi hI => ⟨?_, fun _ _ => trivial⟩) (fun a hI => ?_)
  · show (impl_maskOk_3_step mask a A (A.length : Int) (i : Int)).val = _
    unfold impl_maskOk_3_step impl_maskOk_f3
    skip
    refine Tr.t (by simp; omega) ?_
    exact (Tr.t (by first | omega | (constructor <;> omega)) (Tr.bf (Tr.t (by first | omega | (constructor <;> omega)) (by rw [Tr.val_ok, wrap64 (i := (i : Int) + 1) (by omega) (by omega)]; rfl)) (by rw [Tr.val_ok, wrap64 (i := (i : Int) + 1) (by omega) (by omega)]; rfl)))
  · show (impl_maskOk_3_step mask a A (A.length : Int) (A.length : Int)).val = _
    refine Tr.n (by first | (simp; done) | (simp; omega) | omega) ?_
    rfl
theorem impl_maskOk_is3 : LoopIs tab FT D15 live 61 impl_maskOk_lo 0 3 := by
  refine loop_told (sl := impl_maskOk_3_sl) (step := impl_maskOk_3_st) (out := impl_maskOk_3_out) (lor := impl_maskOk_lo3) (fin := fun x => (impl_maskOk_3_fin (x.1) (x.2.1) (x.2.2.1) (x.2.2.2.1) (x.2.2.2.2))) (fun _ => rfl) ?_ (fun x n => impl_maskOk_3_r x.1 x.2.1 x.2.2.1 x.2.2.2.1 x.2.2.2.2 n) (fun x ow => impl_maskOk_3_h x.1 x.2.1 x.2.2.1 x.2.2.2.1 x.2.2.2.2 ow)
  intro s t h
  unfold impl_maskOk_lo3 at h
  split at h
  · cases h; exact ⟨(_, _, _, _, _), rfl, rfl⟩
  · cases h
noncomputable def impl_maskOk_t (A : List (List TC)) (mask : Int) : Tr (Bool) := (.ite ((impl_maskOk_o3_1 mask (0 : Int) A (A.length : Int) (0 : Int)) = true) (.ite ((decide ((impl_maskOk_u3_1_0 mask (0 : Int) A (A.length : Int) (0 : Int)) ≥ (0 : Int))) = true) (.ok ((bits .i64 (fun a b => a &&& ~~~b) (impl_maskOk_u3_1_0 mask (0 : Int) A (A.length : Int) (0 : Int)) (impl_maskOk_u3_1_1 mask (0 : Int) A (A.length : Int) (0 : Int))) == (0 : Int)))
   (.ok false))
  .no)
def impl_maskOk_mk (p : Bool) : Res := [(false, [⟨.bool, .sh, TC.b p⟩])]
noncomputable def impl_maskOk_c (A : List (List TC)) (mask : Int) : Bool := ((impl_maskOk_o3_1 mask (0 : Int) A (A.length : Int) (0 : Int)) && (bif (decide ((impl_maskOk_u3_1_0 mask (0 : Int) A (A.length : Int) (0 : Int)) ≥ (0 : Int))) then true else true))
noncomputable def impl_maskOk_v (A : List (List TC)) (mask : Int) : Bool := (bif (decide ((impl_maskOk_u3_1_0 mask (0 : Int) A (A.length : Int) (0 : Int)) ≥ (0 : Int))) then ((bits .i64 (fun a b => a &&& ~~~b) (impl_maskOk_u3_1_0 mask (0 : Int) A (A.length : Int) (0 : Int)) (impl_maskOk_u3_1_1 mask (0 : Int) A (A.length : Int) (0 : Int))) == (0 : Int)) else false)
theorem impl_maskOk_l (A : List (List TC)) (mask : Int) : (impl_maskOk_c A mask) = true → (impl_maskOk_t A mask).val = some (impl_maskOk_v A mask) := by
  unfold impl_maskOk_t impl_maskOk_v impl_maskOk_c
  exact fun h => (Tr.gb h fun h => (Tr.ss h (fun h => rfl) (fun h => rfl)))
noncomputable def impl_maskOk_S : List Arg → Option (Bool × Res) := fun xs => match xs with
  | [(false, [(.slice 80, TC.l A)]), (false, [(.int .i64, TC.i mask)])] => some ((impl_maskOk_c A mask), impl_maskOk_mk (impl_maskOk_v A mask))
  | _ => .none
theorem impl_maskOk_e (A : List (List TC)) (mask : Int) : runF tab FT D15 live 61 impl_maskOk_lo [(false, [(.slice 80, TC.l A)]), (false, [(.int .i64, TC.i mask)])] = (impl_maskOk_t A mask).run fun p => some (impl_maskOk_mk p) := by kernel_rfl
theorem impl_maskOk_s : ∀ xs r, impl_maskOk_S xs = some (true, r) → runF tab FT D15 live 61 impl_maskOk_lo xs = some r := by
  intro xs r h
  unfold impl_maskOk_S at h
  split at h
  · simp only [Option.some.injEq, Prod.mk.injEq] at h
    obtain ⟨h1, rfl⟩ := h
    exact fun_told (impl_maskOk_e _ _) (impl_maskOk_l _ _) h1
  · cases h
noncomputable def D16 : Dt := also D15 61 impl_maskOk_S
theorem d16 : DOk Go.Proofs.Try.prog tab D16 := d15.also mixed_ok tab_ok names_ok (fnLoops_one (by kernel_rfl) impl_maskOk_is3) impl_maskOk_s
theorem impl_maskOk_cc {A : List (List TC)} {mask : Int} (hA : Typed tab (.slice 80) (.l A)) : (impl_maskOk_c A mask) = true := by
  unfold impl_maskOk_c
  refine andT (by exact is_true ⟨rfl, hA, rfl⟩) ?_
  refine bifT (fun b1 => ?_) (fun b1 => ?_)
  · skip
    rfl
  · skip
    rfl
theorem impl_maskOk_vv (A : List (List TC)) (mask : Int) : impl_maskOk_v A mask = implM A.length (optB A) mask := by
  unfold impl_maskOk_v implM
  rw [impl_maskOk_u0, impl_maskOk_u1]
/-! impl_ValidMask -/
noncomputable def impl_ValidMask_t (A : List (List TC)) (mask : Int) : Tr (Bool) := (.ite ((impl_ValidPipeline_c A) = true) (.ite ((impl_ValidPipeline_v A) = true) (.ite ((impl_maskOk_c A mask) = true) (.ok (impl_maskOk_v A mask))
    .no)
   (.ok false))
  .no)
def impl_ValidMask_mk (p : Bool) : Res := [(false, [⟨.bool, .sh, TC.b p⟩])]
noncomputable def impl_ValidMask_c (A : List (List TC)) (mask : Int) : Bool := is (((impl_ValidPipeline_c A) = true) ∧ ((impl_maskOk_c A mask) = true))
noncomputable def impl_ValidMask_v (A : List (List TC)) (mask : Int) : Bool := (bif (impl_ValidPipeline_v A) then (impl_maskOk_v A mask) else false)
theorem impl_ValidMask_l (A : List (List TC)) (mask : Int) : (impl_ValidMask_c A mask) = true → (impl_ValidMask_t A mask).val = some (impl_ValidMask_v A mask) := by
  intro h
  obtain ⟨g0, g1⟩ := is_iff.1 h
  unfold impl_ValidMask_t impl_ValidMask_v
  exact (Tr.t g0 (Tr.s (Tr.t g1 rfl) rfl))
noncomputable def impl_ValidMask_S : List Arg → Option (Bool × Res) := fun xs => match xs with
  | [(false, [(.slice 80, TC.l A)]), (false, [(.int .i64, TC.i mask)])] => some ((impl_ValidMask_c A mask), impl_ValidMask_mk (impl_ValidMask_v A mask))
  | _ => .none
theorem impl_ValidMask_e (A : List (List TC)) (mask : Int) : runF tab FT D16 live 23 noLoops [(false, [(.slice 80, TC.l A)]), (false, [(.int .i64, TC.i mask)])] = (impl_ValidMask_t A mask).run fun p => some (impl_ValidMask_mk p) := by kernel_rfl
theorem impl_ValidMask_s : ∀ xs r, impl_ValidMask_S xs = some (true, r) → runF tab FT D16 live 23 noLoops xs = some r := by
  intro xs r h
  unfold impl_ValidMask_S at h
  split at h
  · simp only [Option.some.injEq, Prod.mk.injEq] at h
    obtain ⟨h1, rfl⟩ := h
    exact fun_told (impl_ValidMask_e _ _) (impl_ValidMask_l _ _) h1
  · cases h
noncomputable def D17 : Dt := also D16 23 impl_ValidMask_S
theorem d17 : DOk Go.Proofs.Try.prog tab D17 := d16.also mixed_ok tab_ok names_ok noLoops_ok impl_ValidMask_s
theorem impl_ValidMask_vv (A : List (List TC)) (mask : Int) : impl_ValidMask_v A mask = maskV A mask := by
  unfold impl_ValidMask_v maskV
  rw [show impl_ValidPipeline_v A = (A.all okFilR && decide ((A.length : Int) ≤ 4)) from rfl, impl_maskOk_vv]
/-! laws_eqFilter -/
noncomputable def laws_eqFilter_t (x0 : Int) (x1 : Int) (x2 : Bool) (y0 : Int) (y1 : Int) (y2 : Bool) : Tr (Bool) := (.ite ((!(x0 == y0)) = true) (.ok false)
  (.ite ((!(x1 == y1)) = true) (.ok false)
   (.ite ((!(x2 == y2)) = true) (.ok false)
    (.ok true))))
def laws_eqFilter_mk (p : Bool) : Res := [(false, [⟨.bool, .sh, TC.b p⟩])]
noncomputable def laws_eqFilter_c (x0 : Int) (x1 : Int) (x2 : Bool) (y0 : Int) (y1 : Int) (y2 : Bool) : Bool := is (x0 = y0 ∧ x1 = y1 ∧ x2 = y2)
noncomputable def laws_eqFilter_v (x0 : Int) (x1 : Int) (x2 : Bool) (y0 : Int) (y1 : Int) (y2 : Bool) : Bool := true
theorem laws_eqFilter_l (x0 : Int) (x1 : Int) (x2 : Bool) (y0 : Int) (y1 : Int) (y2 : Bool) : (laws_eqFilter_c x0 x1 x2 y0 y1 y2) = true → (laws_eqFilter_t x0 x1 x2 y0 y1 y2).val = some (laws_eqFilter_v x0 x1 x2 y0 y1 y2) := by
  intro h
  obtain ⟨rfl, rfl, rfl⟩ := is_iff.1 h
  unfold laws_eqFilter_t
  refine Tr.n (by simp) ?_
  refine Tr.n (by simp) ?_
  refine Tr.n (by simp) ?_
  rfl
noncomputable def laws_eqFilter_S : List Arg → Option (Bool × Res) := fun xs => match xs with
  | [(true, [(.int .i64, TC.i x0), (.int .i64, TC.i x1), (.bool, TC.b x2)]), (true, [(.int .i64, TC.i y0), (.int .i64, TC.i y1), (.bool, TC.b y2)])] => some ((laws_eqFilter_c x0 x1 x2 y0 y1 y2), laws_eqFilter_mk (laws_eqFilter_v x0 x1 x2 y0 y1 y2))
  | _ => .none
theorem laws_eqFilter_e (x0 : Int) (x1 : Int) (x2 : Bool) (y0 : Int) (y1 : Int) (y2 : Bool) : runF tab FT D17 live 62 noLoops [(true, [(.int .i64, TC.i x0), (.int .i64, TC.i x1), (.bool, TC.b x2)]), (true, [(.int .i64, TC.i y0), (.int .i64, TC.i y1), (.bool, TC.b y2)])] = (laws_eqFilter_t x0 x1 x2 y0 y1 y2).run fun p => some (laws_eqFilter_mk p) := by kernel_rfl
theorem laws_eqFilter_s : ∀ xs r, laws_eqFilter_S xs = some (true, r) → runF tab FT D17 live 62 noLoops xs = some r := by
  intro xs r h
  unfold laws_eqFilter_S at h
  split at h
  · simp only [Option.some.injEq, Prod.mk.injEq] at h
    obtain ⟨h1, rfl⟩ := h
    exact fun_told (laws_eqFilter_e _ _ _ _ _ _) (laws_eqFilter_l _ _ _ _ _ _) h1
  · cases h
noncomputable def D18 : Dt := also D17 62 laws_eqFilter_S
theorem d18 : DOk Go.Proofs.Try.prog tab D18 := d17.also mixed_ok tab_ok names_ok noLoops_ok laws_eqFilter_s
/-! laws_eqFilterS -/
abbrev laws_eqFilterS_4_σ := List (List TC) × List (List TC) × Int
abbrev laws_eqFilterS_4_ω := (Unit) ⊕ (Unit)
noncomputable def laws_eqFilterS_4_step (A : List (List TC)) (C : List (List TC)) (i : Int) : Tr (laws_eqFilterS_4_σ ⊕ laws_eqFilterS_4_ω) := (.ite ((decide (i < (A.length : Int))) = true) (.ite ((0 : Int) ≤ i ∧ i < (A.length : Int)) (.ite ((0 : Int) ≤ i ∧ i < (C.length : Int)) (.ite ((laws_eqFilter_c ((nth (row A i) 0).int) ((nth (row A i) 1).int) ((nth (row A i) 2).bool) ((nth (row C i) 0).int) ((nth (row C i) 1).int) ((nth (row C i) 2).bool)) = true) (.ite ((!(laws_eqFilter_v ((nth (row A i) 0).int) ((nth (row A i) 1).int) ((nth (row A i) 2).bool) ((nth (row C i) 0).int) ((nth (row C i) 1).int) ((nth (row C i) 2).bool))) = true) (.ok (.inr (.inl ())))
      (.ok (.inl (A, C, (IntKind.wrap .i64 (i + (1 : Int)))))))
     .no)
    .no)
   .no)
  (.ok (.inr (.inr ()))))
noncomputable def laws_eqFilterS_4_st : laws_eqFilterS_4_σ → Tr (laws_eqFilterS_4_σ ⊕ laws_eqFilterS_4_ω) := fun x => (laws_eqFilterS_4_step (x.1) (x.2.1) (x.2.2))
noncomputable def laws_eqFilterS_o4_1 (A : List (List TC)) (C : List (List TC)) (i : Int) : Bool := is (A = C ∧ i = 0 ∧ Typed tab (.slice 80) (.l A))
noncomputable def laws_eqFilterS_4_fin (A : List (List TC)) (C : List (List TC)) (i : Int) : Told laws_eqFilterS_4_ω := (.leaf (laws_eqFilterS_o4_1 A C i) (.inr ()))
def laws_eqFilterS_4_sl (x : laws_eqFilterS_4_σ) : List Slot := [⟨.val false [⟨.slice 80, .sh, TC.l (x.1)⟩], ⟨0, 0⟩⟩, ⟨.val false [⟨.slice 80, .sh, TC.l (x.2.1)⟩], ⟨0, 0⟩⟩, ⟨.val false [⟨.int .i64, .sh, TC.i (x.2.2)⟩], ⟨0, 0⟩⟩]
def laws_eqFilterS_4_out : laws_eqFilterS_4_ω → Ex × List Slot := (Sum.elim (fun x => (.ret, [⟨.val false [⟨.bool, .sh, TC.b false⟩], ⟨0, 0⟩⟩])) (fun x => (.exit 0, [Slot.none])))
noncomputable def laws_eqFilterS_lo4 : List Slot → Option (Told (Ex × List Slot)) := fun s => match s with
  | [⟨.val false [⟨.slice 80, .sh, TC.l A⟩], ⟨0, 0⟩⟩, ⟨.val false [⟨.slice 80, .sh, TC.l C⟩], ⟨0, 0⟩⟩, ⟨.val false [⟨.int .i64, .sh, TC.i i⟩], ⟨0, 0⟩⟩] => some (((laws_eqFilterS_4_fin A C i)).map laws_eqFilterS_4_out)
  | _ => .none
noncomputable def laws_eqFilterS_lo : LoopTeller := fun r s => bif Nat.beq r 4 then laws_eqFilterS_lo4 s else .none
theorem laws_eqFilterS_4_r (A : List (List TC)) (C : List (List TC)) (i : Int) (fuel : Nat) : rounds (rnd tab FT D18 live 24 laws_eqFilterS_lo 0 4) leave (fuel + 1) (laws_eqFilterS_4_sl (A, C, i)) = ((laws_eqFilterS_4_step A C i)).run (goOn (fun s => rounds (rnd tab FT D18 live 24 laws_eqFilterS_lo 0 4) leave fuel (laws_eqFilterS_4_sl s)) fun w => some (laws_eqFilterS_4_out w)) := by kernel_rfl
theorem laws_eqFilterS_4_h (A : List (List TC)) (C : List (List TC)) (i : Int) (ow : laws_eqFilterS_4_ω) : ((laws_eqFilterS_4_fin A C i)).val = some ow → ∃ fuel, loopN laws_eqFilterS_4_st fuel (A, C, i) = some ow := by
  intro h
  simp only [laws_eqFilterS_4_fin, Told.val] at h
  split at h
  · rename_i ho
    obtain ⟨rfl, rfl, ht⟩ := is_iff.1 ho
    cases h
    have hlen : A.length ≤ 140737488351232 := by have := typed_room ht; simp only [show (tab 80).bytes = 24 from rfl] at this; omega
    refine ⟨_, loopN_run (N := A.length) (fun i => (A, A, (i : Int))) (fun i hi => ?_) ?_ A.length 0 (by omega)⟩
    · skip
      show (laws_eqFilterS_4_step A A (i : Int)).val = _
      unfold laws_eqFilterS_4_step
      refine Tr.t (by simp; omega) ?_
      refine Tr.t (by constructor <;> omega) ?_
      refine Tr.t (by constructor <;> omega) ?_
      refine Tr.t (by first | (apply is_true; and_intros <;> (first | rfl | assumption | (apply spec_l19Mask_cc <;> assumption) | (apply impl_maskOk_cc <;> assumption) | (first | (apply is_true; and_intros <;> (first | rfl | assumption | (apply spec_l19Mask_cc <;> assumption) | (apply impl_maskOk_cc <;> assumption) | (first | (apply is_true; and_intros <;> (first | rfl | assumption | (apply spec_l19Mask_cc <;> assumption) | (apply impl_maskOk_cc <;> assumption) | (first | (apply is_true; and_intros <;> (first | rfl | assumption | (apply spec_l19Mask_cc <;> assumption) | (apply impl_maskOk_cc <;> assumption))) | (apply spec_l19Mask_cc <;> assumption) | (apply impl_maskOk_cc <;> assumption)))) | (apply spec_l19Mask_cc <;> assumption) | (apply impl_maskOk_cc <;> assumption)))) | (apply spec_l19Mask_cc <;> assumption) | (apply impl_maskOk_cc <;> assumption)))) | (apply spec_l19Mask_cc <;> assumption) | (apply impl_maskOk_cc <;> assumption)) ?_
      refine Tr.n (by simp [laws_eqFilter_v]) ?_
      rw [Tr.val_ok, wrap64 (i := (i : Int) + 1) (by omega) (by omega)]; rfl
    · show (laws_eqFilterS_4_step A A (A.length : Int)).val = _
      refine Tr.n (by simp) ?_
      rfl
  · cases h
theorem laws_eqFilterS_is4 : LoopIs tab FT D18 live 24 laws_eqFilterS_lo 0 4 := by
  refine loop_told (sl := laws_eqFilterS_4_sl) (step := laws_eqFilterS_4_st) (out := laws_eqFilterS_4_out) (lor := laws_eqFilterS_lo4) (fin := fun x => (laws_eqFilterS_4_fin (x.1) (x.2.1) (x.2.2))) (fun _ => rfl) ?_ (fun x n => laws_eqFilterS_4_r x.1 x.2.1 x.2.2 n) (fun x ow => laws_eqFilterS_4_h x.1 x.2.1 x.2.2 ow)
  intro s t h
  unfold laws_eqFilterS_lo4 at h
  split at h
  · cases h; exact ⟨(_, _, _), rfl, rfl⟩
  · cases h
noncomputable def laws_eqFilterS_t (A : List (List TC)) (C : List (List TC)) : Tr (Bool) := (.ite ((!((A.length : Int) == (C.length : Int))) = true) (.ok false)
  (.ite ((laws_eqFilterS_o4_1 A C (0 : Int)) = true) (.ok true)
   .no))
def laws_eqFilterS_mk (p : Bool) : Res := [(false, [⟨.bool, .sh, TC.b p⟩])]
noncomputable def laws_eqFilterS_c (A : List (List TC)) (C : List (List TC)) : Bool := is (A = C ∧ Typed tab (.slice 80) (.l A))
noncomputable def laws_eqFilterS_v (A : List (List TC)) (C : List (List TC)) : Bool := true
theorem laws_eqFilterS_l (A : List (List TC)) (C : List (List TC)) : (laws_eqFilterS_c A C) = true → (laws_eqFilterS_t A C).val = some (laws_eqFilterS_v A C) := by
  intro h
  obtain ⟨rfl, ht⟩ := is_iff.1 h
  unfold laws_eqFilterS_t
  refine Tr.n (by simp) ?_
  refine Tr.t (by first | (apply is_true; and_intros <;> (first | rfl | assumption | (apply spec_l19Mask_cc <;> assumption) | (apply impl_maskOk_cc <;> assumption) | (first | (apply is_true; and_intros <;> (first | rfl | assumption | (apply spec_l19Mask_cc <;> assumption) | (apply impl_maskOk_cc <;> assumption) | (first | (apply is_true; and_intros <;> (first | rfl | assumption | (apply spec_l19Mask_cc <;> assumption) | (apply impl_maskOk_cc <;> assumption) | (first | (apply is_true; and_intros <;> (first | rfl | assumption | (apply spec_l19Mask_cc <;> assumption) | (apply impl_maskOk_cc <;> assumption))) | (apply spec_l19Mask_cc <;> assumption) | (apply impl_maskOk_cc <;> assumption)))) | (apply spec_l19Mask_cc <;> assumption) | (apply impl_maskOk_cc <;> assumption)))) | (apply spec_l19Mask_cc <;> assumption) | (apply impl_maskOk_cc <;> assumption)))) | (apply spec_l19Mask_cc <;> assumption) | (apply impl_maskOk_cc <;> assumption)) ?_
  rfl
noncomputable def laws_eqFilterS_S : List Arg → Option (Bool × Res) := fun xs => match xs with
  | [(false, [(.slice 80, TC.l A)]), (false, [(.slice 80, TC.l C)])] => some ((laws_eqFilterS_c A C), laws_eqFilterS_mk (laws_eqFilterS_v A C))
  | _ => .none
theorem laws_eqFilterS_e (A : List (List TC)) (C : List (List TC)) : runF tab FT D18 live 24 laws_eqFilterS_lo [(false, [(.slice 80, TC.l A)]), (false, [(.slice 80, TC.l C)])] = (laws_eqFilterS_t A C).run fun p => some (laws_eqFilterS_mk p) := by kernel_rfl
theorem laws_eqFilterS_s : ∀ xs r, laws_eqFilterS_S xs = some (true, r) → runF tab FT D18 live 24 laws_eqFilterS_lo xs = some r := by
  intro xs r h
  unfold laws_eqFilterS_S at h
  split at h
  · simp only [Option.some.injEq, Prod.mk.injEq] at h
    obtain ⟨h1, rfl⟩ := h
    exact fun_told (laws_eqFilterS_e _ _) (laws_eqFilterS_l _ _) h1
  · cases h
noncomputable def D19 : Dt := also D18 24 laws_eqFilterS_S
theorem d19 : DOk Go.Proofs.Try.prog tab D19 := d18.also mixed_ok tab_ok names_ok (fnLoops_one (by kernel_rfl) laws_eqFilterS_is4) laws_eqFilterS_s
/-! the law -/
noncomputable def laws_FnExactValidMask_t (x0 : List (List TC)) (x1 : Int) : Tr Bool := (.ite ((decide ((laws_szFilterS_v x0 (1048576 : Int)) < (0 : Int))) = true) (.ok true)
  (.ite ((laws_toFilterS_c x0) = true) (.ite ((spec_ValidMask_c (laws_toFilterS_v x0) x1) = true) (.ite ((laws_toFilterS_c x0) = true) (.ite ((impl_ValidMask_c (laws_toFilterS_v x0) x1) = true) (.ite ((!((impl_ValidMask_v (laws_toFilterS_v x0) x1) == (spec_ValidMask_v (laws_toFilterS_v x0) x1))) = true) (.ok false)
       (.ite ((laws_toFilterS_c x0) = true) (.ite ((laws_eqFilterS_c (laws_toFilterS_v x0) (laws_toFilterS_v x0)) = true) (.ite ((!(laws_eqFilterS_v (laws_toFilterS_v x0) (laws_toFilterS_v x0))) = true) (.ok false)
          (.ok true))
         .no)
        .no))
      .no)
     .no)
    .no)
   .no))
theorem laws_FnExactValidMask_e (x0 : List (List TC)) (x1 : Int) : runF tab FT D19 live 4 noLoops [(false, [(.slice 82, TC.l x0)]), (false, [(.int .i64, TC.i x1)])] = (laws_FnExactValidMask_t x0 x1).run fun p => some [(false, [⟨.bool, .sh, .b p⟩])] := by kernel_rfl
theorem laws_FnExactValidMask_p (x0 : List (List TC)) (x1 : Int) (h0 : Typed tab (.slice 82) (.l x0)) (h1 : Typed tab (.int .i64) (.i x1)) : (laws_FnExactValidMask_t x0 x1).val = some true := by
  have t0_80 := laws_toFilterS_ty h0
  have hm : x1 < 9223372036854775808 := by have := typed_i64 h1; omega
  unfold laws_FnExactValidMask_t
  refine Tr.y ?_
  refine Tr.t (by first | exact (by first | (apply is_true; and_intros <;> (first | rfl | assumption | (apply spec_l19Mask_cc <;> assumption) | (apply impl_maskOk_cc <;> assumption) | (first | (apply is_true; and_intros <;> (first | rfl | assumption | (apply spec_l19Mask_cc <;> assumption) | (apply impl_maskOk_cc <;> assumption) | (first | (apply is_true; and_intros <;> (first | rfl | assumption | (apply spec_l19Mask_cc <;> assumption) | (apply impl_maskOk_cc <;> assumption) | (first | (apply is_true; and_intros <;> (first | rfl | assumption | (apply spec_l19Mask_cc <;> assumption) | (apply impl_maskOk_cc <;> assumption))) | (apply spec_l19Mask_cc <;> assumption) | (apply impl_maskOk_cc <;> assumption)))) | (apply spec_l19Mask_cc <;> assumption) | (apply impl_maskOk_cc <;> assumption)))) | (apply spec_l19Mask_cc <;> assumption) | (apply impl_maskOk_cc <;> assumption)))) | (apply spec_l19Mask_cc <;> assumption) | (apply impl_maskOk_cc <;> assumption)) | simp [*]) ?_
  refine Tr.t (by first | exact (by first | (apply is_true; and_intros <;> (first | rfl | assumption | (apply spec_l19Mask_cc <;> assumption) | (apply impl_maskOk_cc <;> assumption) | (first | (apply is_true; and_intros <;> (first | rfl | assumption | (apply spec_l19Mask_cc <;> assumption) | (apply impl_maskOk_cc <;> assumption) | (first | (apply is_true; and_intros <;> (first | rfl | assumption | (apply spec_l19Mask_cc <;> assumption) | (apply impl_maskOk_cc <;> assumption) | (first | (apply is_true; and_intros <;> (first | rfl | assumption | (apply spec_l19Mask_cc <;> assumption) | (apply impl_maskOk_cc <;> assumption))) | (apply spec_l19Mask_cc <;> assumption) | (apply impl_maskOk_cc <;> assumption)))) | (apply spec_l19Mask_cc <;> assumption) | (apply impl_maskOk_cc <;> assumption)))) | (apply spec_l19Mask_cc <;> assumption) | (apply impl_maskOk_cc <;> assumption)))) | (apply spec_l19Mask_cc <;> assumption) | (apply impl_maskOk_cc <;> assumption)) | simp [*]) ?_
  refine Tr.t (by first | exact (by first | (apply is_true; and_intros <;> (first | rfl | assumption | (apply spec_l19Mask_cc <;> assumption) | (apply impl_maskOk_cc <;> assumption) | (first | (apply is_true; and_intros <;> (first | rfl | assumption | (apply spec_l19Mask_cc <;> assumption) | (apply impl_maskOk_cc <;> assumption) | (first | (apply is_true; and_intros <;> (first | rfl | assumption | (apply spec_l19Mask_cc <;> assumption) | (apply impl_maskOk_cc <;> assumption) | (first | (apply is_true; and_intros <;> (first | rfl | assumption | (apply spec_l19Mask_cc <;> assumption) | (apply impl_maskOk_cc <;> assumption))) | (apply spec_l19Mask_cc <;> assumption) | (apply impl_maskOk_cc <;> assumption)))) | (apply spec_l19Mask_cc <;> assumption) | (apply impl_maskOk_cc <;> assumption)))) | (apply spec_l19Mask_cc <;> assumption) | (apply impl_maskOk_cc <;> assumption)))) | (apply spec_l19Mask_cc <;> assumption) | (apply impl_maskOk_cc <;> assumption)) | simp [*]) ?_
  refine Tr.t (by first | exact (by first | (apply is_true; and_intros <;> (first | rfl | assumption | (apply spec_l19Mask_cc <;> assumption) | (apply impl_maskOk_cc <;> assumption) | (first | (apply is_true; and_intros <;> (first | rfl | assumption | (apply spec_l19Mask_cc <;> assumption) | (apply impl_maskOk_cc <;> assumption) | (first | (apply is_true; and_intros <;> (first | rfl | assumption | (apply spec_l19Mask_cc <;> assumption) | (apply impl_maskOk_cc <;> assumption) | (first | (apply is_true; and_intros <;> (first | rfl | assumption | (apply spec_l19Mask_cc <;> assumption) | (apply impl_maskOk_cc <;> assumption))) | (apply spec_l19Mask_cc <;> assumption) | (apply impl_maskOk_cc <;> assumption)))) | (apply spec_l19Mask_cc <;> assumption) | (apply impl_maskOk_cc <;> assumption)))) | (apply spec_l19Mask_cc <;> assumption) | (apply impl_maskOk_cc <;> assumption)))) | (apply spec_l19Mask_cc <;> assumption) | (apply impl_maskOk_cc <;> assumption)) | simp [*]) ?_
  refine Tr.n (by first | (simp [laws_szFilterS_v, laws_toFilter_v, laws_toFilterS_u3_1, laws_toFilterS_v, spec_l00In_v, spec_l18Ok_v, spec_l19Ok_k2_1, spec_l19Ok_v, spec_l19Mask_k4_1, spec_l19Mask_vv, spec_ValidMask_v, impl_within_v, impl_isWidth_v, impl_ValidFilter_v, impl_ValidPipeline_1_v, slices_IndexFunc_impl_Filter_impl_Filter_k2_1, slices_IndexFunc_impl_Filter_impl_Filter_u2_3, slices_IndexFunc_impl_Filter_impl_Filter_v, slices_ContainsFunc_impl_Filter_impl_Filter_v, impl_ValidPipeline_v, impl_maskOk_u3_1_0, impl_maskOk_u3_1_1, impl_maskOk_vv, impl_ValidMask_vv, laws_eqFilter_v, laws_eqFilterS_v, hm]; done) | (simp only [laws_szFilterS_v, laws_toFilter_v, laws_toFilterS_u3_1, laws_toFilterS_v, spec_l00In_v, spec_l18Ok_v, spec_l19Ok_k2_1, spec_l19Ok_v, spec_l19Mask_k4_1, spec_l19Mask_vv, spec_ValidMask_v, impl_within_v, impl_isWidth_v, impl_ValidFilter_v, impl_ValidPipeline_1_v, slices_IndexFunc_impl_Filter_impl_Filter_k2_1, slices_IndexFunc_impl_Filter_impl_Filter_u2_3, slices_IndexFunc_impl_Filter_impl_Filter_v, slices_ContainsFunc_impl_Filter_impl_Filter_v, impl_ValidPipeline_v, impl_maskOk_u3_1_0, impl_maskOk_u3_1_1, impl_maskOk_vv, impl_ValidMask_vv, laws_eqFilter_v, laws_eqFilterS_v, hm, nth0, nth1, nth2, nth3, nth4, nth5, int_i, bool_b, str_s, list_l, cells_p, Bool.not_eq_true, bne_self_eq_false, beq_self_eq_true, Bool.not_true]; done) | (simp [laws_szFilterS_v, laws_toFilter_v, laws_toFilterS_u3_1, laws_toFilterS_v, spec_l00In_v, spec_l18Ok_v, spec_l19Ok_k2_1, spec_l19Ok_v, spec_l19Mask_k4_1, spec_l19Mask_vv, spec_ValidMask_v, impl_within_v, impl_isWidth_v, impl_ValidFilter_v, impl_ValidPipeline_1_v, slices_IndexFunc_impl_Filter_impl_Filter_k2_1, slices_IndexFunc_impl_Filter_impl_Filter_u2_3, slices_IndexFunc_impl_Filter_impl_Filter_v, slices_ContainsFunc_impl_Filter_impl_Filter_v, impl_ValidPipeline_v, impl_maskOk_u3_1_0, impl_maskOk_u3_1_1, impl_maskOk_vv, impl_ValidMask_vv, laws_eqFilter_v, laws_eqFilterS_v, hm, nth0, nth1, nth2, nth3, nth4, nth5, int_i, bool_b, str_s, list_l, cells_p]; done) | (simp [laws_szFilterS_v, laws_toFilter_v, laws_toFilterS_u3_1, laws_toFilterS_v, spec_l00In_v, spec_l18Ok_v, spec_l19Ok_k2_1, spec_l19Ok_v, spec_l19Mask_k4_1, spec_l19Mask_vv, spec_ValidMask_v, impl_within_v, impl_isWidth_v, impl_ValidFilter_v, impl_ValidPipeline_1_v, slices_IndexFunc_impl_Filter_impl_Filter_k2_1, slices_IndexFunc_impl_Filter_impl_Filter_u2_3, slices_IndexFunc_impl_Filter_impl_Filter_v, slices_ContainsFunc_impl_Filter_impl_Filter_v, impl_ValidPipeline_v, impl_maskOk_u3_1_0, impl_maskOk_u3_1_1, impl_maskOk_vv, impl_ValidMask_vv, laws_eqFilter_v, laws_eqFilterS_v, hm, nth0, nth1, nth2, nth3, nth4, nth5, int_i, bool_b, str_s, list_l, cells_p] <;> rfl)) ?_
  refine Tr.t (by first | exact (by first | (apply is_true; and_intros <;> (first | rfl | assumption | (apply spec_l19Mask_cc <;> assumption) | (apply impl_maskOk_cc <;> assumption) | (first | (apply is_true; and_intros <;> (first | rfl | assumption | (apply spec_l19Mask_cc <;> assumption) | (apply impl_maskOk_cc <;> assumption) | (first | (apply is_true; and_intros <;> (first | rfl | assumption | (apply spec_l19Mask_cc <;> assumption) | (apply impl_maskOk_cc <;> assumption) | (first | (apply is_true; and_intros <;> (first | rfl | assumption | (apply spec_l19Mask_cc <;> assumption) | (apply impl_maskOk_cc <;> assumption))) | (apply spec_l19Mask_cc <;> assumption) | (apply impl_maskOk_cc <;> assumption)))) | (apply spec_l19Mask_cc <;> assumption) | (apply impl_maskOk_cc <;> assumption)))) | (apply spec_l19Mask_cc <;> assumption) | (apply impl_maskOk_cc <;> assumption)))) | (apply spec_l19Mask_cc <;> assumption) | (apply impl_maskOk_cc <;> assumption)) | simp [*]) ?_
  refine Tr.t (by first | exact (by first | (apply is_true; and_intros <;> (first | rfl | assumption | (apply spec_l19Mask_cc <;> assumption) | (apply impl_maskOk_cc <;> assumption) | (first | (apply is_true; and_intros <;> (first | rfl | assumption | (apply spec_l19Mask_cc <;> assumption) | (apply impl_maskOk_cc <;> assumption) | (first | (apply is_true; and_intros <;> (first | rfl | assumption | (apply spec_l19Mask_cc <;> assumption) | (apply impl_maskOk_cc <;> assumption) | (first | (apply is_true; and_intros <;> (first | rfl | assumption | (apply spec_l19Mask_cc <;> assumption) | (apply impl_maskOk_cc <;> assumption))) | (apply spec_l19Mask_cc <;> assumption) | (apply impl_maskOk_cc <;> assumption)))) | (apply spec_l19Mask_cc <;> assumption) | (apply impl_maskOk_cc <;> assumption)))) | (apply spec_l19Mask_cc <;> assumption) | (apply impl_maskOk_cc <;> assumption)))) | (apply spec_l19Mask_cc <;> assumption) | (apply impl_maskOk_cc <;> assumption)) | simp [*]) ?_
  refine Tr.n (by first | (simp [laws_szFilterS_v, laws_toFilter_v, laws_toFilterS_u3_1, laws_toFilterS_v, spec_l00In_v, spec_l18Ok_v, spec_l19Ok_k2_1, spec_l19Ok_v, spec_l19Mask_k4_1, spec_l19Mask_vv, spec_ValidMask_v, impl_within_v, impl_isWidth_v, impl_ValidFilter_v, impl_ValidPipeline_1_v, slices_IndexFunc_impl_Filter_impl_Filter_k2_1, slices_IndexFunc_impl_Filter_impl_Filter_u2_3, slices_IndexFunc_impl_Filter_impl_Filter_v, slices_ContainsFunc_impl_Filter_impl_Filter_v, impl_ValidPipeline_v, impl_maskOk_u3_1_0, impl_maskOk_u3_1_1, impl_maskOk_vv, impl_ValidMask_vv, laws_eqFilter_v, laws_eqFilterS_v, hm]; done) | (simp only [laws_szFilterS_v, laws_toFilter_v, laws_toFilterS_u3_1, laws_toFilterS_v, spec_l00In_v, spec_l18Ok_v, spec_l19Ok_k2_1, spec_l19Ok_v, spec_l19Mask_k4_1, spec_l19Mask_vv, spec_ValidMask_v, impl_within_v, impl_isWidth_v, impl_ValidFilter_v, impl_ValidPipeline_1_v, slices_IndexFunc_impl_Filter_impl_Filter_k2_1, slices_IndexFunc_impl_Filter_impl_Filter_u2_3, slices_IndexFunc_impl_Filter_impl_Filter_v, slices_ContainsFunc_impl_Filter_impl_Filter_v, impl_ValidPipeline_v, impl_maskOk_u3_1_0, impl_maskOk_u3_1_1, impl_maskOk_vv, impl_ValidMask_vv, laws_eqFilter_v, laws_eqFilterS_v, hm, nth0, nth1, nth2, nth3, nth4, nth5, int_i, bool_b, str_s, list_l, cells_p, Bool.not_eq_true, bne_self_eq_false, beq_self_eq_true, Bool.not_true]; done) | (simp [laws_szFilterS_v, laws_toFilter_v, laws_toFilterS_u3_1, laws_toFilterS_v, spec_l00In_v, spec_l18Ok_v, spec_l19Ok_k2_1, spec_l19Ok_v, spec_l19Mask_k4_1, spec_l19Mask_vv, spec_ValidMask_v, impl_within_v, impl_isWidth_v, impl_ValidFilter_v, impl_ValidPipeline_1_v, slices_IndexFunc_impl_Filter_impl_Filter_k2_1, slices_IndexFunc_impl_Filter_impl_Filter_u2_3, slices_IndexFunc_impl_Filter_impl_Filter_v, slices_ContainsFunc_impl_Filter_impl_Filter_v, impl_ValidPipeline_v, impl_maskOk_u3_1_0, impl_maskOk_u3_1_1, impl_maskOk_vv, impl_ValidMask_vv, laws_eqFilter_v, laws_eqFilterS_v, hm, nth0, nth1, nth2, nth3, nth4, nth5, int_i, bool_b, str_s, list_l, cells_p]; done) | (simp [laws_szFilterS_v, laws_toFilter_v, laws_toFilterS_u3_1, laws_toFilterS_v, spec_l00In_v, spec_l18Ok_v, spec_l19Ok_k2_1, spec_l19Ok_v, spec_l19Mask_k4_1, spec_l19Mask_vv, spec_ValidMask_v, impl_within_v, impl_isWidth_v, impl_ValidFilter_v, impl_ValidPipeline_1_v, slices_IndexFunc_impl_Filter_impl_Filter_k2_1, slices_IndexFunc_impl_Filter_impl_Filter_u2_3, slices_IndexFunc_impl_Filter_impl_Filter_v, slices_ContainsFunc_impl_Filter_impl_Filter_v, impl_ValidPipeline_v, impl_maskOk_u3_1_0, impl_maskOk_u3_1_1, impl_maskOk_vv, impl_ValidMask_vv, laws_eqFilter_v, laws_eqFilterS_v, hm, nth0, nth1, nth2, nth3, nth4, nth5, int_i, bool_b, str_s, list_l, cells_p] <;> rfl)) ?_
  rfl
theorem laws_FnExactValidMask_pure : ∀ xs, ArgsTyped tab [30, 2] xs → runF tab FT D19 live 4 noLoops xs = yes := by
  intro xs h
  cases h with | cons l0 g0 h =>
  obtain ⟨z0_0, rfl⟩ := len_1 l0
  have q0 := g0 0 (by decide)
  have q0 : Typed tab (.slice 82) z0_0 := q0
  obtain ⟨y0, rfl⟩ := typed_slice q0
  cases h with | cons l1 g1 h =>
  obtain ⟨z1_0, rfl⟩ := len_1 l1
  have q1 := g1 0 (by decide)
  have q1 : Typed tab (.int .i64) z1_0 := q1
  obtain ⟨y1, rfl⟩ := typed_int q1
  cases h
  refine (laws_FnExactValidMask_e y0 y1).trans ?_
  rw [Tr.run_eq, laws_FnExactValidMask_p y0 y1 q0 q1]
  rfl
end Go.Proofs.Ytdifjmbflnkojaa.V
