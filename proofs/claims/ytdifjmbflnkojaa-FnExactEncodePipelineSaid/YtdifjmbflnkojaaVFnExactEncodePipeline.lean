/- What the functions of FnExactEncodePipeline answer. No condition. -/
import Derived.Test.YtdifjmbflnkojaaVFacts
namespace Go.Proofs.Ytdifjmbflnkojaa.V
open Go
set_option maxRecDepth 100000
set_option linter.unusedVariables false
set_option linter.unusedSimpArgs false
/-! laws_szFilterS -/
noncomputable def laws_szFilterS_t (a0 : List (List TC)) (a1 : Int) : Tr (Int) := (.ite ((decide ((IntKind.wrap .i64 (a1 - (a0.length : Int))) < (0 : Int))) = true) (.ok (-1 : Int))
  (.ok (IntKind.wrap .i64 (a1 - (a0.length : Int)))))
def laws_szFilterS_mk (p : Int) : Res := [(false, [⟨.int .i64, .sh, TC.i p⟩])]
noncomputable def laws_szFilterS_c (a0 : List (List TC)) (a1 : Int) : Bool := true
noncomputable def laws_szFilterS_v (a0 : List (List TC)) (a1 : Int) : Int := (bif (decide ((IntKind.wrap .i64 (a1 - (a0.length : Int))) < (0 : Int))) then (-1 : Int) else (IntKind.wrap .i64 (a1 - (a0.length : Int))))
theorem laws_szFilterS_l (a0 : List (List TC)) (a1 : Int) : (laws_szFilterS_c a0 a1) = true → (laws_szFilterS_t a0 a1).val = some (laws_szFilterS_v a0 a1) := by
  intro h
  skip
  unfold laws_szFilterS_t laws_szFilterS_v
  exact (Tr.s rfl rfl)
noncomputable def laws_szFilterS_S : List Arg → Option (Bool × Res) := fun xs => match xs with
  | [(false, [(.slice 82, TC.l a0)]), (false, [(.int .i64, TC.i a1)])] => some (true, laws_szFilterS_mk (laws_szFilterS_v a0 a1))
  | _ => .none
theorem laws_szFilterS_e (a0 : List (List TC)) (a1 : Int) : runF tab FT D0 live 20 noLoops [(false, [(.slice 82, TC.l a0)]), (false, [(.int .i64, TC.i a1)])] = (laws_szFilterS_t a0 a1).run fun p => some (laws_szFilterS_mk p) := by kernel_rfl
theorem laws_szFilterS_s : ∀ xs r, laws_szFilterS_S xs = some (true, r) → runF tab FT D0 live 20 noLoops xs = some r := by
  intro xs r h
  unfold laws_szFilterS_S at h
  split at h
  · simp only [Option.some.injEq, Prod.mk.injEq] at h
    obtain ⟨h1, rfl⟩ := h
    exact fun_told (laws_szFilterS_e _ _) (laws_szFilterS_l _ _) rfl
  · cases h
noncomputable def D1 : Dt := also D0 20 laws_szFilterS_S
theorem d1 : DOk Go.Proofs.Try.prog tab D1 := d0.also mixed_ok tab_ok names_ok noLoops_ok laws_szFilterS_s
/-! laws_toFilter -/
noncomputable def laws_toFilter_t (a0 : Int) (a1 : Int) (a2 : Bool) : Tr (Int × Int × Bool) := .ok (a0, a1, a2)
def laws_toFilter_mk (p : Int × Int × Bool) : Res := [(true, [⟨.int .i64, .sh, TC.i (p.1)⟩, ⟨.int .i64, .sh, TC.i (p.2.1)⟩, ⟨.bool, .sh, TC.b (p.2.2)⟩])]
noncomputable def laws_toFilter_c (a0 : Int) (a1 : Int) (a2 : Bool) : Bool := true
noncomputable def laws_toFilter_v (a0 : Int) (a1 : Int) (a2 : Bool) : Int × Int × Bool := (a0, a1, a2)
theorem laws_toFilter_l (a0 : Int) (a1 : Int) (a2 : Bool) : (laws_toFilter_c a0 a1 a2) = true → (laws_toFilter_t a0 a1 a2).val = some (laws_toFilter_v a0 a1 a2) := by
  intro h
  skip
  unfold laws_toFilter_t laws_toFilter_v
  exact rfl
noncomputable def laws_toFilter_S : List Arg → Option (Bool × Res) := fun xs => match xs with
  | [(true, [(.int .i64, TC.i a0), (.int .i64, TC.i a1), (.bool, TC.b a2)])] => some (true, laws_toFilter_mk (laws_toFilter_v a0 a1 a2))
  | _ => .none
theorem laws_toFilter_e (a0 : Int) (a1 : Int) (a2 : Bool) : runF tab FT D1 live 59 noLoops [(true, [(.int .i64, TC.i a0), (.int .i64, TC.i a1), (.bool, TC.b a2)])] = (laws_toFilter_t a0 a1 a2).run fun p => some (laws_toFilter_mk p) := by kernel_rfl
theorem laws_toFilter_s : ∀ xs r, laws_toFilter_S xs = some (true, r) → runF tab FT D1 live 59 noLoops xs = some r := by
  intro xs r h
  unfold laws_toFilter_S at h
  split at h
  · simp only [Option.some.injEq, Prod.mk.injEq] at h
    obtain ⟨h1, rfl⟩ := h
    exact fun_told (laws_toFilter_e _ _ _) (laws_toFilter_l _ _ _) rfl
  · cases h
noncomputable def D2 : Dt := also D1 59 laws_toFilter_S
theorem d2 : DOk Go.Proofs.Try.prog tab D2 := d1.also mixed_ok tab_ok names_ok noLoops_ok laws_toFilter_s
/-! laws_toFilterS -/
def laws_toFilterS_g (x : List TC) : List TC := [TC.i ((nth x 0).int), TC.i ((nth x 1).int), TC.b ((nth x 2).bool)]
def laws_toFilterS_z : List TC := [TC.i (0 : Int), TC.i (0 : Int), TC.b false]
abbrev laws_toFilterS_3_σ := List (List TC) × List (List TC) × Int
abbrev laws_toFilterS_3_ω := (List (List TC))
noncomputable def laws_toFilterS_3_step (A : List (List TC)) (X : List (List TC)) (i : Int) : Tr (laws_toFilterS_3_σ ⊕ laws_toFilterS_3_ω) := (.ite ((decide (i < (A.length : Int))) = true) (.ite ((0 : Int) ≤ i ∧ i < (A.length : Int)) (.ite ((0 : Int) ≤ i ∧ i < (X.length : Int)) (.ok (.inl (A, (X.set (i).toNat (splice (row X i) 0 [TC.i ((nth (row A i) 0).int), TC.i ((nth (row A i) 1).int), TC.b ((nth (row A i) 2).bool)])), (IntKind.wrap .i64 (i + (1 : Int))))))
    .no)
   .no)
  (.ok (.inr X)))
noncomputable def laws_toFilterS_3_st : laws_toFilterS_3_σ → Tr (laws_toFilterS_3_σ ⊕ laws_toFilterS_3_ω) := fun x => (laws_toFilterS_3_step (x.1) (x.2.1) (x.2.2))
noncomputable def laws_toFilterS_o3_1 (A : List (List TC)) (X : List (List TC)) (i : Int) : Bool := is (Typed tab (.slice 82) (.l A) ∧ X = List.replicate A.length laws_toFilterS_z ∧ i = 0)
noncomputable def laws_toFilterS_u3_1 (A : List (List TC)) (X : List (List TC)) (i : Int) : List (List TC) := A.map laws_toFilterS_g
noncomputable def laws_toFilterS_3_fin (A : List (List TC)) (X : List (List TC)) (i : Int) : Told laws_toFilterS_3_ω := (.leaf (laws_toFilterS_o3_1 A X i) (laws_toFilterS_u3_1 A X i))
def laws_toFilterS_3_sl (x : laws_toFilterS_3_σ) : List Slot := [⟨.val false [⟨.slice 82, .sh, TC.l (x.1)⟩], ⟨0, 0⟩⟩, ⟨.val false [⟨.slice 80, .own true, TC.l (x.2.1)⟩], ⟨0, 0⟩⟩, ⟨.val false [⟨.int .i64, .sh, TC.i (x.2.2)⟩], ⟨0, 0⟩⟩]
def laws_toFilterS_3_out : laws_toFilterS_3_ω → Ex × List Slot := (fun x => (.exit 0, [Slot.none, ⟨.val false [⟨.slice 80, .own true, TC.l x⟩], ⟨0, 0⟩⟩]))
noncomputable def laws_toFilterS_lo3 : List Slot → Option (Told (Ex × List Slot)) := fun s => match s with
  | [⟨.val false [⟨.slice 82, .sh, TC.l A⟩], ⟨0, 0⟩⟩, ⟨.val false [⟨.slice 80, .own true, TC.l X⟩], ⟨0, 0⟩⟩, ⟨.val false [⟨.int .i64, .sh, TC.i i⟩], ⟨0, 0⟩⟩] => some (((laws_toFilterS_3_fin A X i)).map laws_toFilterS_3_out)
  | _ => .none
noncomputable def laws_toFilterS_lo : LoopTeller := fun r s => bif Nat.beq r 3 then laws_toFilterS_lo3 s else .none
theorem laws_toFilterS_3_r (A : List (List TC)) (X : List (List TC)) (i : Int) (fuel : Nat) : rounds (rnd tab FT D2 live 22 laws_toFilterS_lo 0 3) leave (fuel + 1) (laws_toFilterS_3_sl (A, X, i)) = ((laws_toFilterS_3_step A X i)).run (goOn (fun s => rounds (rnd tab FT D2 live 22 laws_toFilterS_lo 0 3) leave fuel (laws_toFilterS_3_sl s)) fun w => some (laws_toFilterS_3_out w)) := by kernel_rfl
theorem laws_toFilterS_3_h (A : List (List TC)) (X : List (List TC)) (i : Int) (ow : laws_toFilterS_3_ω) : ((laws_toFilterS_3_fin A X i)).val = some ow → ∃ fuel, loopN laws_toFilterS_3_st fuel (A, X, i) = some ow := by
  intro h
  simp only [laws_toFilterS_3_fin, Told.val] at h
  split at h
  · rename_i ho
    obtain ⟨ht, rfl, rfl⟩ := is_iff.1 ho
    cases h
    have hlen : A.length ≤ 140737488351232 := by have := typed_room ht; simp only [show (tab 82).bytes = 24 from rfl] at this; omega
    have key := loopN_copy (step := laws_toFilterS_3_st) A (List.replicate A.length laws_toFilterS_z) laws_toFilterS_g (fun Y i => (A, Y, (i : Int))) (A.map laws_toFilterS_g) (by simp) (fun x hx i _ => by rw [(List.mem_replicate.1 hx).2]; exact Nat.le_refl 3) (fun Y i hi hl => ?_) ?_ A.length 0 (by omega)
    · rw [copied_zero] at key
      exact ⟨_, key⟩
    · skip
      show (laws_toFilterS_3_step A Y (i : Int)).val = _
      unfold laws_toFilterS_3_step
      refine Tr.t (by simp; omega) ?_
      refine Tr.t (by constructor <;> omega) ?_
      refine Tr.t (by constructor <;> omega) ?_
      repeat (refine Tr.t (by first | (apply is_true; and_intros <;> (first | rfl | assumption | (first | (apply is_true; and_intros <;> (first | rfl | assumption | (first | (apply is_true; and_intros <;> (first | rfl | assumption | (first | (apply is_true; and_intros <;> (first | rfl | assumption)))))))))))) ?_)
      rw [Tr.val_ok, wrap64 (i := (i : Int) + 1) (by omega) (by omega)]; rfl
    · show (laws_toFilterS_3_step A (A.map laws_toFilterS_g) (A.length : Int)).val = _
      refine Tr.n (by simp) ?_
      rfl
  · cases h
theorem laws_toFilterS_is3 : LoopIs tab FT D2 live 22 laws_toFilterS_lo 0 3 := by
  refine loop_told (sl := laws_toFilterS_3_sl) (step := laws_toFilterS_3_st) (out := laws_toFilterS_3_out) (lor := laws_toFilterS_lo3) (fin := fun x => (laws_toFilterS_3_fin (x.1) (x.2.1) (x.2.2))) (fun _ => rfl) ?_ (fun x n => laws_toFilterS_3_r x.1 x.2.1 x.2.2 n) (fun x ow => laws_toFilterS_3_h x.1 x.2.1 x.2.2 ow)
  intro s t h
  unfold laws_toFilterS_lo3 at h
  split at h
  · cases h; exact ⟨(_, _, _), rfl, rfl⟩
  · cases h
noncomputable def laws_toFilterS_t (A : List (List TC)) : Tr (List (List TC)) := (.ite (0 ≤ (A.length : Int) ∧ (A.length : Int) ≤ (A.length : Int) ∧ (A.length : Int) * 24 ≤ 140737488355328 ∧ (A.length : Int) ≤ 140737488355328) (.ite ((laws_toFilterS_o3_1 A (List.replicate ((A.length : Int)).toNat [TC.i (0 : Int), TC.i (0 : Int), TC.b false]) (0 : Int)) = true) (.ok (laws_toFilterS_u3_1 A (List.replicate ((A.length : Int)).toNat [TC.i (0 : Int), TC.i (0 : Int), TC.b false]) (0 : Int)))
   .no)
  .no)
def laws_toFilterS_mk (p : List (List TC)) : Res := [(false, [⟨.slice 80, .own true, TC.l p⟩])]
noncomputable def laws_toFilterS_c (A : List (List TC)) : Bool := is (Typed tab (.slice 82) (.l A))
noncomputable def laws_toFilterS_v (A : List (List TC)) : List (List TC) := A.map laws_toFilterS_g
theorem laws_toFilterS_l (A : List (List TC)) : (laws_toFilterS_c A) = true → (laws_toFilterS_t A).val = some (laws_toFilterS_v A) := by
  intro h
  have ht := is_iff.1 h
  have hb := typed_room ht
  simp only [show (tab 82).bytes = 24 from rfl] at hb
  unfold laws_toFilterS_t
  refine Tr.t (by omega) ?_
  refine Tr.t (is_true ⟨ht, by rfl, rfl⟩) ?_
  rfl
noncomputable def laws_toFilterS_S : List Arg → Option (Bool × Res) := fun xs => match xs with
  | [(false, [(.slice 82, TC.l A)])] => some ((laws_toFilterS_c A), laws_toFilterS_mk (laws_toFilterS_v A))
  | _ => .none
theorem laws_toFilterS_e (A : List (List TC)) : runF tab FT D2 live 22 laws_toFilterS_lo [(false, [(.slice 82, TC.l A)])] = (laws_toFilterS_t A).run fun p => some (laws_toFilterS_mk p) := by kernel_rfl
theorem laws_toFilterS_s : ∀ xs r, laws_toFilterS_S xs = some (true, r) → runF tab FT D2 live 22 laws_toFilterS_lo xs = some r := by
  intro xs r h
  unfold laws_toFilterS_S at h
  split at h
  · simp only [Option.some.injEq, Prod.mk.injEq] at h
    obtain ⟨h1, rfl⟩ := h
    exact fun_told (laws_toFilterS_e _) (laws_toFilterS_l _) h1
  · cases h
noncomputable def D3 : Dt := also D2 22 laws_toFilterS_S
theorem d3 : DOk Go.Proofs.Try.prog tab D3 := d2.also mixed_ok tab_ok names_ok (fnLoops_one (by kernel_rfl) laws_toFilterS_is3) laws_toFilterS_s
theorem laws_toFilterS_ty {A : List (List TC)} (h : Typed tab (.slice 82) (.l A)) : Typed tab (.slice 80) (.l (A.map laws_toFilterS_g)) := by
  refine typed_map h (by decide) fun x _ _ hx => ⟨rfl, fun k hk => ?_⟩
  match k, hk with
    | 0, _ => exact typed_i (hx 0 (by decide))
    | 1, _ => exact typed_i (hx 1 (by decide))
    | 2, _ => exact typed_b (hx 2 (by decide))
/-! spec_l00In -/
noncomputable def spec_l00In_t (a0 : Int) (a1 : Int) (a2 : Int) : Tr (Bool) := (.ite ((decide (a0 ≥ a1)) = true) (.ok (decide (a0 ≤ a2)))
  (.ok false))
def spec_l00In_mk (p : Bool) : Res := [(false, [⟨.bool, .sh, TC.b p⟩])]
noncomputable def spec_l00In_c (a0 : Int) (a1 : Int) (a2 : Int) : Bool := true
noncomputable def spec_l00In_v (a0 : Int) (a1 : Int) (a2 : Int) : Bool := (bif (decide (a0 ≥ a1)) then (decide (a0 ≤ a2)) else false)
theorem spec_l00In_l (a0 : Int) (a1 : Int) (a2 : Int) : (spec_l00In_c a0 a1 a2) = true → (spec_l00In_t a0 a1 a2).val = some (spec_l00In_v a0 a1 a2) := by
  intro h
  skip
  unfold spec_l00In_t spec_l00In_v
  exact (Tr.s rfl rfl)
noncomputable def spec_l00In_S : List Arg → Option (Bool × Res) := fun xs => match xs with
  | [(false, [(.int .i64, TC.i a0)]), (false, [(.int .i64, TC.i a1)]), (false, [(.int .i64, TC.i a2)])] => some (true, spec_l00In_mk (spec_l00In_v a0 a1 a2))
  | _ => .none
theorem spec_l00In_e (a0 : Int) (a1 : Int) (a2 : Int) : runF tab FT D3 live 53 noLoops [(false, [(.int .i64, TC.i a0)]), (false, [(.int .i64, TC.i a1)]), (false, [(.int .i64, TC.i a2)])] = (spec_l00In_t a0 a1 a2).run fun p => some (spec_l00In_mk p) := by kernel_rfl
theorem spec_l00In_s : ∀ xs r, spec_l00In_S xs = some (true, r) → runF tab FT D3 live 53 noLoops xs = some r := by
  intro xs r h
  unfold spec_l00In_S at h
  split at h
  · simp only [Option.some.injEq, Prod.mk.injEq] at h
    obtain ⟨h1, rfl⟩ := h
    exact fun_told (spec_l00In_e _ _ _) (spec_l00In_l _ _ _) rfl
  · cases h
noncomputable def D4 : Dt := also D3 53 spec_l00In_S
theorem d4 : DOk Go.Proofs.Try.prog tab D4 := d3.also mixed_ok tab_ok names_ok noLoops_ok spec_l00In_s
def okFil (k p : Int) (o : Bool) : Bool :=
  bif k == 1 then (decide (p ≥ 1) && decide (p ≤ 24)) && !o else bif k == 2 then (p == 1 || p == 2 || p == 4) && !o else bif k == 3 then p == 0 else bif k == 4 then p == 0 else k == 5 && p == 0 && !o
def okFilR (x : List TC) : Bool := okFil (nth x 0).int (nth x 1).int (nth x 2).bool
/-! spec_l18Ok -/
noncomputable def spec_l18Ok_t (k : Int) (p : Int) (o : Bool) : Tr (Bool) := (.ite ((k == (1 : Int)) = true) (.ite ((spec_l00In_v p (1 : Int) (24 : Int)) = true) (.ok (!o))
   (.ok false))
  (.ite ((k == (2 : Int)) = true) (.ite ((p == (1 : Int)) = true) (.ok (!o))
    (.ite ((p == (2 : Int)) = true) (.ok (!o))
     (.ite ((p == (4 : Int)) = true) (.ok (!o))
      (.ok false))))
   (.ite ((k == (3 : Int)) = true) (.ok (p == (0 : Int)))
    (.ite ((k == (4 : Int)) = true) (.ok (p == (0 : Int)))
     (.ite ((k == (5 : Int)) = true) (.ite ((p == (0 : Int)) = true) (.ok (!o))
       (.ok false))
      (.ok false))))))
def spec_l18Ok_mk (p : Bool) : Res := [(false, [⟨.bool, .sh, TC.b p⟩])]
noncomputable def spec_l18Ok_c (k : Int) (p : Int) (o : Bool) : Bool := true
noncomputable def spec_l18Ok_v (k : Int) (p : Int) (o : Bool) : Bool := okFil k p o
theorem spec_l18Ok_l (k : Int) (p : Int) (o : Bool) : (spec_l18Ok_c k p o) = true → (spec_l18Ok_t k p o).val = some (spec_l18Ok_v k p o) := by
  intro _
  unfold spec_l18Ok_t
  simp only [Tr.val_br, Tr.val_ok]
  simp only [ite_bif, somebif]
  refine congrArg some ?_
  unfold spec_l18Ok_v
  unfold okFil
  simp only [spec_l00In_v]
  generalize (k == 1) = p0, (k == 2) = p1, (k == 3) = p2, (k == 4) = p3, (k == 5) = p4, (p == 0) = p5, decide (p ≥ 1) = p6, decide (p ≤ 24) = p7, (p == 1) = p8, (p == 2) = p9, (p == 4) = p10, o = p11
  revert p0 p1 p2 p3 p4 p5 p6 p7 p8 p9 p10 p11
  decide
noncomputable def spec_l18Ok_S : List Arg → Option (Bool × Res) := fun xs => match xs with
  | [(true, [(.int .i64, TC.i k), (.int .i64, TC.i p), (.bool, TC.b o)])] => some (true, spec_l18Ok_mk (spec_l18Ok_v k p o))
  | _ => .none
theorem spec_l18Ok_e (k : Int) (p : Int) (o : Bool) : runF tab FT D4 live 123 noLoops [(true, [(.int .i64, TC.i k), (.int .i64, TC.i p), (.bool, TC.b o)])] = (spec_l18Ok_t k p o).run fun p => some (spec_l18Ok_mk p) := by kernel_rfl
theorem spec_l18Ok_s : ∀ xs r, spec_l18Ok_S xs = some (true, r) → runF tab FT D4 live 123 noLoops xs = some r := by
  intro xs r h
  unfold spec_l18Ok_S at h
  split at h
  · simp only [Option.some.injEq, Prod.mk.injEq] at h
    obtain ⟨h1, rfl⟩ := h
    exact fun_told (spec_l18Ok_e _ _ _) (spec_l18Ok_l _ _ _) rfl
  · cases h
noncomputable def D5 : Dt := also D4 123 spec_l18Ok_S
theorem d5 : DOk Go.Proofs.Try.prog tab D5 := d4.also mixed_ok tab_ok names_ok noLoops_ok spec_l18Ok_s
/-! spec_l19Ok -/
abbrev spec_l19Ok_2_σ := List (List TC) × Int
abbrev spec_l19Ok_2_ω := (List (List TC)) ⊕ (List (List TC))
noncomputable def spec_l19Ok_2_step (A : List (List TC)) (i : Int) : Tr (spec_l19Ok_2_σ ⊕ spec_l19Ok_2_ω) := (.ite ((decide (i < (A.length : Int))) = true) (.ite ((0 : Int) ≤ i ∧ i < (A.length : Int)) (.ite ((!(spec_l18Ok_v ((nth (row A i) 0).int) ((nth (row A i) 1).int) ((nth (row A i) 2).bool))) = true) (.ok (.inr (.inl A)))
    (.ok (.inl (A, (IntKind.wrap .i64 (i + (1 : Int)))))))
   .no)
  (.ok (.inr (.inr A))))
noncomputable def spec_l19Ok_2_st : spec_l19Ok_2_σ → Tr (spec_l19Ok_2_σ ⊕ spec_l19Ok_2_ω) := fun x => (spec_l19Ok_2_step (x.1) (x.2))
noncomputable def spec_l19Ok_k2_1 (A : List (List TC)) (i : Int) : Bool := A.all okFilR
noncomputable def spec_l19Ok_o2_2 (A : List (List TC)) (i : Int) : Bool := is (i = 0 ∧ Typed tab (.slice 80) (.l A))
noncomputable def spec_l19Ok_o2_3 (A : List (List TC)) (i : Int) : Bool := is (i = 0 ∧ Typed tab (.slice 80) (.l A))
noncomputable def spec_l19Ok_2_fin (A : List (List TC)) (i : Int) : Told spec_l19Ok_2_ω := (.br (spec_l19Ok_k2_1 A i) (.leaf (spec_l19Ok_o2_2 A i) (.inr A)) (.leaf (spec_l19Ok_o2_3 A i) (.inl A)))
def spec_l19Ok_2_sl (x : spec_l19Ok_2_σ) : List Slot := [⟨.val false [⟨.slice 80, .sh, TC.l (x.1)⟩], ⟨0, 0⟩⟩, ⟨.val false [⟨.int .i64, .sh, TC.i (x.2)⟩], ⟨0, 0⟩⟩]
def spec_l19Ok_2_out : spec_l19Ok_2_ω → Ex × List Slot := (Sum.elim (fun x => (.ret, [⟨.val false [⟨.slice 80, .sh, TC.l x⟩], ⟨0, 0⟩⟩, ⟨.val false [⟨.bool, .sh, TC.b false⟩], ⟨0, 0⟩⟩])) (fun x => (.exit 0, [⟨.val false [⟨.slice 80, .sh, TC.l x⟩], ⟨0, 0⟩⟩, Slot.none])))
noncomputable def spec_l19Ok_lo2 : List Slot → Option (Told (Ex × List Slot)) := fun s => match s with
  | [⟨.val false [⟨.slice 80, .sh, TC.l A⟩], ⟨0, 0⟩⟩, ⟨.val false [⟨.int .i64, .sh, TC.i i⟩], ⟨0, 0⟩⟩] => some (((spec_l19Ok_2_fin A i)).map spec_l19Ok_2_out)
  | _ => .none
noncomputable def spec_l19Ok_lo : LoopTeller := fun r s => bif Nat.beq r 2 then spec_l19Ok_lo2 s else .none
theorem spec_l19Ok_2_r (A : List (List TC)) (i : Int) (fuel : Nat) : rounds (rnd tab FT D5 live 84 spec_l19Ok_lo 0 2) leave (fuel + 1) (spec_l19Ok_2_sl (A, i)) = ((spec_l19Ok_2_step A i)).run (goOn (fun s => rounds (rnd tab FT D5 live 84 spec_l19Ok_lo 0 2) leave fuel (spec_l19Ok_2_sl s)) fun w => some (spec_l19Ok_2_out w)) := by kernel_rfl
theorem spec_l19Ok_2_h (A : List (List TC)) (i : Int) (ow : spec_l19Ok_2_ω) : ((spec_l19Ok_2_fin A i)).val = some ow → ∃ fuel, loopN spec_l19Ok_2_st fuel (A, i) = some ow := by
  intro h
  have key : Typed tab (.slice 80) (.l A) → loopN spec_l19Ok_2_st (A.length + 1) (A, (0 : Int)) = some (if A.all okFilR = true then (.inr A) else (.inl A)) := by
    intro ht
    have hlen : A.length ≤ 140737488351232 := by have := typed_room ht; simp only [show (tab 80).bytes = 24 from rfl] at this; omega
    have key := loopN_find (step := spec_l19Ok_2_st) A [] okFilR (fun i => (A, (i : Int))) (.inr A) (fun i => (.inl A)) (fun i hi => ?_) ?_ A.length 0 (by omega)
    · first | (rw [Nat.zero_add] at key; exact key) | exact key
    · show (spec_l19Ok_2_step A (i : Int)).val = _
      unfold spec_l19Ok_2_step
      refine Tr.t (by simp; omega) ?_
      refine Tr.t (by constructor <;> omega) ?_
      skip
      skip
      rw [wrap64 (i := (i : Int) + 1) (by omega) (by omega), Tr.val_br]
      show (if (!(okFilR (A.getD i []))) = true then _ else _) = _
      cases okFilR (A.getD i []) <;> rfl
    · show (spec_l19Ok_2_step A (A.length : Int)).val = _
      refine Tr.n (by simp) ?_
      rfl
  simp only [spec_l19Ok_2_fin, Told.val] at h
  cases hk : A.all okFilR with
  | true =>
    rw [if_pos (show spec_l19Ok_k2_1 A i = true from hk)] at h
    split at h
    · rename_i ho
      obtain ⟨rfl, ht⟩ := is_iff.1 ho
      cases h
      refine ⟨_, (key ht).trans ?_⟩
      rw [hk]; rfl
    · cases h
  | false =>
    rw [if_neg (show ¬spec_l19Ok_k2_1 A i = true from by rw [show spec_l19Ok_k2_1 A i = (A.all okFilR) from rfl, hk]; simp)] at h
    split at h
    · rename_i ho
      obtain ⟨rfl, ht⟩ := is_iff.1 ho
      cases h
      refine ⟨_, (key ht).trans ?_⟩
      rw [hk]; rfl
    · cases h
theorem spec_l19Ok_is2 : LoopIs tab FT D5 live 84 spec_l19Ok_lo 0 2 := by
  refine loop_told (sl := spec_l19Ok_2_sl) (step := spec_l19Ok_2_st) (out := spec_l19Ok_2_out) (lor := spec_l19Ok_lo2) (fin := fun x => (spec_l19Ok_2_fin (x.1) (x.2))) (fun _ => rfl) ?_ (fun x n => spec_l19Ok_2_r x.1 x.2 n) (fun x ow => spec_l19Ok_2_h x.1 x.2 ow)
  intro s t h
  unfold spec_l19Ok_lo2 at h
  split at h
  · cases h; exact ⟨(_, _), rfl, rfl⟩
  · cases h
noncomputable def spec_l19Ok_t (A : List (List TC)) : Tr (Bool) := (.ite ((spec_l19Ok_k2_1 A (0 : Int)) = true) (.ite ((spec_l19Ok_o2_2 A (0 : Int)) = true) (.ok (decide ((A.length : Int) ≤ (4 : Int))))
   .no)
  (.ite ((spec_l19Ok_o2_3 A (0 : Int)) = true) (.ok false)
   .no))
def spec_l19Ok_mk (p : Bool) : Res := [(false, [⟨.bool, .sh, TC.b p⟩])]
noncomputable def spec_l19Ok_c (A : List (List TC)) : Bool := is (Typed tab (.slice 80) (.l A))
noncomputable def spec_l19Ok_v (A : List (List TC)) : Bool := A.all okFilR && decide ((A.length : Int) ≤ 4)
theorem spec_l19Ok_l (A : List (List TC)) : (spec_l19Ok_c A) = true → (spec_l19Ok_t A).val = some (spec_l19Ok_v A) := by
  intro h
  have ht := is_iff.1 h
  unfold spec_l19Ok_t
  cases hk : A.all okFilR with
  | true =>
    refine Tr.t (show A.all okFilR = true from hk) ?_
    refine Tr.t (by first | (apply is_true; and_intros <;> (first | rfl | assumption | (first | (apply is_true; and_intros <;> (first | rfl | assumption | (first | (apply is_true; and_intros <;> (first | rfl | assumption | (first | (apply is_true; and_intros <;> (first | rfl | assumption)))))))))))) ?_
    (simp [spec_l19Ok_v, hk]) <;> rfl
  | false =>
    refine Tr.n (show ¬A.all okFilR = true from by rw [hk]; simp) ?_
    refine Tr.t (by first | (apply is_true; and_intros <;> (first | rfl | assumption | (first | (apply is_true; and_intros <;> (first | rfl | assumption | (first | (apply is_true; and_intros <;> (first | rfl | assumption | (first | (apply is_true; and_intros <;> (first | rfl | assumption)))))))))))) ?_
    (simp [spec_l19Ok_v, hk]) <;> rfl
noncomputable def spec_l19Ok_S : List Arg → Option (Bool × Res) := fun xs => match xs with
  | [(false, [(.slice 80, TC.l A)])] => some ((spec_l19Ok_c A), spec_l19Ok_mk (spec_l19Ok_v A))
  | _ => .none
theorem spec_l19Ok_e (A : List (List TC)) : runF tab FT D5 live 84 spec_l19Ok_lo [(false, [(.slice 80, TC.l A)])] = (spec_l19Ok_t A).run fun p => some (spec_l19Ok_mk p) := by kernel_rfl
theorem spec_l19Ok_s : ∀ xs r, spec_l19Ok_S xs = some (true, r) → runF tab FT D5 live 84 spec_l19Ok_lo xs = some r := by
  intro xs r h
  unfold spec_l19Ok_S at h
  split at h
  · simp only [Option.some.injEq, Prod.mk.injEq] at h
    obtain ⟨h1, rfl⟩ := h
    exact fun_told (spec_l19Ok_e _) (spec_l19Ok_l _) h1
  · cases h
noncomputable def D6 : Dt := also D5 84 spec_l19Ok_S
theorem d6 : DOk Go.Proofs.Try.prog tab D6 := d5.also mixed_ok tab_ok names_ok (fnLoops_one (by kernel_rfl) spec_l19Ok_is2) spec_l19Ok_s
/-! spec_l01Bytes -/
abbrev spec_l01Bytes_3_σ := Int × Int × List (List TC) × Int
abbrev spec_l01Bytes_3_ω := (List (List TC))
noncomputable def spec_l01Bytes_3_step (n : Int) (size : Int) (X : List (List TC)) (k : Int) : Tr (spec_l01Bytes_3_σ ⊕ spec_l01Bytes_3_ω) := (.ite ((decide (k < size)) = true) (.ite (0 ≤ (IntKind.wrap .u64 ((8 : Int) * (IntKind.wrap .u64 k)))) (.ite (roomFor (tab 5) (X ++ [[TC.i (IntKind.wrap .u8 (bits .i64 (fun a b => a &&& b) (Int.fdiv n (2 ^ (min ((IntKind.wrap .u64 ((8 : Int) * (IntKind.wrap .u64 k)))).toNat 64))) (255 : Int)))]]).length) (.ok (.inl (n, size, (X ++ [[TC.i (IntKind.wrap .u8 (bits .i64 (fun a b => a &&& b) (Int.fdiv n (2 ^ (min ((IntKind.wrap .u64 ((8 : Int) * (IntKind.wrap .u64 k)))).toNat 64))) (255 : Int)))]]), (IntKind.wrap .i64 (k + (1 : Int))))))
    .no)
   .no)
  (.ok (.inr X)))
noncomputable def spec_l01Bytes_3_st : spec_l01Bytes_3_σ → Tr (spec_l01Bytes_3_σ ⊕ spec_l01Bytes_3_ω) := fun x => (spec_l01Bytes_3_step (x.1) (x.2.1) (x.2.2.1) (x.2.2.2))
noncomputable def spec_l01Bytes_o3_1 (n : Int) (size : Int) (X : List (List TC)) (k : Int) : Bool := is (∃ sz : Nat, size = (sz : Int) ∧ sz ≤ 8 ∧ X = [] ∧ k = 0)
noncomputable def spec_l01Bytes_u3_1 (n : Int) (size : Int) (X : List (List TC)) (k : Int) : List (List TC) := bRows n size.toNat
noncomputable def spec_l01Bytes_3_fin (n : Int) (size : Int) (X : List (List TC)) (k : Int) : Told spec_l01Bytes_3_ω := (.leaf (spec_l01Bytes_o3_1 n size X k) (spec_l01Bytes_u3_1 n size X k))
def spec_l01Bytes_3_sl (x : spec_l01Bytes_3_σ) : List Slot := [⟨.val false [⟨.int .i64, .sh, TC.i (x.1)⟩], ⟨0, 0⟩⟩, ⟨.val false [⟨.int .i64, .sh, TC.i (x.2.1)⟩], ⟨0, 0⟩⟩, ⟨.val false [⟨.slice 5, .own true, TC.l (x.2.2.1)⟩], ⟨0, 0⟩⟩, ⟨.val false [⟨.int .i64, .sh, TC.i (x.2.2.2)⟩], ⟨0, 0⟩⟩]
def spec_l01Bytes_3_out : spec_l01Bytes_3_ω → Ex × List Slot := (fun x => (.exit 0, [Slot.none, ⟨.val false [⟨.slice 5, .own true, TC.l x⟩], ⟨0, 0⟩⟩]))
noncomputable def spec_l01Bytes_lo3 : List Slot → Option (Told (Ex × List Slot)) := fun s => match s with
  | [⟨.val false [⟨.int .i64, .sh, TC.i n⟩], ⟨0, 0⟩⟩, ⟨.val false [⟨.int .i64, .sh, TC.i size⟩], ⟨0, 0⟩⟩, ⟨.val false [⟨.slice 5, .own true, TC.l X⟩], ⟨0, 0⟩⟩, ⟨.val false [⟨.int .i64, .sh, TC.i k⟩], ⟨0, 0⟩⟩] => some (((spec_l01Bytes_3_fin n size X k)).map spec_l01Bytes_3_out)
  | _ => .none
noncomputable def spec_l01Bytes_lo : LoopTeller := fun r s => bif Nat.beq r 3 then spec_l01Bytes_lo3 s else .none
theorem spec_l01Bytes_3_r (n : Int) (size : Int) (X : List (List TC)) (k : Int) (fuel : Nat) : rounds (rnd tab FT D6 live 124 spec_l01Bytes_lo 0 3) leave (fuel + 1) (spec_l01Bytes_3_sl (n, size, X, k)) = ((spec_l01Bytes_3_step n size X k)).run (goOn (fun s => rounds (rnd tab FT D6 live 124 spec_l01Bytes_lo 0 3) leave fuel (spec_l01Bytes_3_sl s)) fun w => some (spec_l01Bytes_3_out w)) := by kernel_rfl
theorem spec_l01Bytes_3_h (n : Int) (size : Int) (X : List (List TC)) (k : Int) (ow : spec_l01Bytes_3_ω) : ((spec_l01Bytes_3_fin n size X k)).val = some ow → ∃ fuel, loopN spec_l01Bytes_3_st fuel (n, size, X, k) = some ow := by
  intro h
  refine auto_leaf (R := bRows n size.toNat) (fun ho => ?_) h
  obtain ⟨sz, rfl, h8, rfl, rfl⟩ := is_iff.1 ho
  refine ⟨sz + 1, loopN_run (step := spec_l01Bytes_3_st) (N := sz) (fun j => (n, (sz : Int), bRows n j, (j : Int))) (fun j hj => ?_) ?_ sz 0 (by omega)⟩
  · show (spec_l01Bytes_3_step n (sz : Int) (bRows n j) (j : Int)).val = _
    unfold spec_l01Bytes_3_step
    rw [bAt_u64 (by omega), bRows_succ]
    refine Tr.t (by simp; omega) ?_
    refine Tr.t (by rw [IntKind.wrap_u64]; omega) ?_
    refine Tr.t (by unfold roomFor; simp only [show (tab 5).bytes = 1 from rfl, bRows_len]; omega) ?_
    rw [Tr.val_ok, wrap64 (i := (j : Int) + 1) (by omega) (by omega)]; rfl
  · show (spec_l01Bytes_3_step n (sz : Int) (bRows n sz) (sz : Int)).val = _
    refine Tr.n (by simp) ?_
    rfl
theorem spec_l01Bytes_is3 : LoopIs tab FT D6 live 124 spec_l01Bytes_lo 0 3 := by
  refine loop_told (sl := spec_l01Bytes_3_sl) (step := spec_l01Bytes_3_st) (out := spec_l01Bytes_3_out) (lor := spec_l01Bytes_lo3) (fin := fun x => (spec_l01Bytes_3_fin (x.1) (x.2.1) (x.2.2.1) (x.2.2.2))) (fun _ => rfl) ?_ (fun x n => spec_l01Bytes_3_r x.1 x.2.1 x.2.2.1 x.2.2.2 n) (fun x ow => spec_l01Bytes_3_h x.1 x.2.1 x.2.2.1 x.2.2.2 ow)
  intro s t h
  unfold spec_l01Bytes_lo3 at h
  split at h
  · cases h; exact ⟨(_, _, _, _), rfl, rfl⟩
  · cases h
noncomputable def spec_l01Bytes_t (n : Int) (size : Int) : Tr (List UInt8) := (.ite ((spec_l01Bytes_o3_1 n size [] (0 : Int)) = true) (.ok ((spec_l01Bytes_u3_1 n size [] (0 : Int)).map byteOf))
  .no)
def spec_l01Bytes_mk (p : List UInt8) : Res := [(false, [⟨.str, .sh, TC.s p⟩])]
noncomputable def spec_l01Bytes_c (n : Int) (size : Int) : Bool := is (∃ sz : Nat, size = (sz : Int) ∧ sz ≤ 8)
noncomputable def spec_l01Bytes_v (n : Int) (size : Int) : List UInt8 := hid (bytesL n size.toNat)
theorem spec_l01Bytes_l (n : Int) (size : Int) : (spec_l01Bytes_c n size) = true → (spec_l01Bytes_t n size).val = some (spec_l01Bytes_v n size) := by
  intro h
  obtain ⟨sz, rfl, h8⟩ := is_iff.1 h
  unfold spec_l01Bytes_t
  refine Tr.t (is_true ⟨sz, rfl, h8, rfl, rfl⟩) ?_
  unfold spec_l01Bytes_v
  rw [hid_eq]; rfl
noncomputable def spec_l01Bytes_S : List Arg → Option (Bool × Res) := fun xs => match xs with
  | [(false, [(.int .i64, TC.i n)]), (false, [(.int .i64, TC.i size)])] => some ((spec_l01Bytes_c n size), spec_l01Bytes_mk (spec_l01Bytes_v n size))
  | _ => .none
theorem spec_l01Bytes_e (n : Int) (size : Int) : runF tab FT D6 live 124 spec_l01Bytes_lo [(false, [(.int .i64, TC.i n)]), (false, [(.int .i64, TC.i size)])] = (spec_l01Bytes_t n size).run fun p => some (spec_l01Bytes_mk p) := by kernel_rfl
theorem spec_l01Bytes_s : ∀ xs r, spec_l01Bytes_S xs = some (true, r) → runF tab FT D6 live 124 spec_l01Bytes_lo xs = some r := by
  intro xs r h
  unfold spec_l01Bytes_S at h
  split at h
  · simp only [Option.some.injEq, Prod.mk.injEq] at h
    obtain ⟨h1, rfl⟩ := h
    exact fun_told (spec_l01Bytes_e _ _) (spec_l01Bytes_l _ _) h1
  · cases h
noncomputable def D7 : Dt := also D6 124 spec_l01Bytes_S
theorem d7 : DOk Go.Proofs.Try.prog tab D7 := d6.also mixed_ok tab_ok names_ok (fnLoops_one (by kernel_rfl) spec_l01Bytes_is3) spec_l01Bytes_s
theorem spec_l01Bytes_h {n size : Int} : spec_l01Bytes_v n size = bytesL n size.toNat := hid_eq _
/-! spec_l01PutUint -/
noncomputable def spec_l01PutUint_t (n : Int) (size : Int) : Tr (List UInt8) := (.ite ((!(spec_l00In_v size (1 : Int) (8 : Int))) = true) (.ok ([]))
  (.ite ((decide (n < (0 : Int))) = true) (.ok ([]))
   (.ite ((decide (size < (8 : Int))) = true) (.ite (0 ≤ (IntKind.wrap .u64 ((8 : Int) * (IntKind.wrap .u64 size)))) (.ite ((!((Int.fdiv n (2 ^ (min ((IntKind.wrap .u64 ((8 : Int) * (IntKind.wrap .u64 size)))).toNat 64))) == (0 : Int))) = true) (.ok ([]))
      (.ite ((spec_l01Bytes_c n size) = true) (.ok (spec_l01Bytes_v n size))
       .no))
     .no)
    (.ite ((spec_l01Bytes_c n size) = true) (.ok (spec_l01Bytes_v n size))
     .no))))
def spec_l01PutUint_mk (p : List UInt8) : Res := [(false, [⟨.str, .sh, TC.s p⟩])]
noncomputable def spec_l01PutUint_c (n : Int) (size : Int) : Bool := (bif (!(spec_l00In_v size (1 : Int) (8 : Int))) then true else (bif (decide (n < (0 : Int))) then true else (bif (decide (size < (8 : Int))) then (is (0 ≤ (IntKind.wrap .u64 ((8 : Int) * (IntKind.wrap .u64 size)))) && (bif (!((Int.fdiv n (2 ^ (min ((IntKind.wrap .u64 ((8 : Int) * (IntKind.wrap .u64 size)))).toNat 64))) == (0 : Int))) then true else ((spec_l01Bytes_c n size) && true))) else ((spec_l01Bytes_c n size) && true))))
noncomputable def spec_l01PutUint_v (n : Int) (size : Int) : List UInt8 := (bif (!(spec_l00In_v size (1 : Int) (8 : Int))) then [] else (bif (decide (n < (0 : Int))) then [] else (bif (decide (size < (8 : Int))) then (bif (!((Int.fdiv n (2 ^ (min ((IntKind.wrap .u64 ((8 : Int) * (IntKind.wrap .u64 size)))).toNat 64))) == (0 : Int))) then [] else (spec_l01Bytes_v n size)) else (spec_l01Bytes_v n size))))
theorem spec_l01PutUint_l (n : Int) (size : Int) : (spec_l01PutUint_c n size) = true → (spec_l01PutUint_t n size).val = some (spec_l01PutUint_v n size) := by
  unfold spec_l01PutUint_t spec_l01PutUint_v spec_l01PutUint_c
  exact fun h => (Tr.ss h (fun h => rfl) (fun h => (Tr.ss h (fun h => rfl) (fun h => (Tr.ss h (fun h => (Tr.gs h fun h => (Tr.ss h (fun h => rfl) (fun h => (Tr.gb h fun h => rfl))))) (fun h => (Tr.gb h fun h => rfl)))))))
noncomputable def spec_l01PutUint_S : List Arg → Option (Bool × Res) := fun xs => match xs with
  | [(false, [(.int .i64, TC.i n)]), (false, [(.int .i64, TC.i size)])] => some ((spec_l01PutUint_c n size), spec_l01PutUint_mk (spec_l01PutUint_v n size))
  | _ => .none
theorem spec_l01PutUint_e (n : Int) (size : Int) : runF tab FT D7 live 85 noLoops [(false, [(.int .i64, TC.i n)]), (false, [(.int .i64, TC.i size)])] = (spec_l01PutUint_t n size).run fun p => some (spec_l01PutUint_mk p) := by kernel_rfl
theorem spec_l01PutUint_s : ∀ xs r, spec_l01PutUint_S xs = some (true, r) → runF tab FT D7 live 85 noLoops xs = some r := by
  intro xs r h
  unfold spec_l01PutUint_S at h
  split at h
  · simp only [Option.some.injEq, Prod.mk.injEq] at h
    obtain ⟨h1, rfl⟩ := h
    exact fun_told (spec_l01PutUint_e _ _) (spec_l01PutUint_l _ _) h1
  · cases h
noncomputable def D8 : Dt := also D7 85 spec_l01PutUint_S
theorem d8 : DOk Go.Proofs.Try.prog tab D8 := d7.also mixed_ok tab_ok names_ok noLoops_ok spec_l01PutUint_s
theorem spec_l01PutUint_cc {n : Int} {size : Int} (hz : ∃ sz : Nat, size = (sz : Int) ∧ sz ≤ 8) : (spec_l01PutUint_c n size) = true := by
  unfold spec_l01PutUint_c
  refine bifT (fun b1 => ?_) (fun b1 => ?_)
  · skip
    rfl
  · skip
    refine bifT (fun b2 => ?_) (fun b2 => ?_)
    · skip
      rfl
    · skip
      refine bifT (fun b3 => ?_) (fun b3 => ?_)
      · skip
        refine andT (is_true (by rw [IntKind.wrap_u64]; omega)) ?_
        refine bifT (fun b4 => ?_) (fun b4 => ?_)
        · skip
          rfl
        · skip
          refine andT (by exact is_true hz) ?_
          rfl
      · skip
        refine andT (by exact is_true hz) ?_
        rfl
theorem spec_l01PutUint_at {n : Int} {sz : Nat} (h1 : 1 ≤ sz) (h7 : sz < 8) (h0 : 0 ≤ n) (h : n < 2 ^ (8 * sz)) : spec_l01PutUint_v n (sz : Int) = bytesL n sz := by
  unfold spec_l01PutUint_v
  rw [show spec_l00In_v (sz : Int) 1 8 = true from by unfold spec_l00In_v; rw [show decide ((sz : Int) ≥ 1) = true from by simp; omega, show decide ((sz : Int) ≤ 8) = true from by simp; omega]; rfl]
  rw [show decide (n < 0) = false from by simp; omega, show decide ((sz : Int) < 8) = true from by simp; omega]
  have e : (IntKind.wrap .u64 ((8 : Int) * (IntKind.wrap .u64 (sz : Int)))) = ((8 * sz : Nat) : Int) := by
    rw [IntKind.wrap_u64, IntKind.wrap_u64]; omega
  rw [e, Int.toNat_natCast, Nat.min_eq_left (by omega), shr_zero h0 h]
  exact spec_l01Bytes_h
theorem putLen {n : Int} {sz : Nat} (h : sz ≤ 8) : (spec_l01PutUint_v n (sz : Int)).length ≤ 8 := by
  have hb : (spec_l01Bytes_v n (sz : Int)).length ≤ 8 := by
    rw [spec_l01Bytes_h, Int.toNat_natCast, bytesL_len]; exact h
  have hc : ∀ (c : Bool) (x y : List UInt8), x.length ≤ 8 → y.length ≤ 8 → (bif c then x else y).length ≤ 8 := by
    intro c x y hx hy
    cases c
    · exact hy
    · exact hx
  unfold spec_l01PutUint_v
  exact hc _ _ _ (Nat.zero_le _) (hc _ _ _ (Nat.zero_le _) (hc _ _ _ (hc _ _ _ (Nat.zero_le _) hb) hb))
theorem putC {n : Int} {sz : Nat} (h : sz ≤ 8) : spec_l01PutUint_c n (sz : Int) = true := spec_l01PutUint_cc ⟨sz, rfl, h⟩
/-! spec_l19Flag -/
noncomputable def spec_l19Flag_t (a0 : Bool) : Tr (Int) := (.ite (a0 = true) (.ok (1 : Int))
  (.ok (0 : Int)))
def spec_l19Flag_mk (p : Int) : Res := [(false, [⟨.int .i64, .sh, TC.i p⟩])]
noncomputable def spec_l19Flag_c (a0 : Bool) : Bool := true
noncomputable def spec_l19Flag_v (a0 : Bool) : Int := (bif a0 then (1 : Int) else (0 : Int))
theorem spec_l19Flag_l (a0 : Bool) : (spec_l19Flag_c a0) = true → (spec_l19Flag_t a0).val = some (spec_l19Flag_v a0) := by
  intro h
  skip
  unfold spec_l19Flag_t spec_l19Flag_v
  exact (Tr.s rfl rfl)
noncomputable def spec_l19Flag_S : List Arg → Option (Bool × Res) := fun xs => match xs with
  | [(false, [(.bool, TC.b a0)])] => some (true, spec_l19Flag_mk (spec_l19Flag_v a0))
  | _ => .none
theorem spec_l19Flag_e (a0 : Bool) : runF tab FT D8 live 86 noLoops [(false, [(.bool, TC.b a0)])] = (spec_l19Flag_t a0).run fun p => some (spec_l19Flag_mk p) := by kernel_rfl
theorem spec_l19Flag_s : ∀ xs r, spec_l19Flag_S xs = some (true, r) → runF tab FT D8 live 86 noLoops xs = some r := by
  intro xs r h
  unfold spec_l19Flag_S at h
  split at h
  · simp only [Option.some.injEq, Prod.mk.injEq] at h
    obtain ⟨h1, rfl⟩ := h
    exact fun_told (spec_l19Flag_e _) (spec_l19Flag_l _) rfl
  · cases h
noncomputable def D9 : Dt := also D8 86 spec_l19Flag_S
theorem d9 : DOk Go.Proofs.Try.prog tab D9 := d8.also mixed_ok tab_ok names_ok noLoops_ok spec_l19Flag_s
theorem okFil_b {k p : Int} {o : Bool} (h : okFil k p o = true) : (0 ≤ k ∧ k < 256) ∧ 0 ≤ p ∧ p < 256 := by
  unfold okFil at h
  cases h1 : (k == 1) with
  | true => rw [h1] at h; simp at h h1; omega
  | false =>
    rw [h1] at h
    cases h2 : (k == 2) with
    | true => rw [h2] at h; simp at h h2; omega
    | false =>
      rw [h2] at h
      cases h3 : (k == 3) with
      | true => rw [h3] at h; simp at h h3; omega
      | false =>
        rw [h3] at h
        cases h4 : (k == 4) with
        | true => rw [h4] at h; simp at h h4; omega
        | false => rw [h4] at h; simp at h; omega
def flagB (b : Bool) : Int := bif b then 1 else 0
def encStep (A : List (List TC)) (i : Nat) (a : List UInt8) : List UInt8 := a ++ ((bytesL (nth (row A (i : Int)) 0).int 1 ++ bytesL (nth (row A (i : Int)) 1).int 1) ++ bytesL (flagB (nth (row A (i : Int)) 2).bool) 1)
def encPipe (A : List (List TC)) : List UInt8 := bif A.all okFilR && decide ((A.length : Int) ≤ 4) then foldI (encStep A) A.length (bytesL (A.length : Int) 1) else []
theorem spec_l19Ok_vvp {A : List (List TC)} : spec_l19Ok_v A = (A.all okFilR && decide ((A.length : Int) ≤ 4)) := rfl
/-! spec_EncodePipeline -/
noncomputable def spec_EncodePipeline_f5 (A : List (List TC)) (i : Int) (s : List UInt8) : (List UInt8) ⊕ ((List UInt8)) := (.inl (s ++ (((spec_l01PutUint_v ((nth (row A i) 0).int) (1 : Int)) ++ (spec_l01PutUint_v ((nth (row A i) 1).int) (1 : Int))) ++ (spec_l01PutUint_v (spec_l19Flag_v ((nth (row A i) 2).bool)) (1 : Int)))))
noncomputable def spec_EncodePipeline_e5 (A : List (List TC)) (s : List UInt8) : (List UInt8) := s
noncomputable def spec_EncodePipeline_R5 (A : List (List TC)) (s : List UInt8) (i : Int) : (List UInt8) := iter (fun i a => (spec_EncodePipeline_f5 A (i : Int) a)) (fun a => (spec_EncodePipeline_e5 A a)) (A.length) 0 s
abbrev spec_EncodePipeline_5_σ := List (List TC) × List UInt8 × Int
abbrev spec_EncodePipeline_5_ω := (List UInt8)
noncomputable def spec_EncodePipeline_5_step (A : List (List TC)) (s : List UInt8) (i : Int) : Tr (spec_EncodePipeline_5_σ ⊕ spec_EncodePipeline_5_ω) := (.ite ((decide (i < (A.length : Int))) = true) (.ite ((0 : Int) ≤ i ∧ i < (A.length : Int)) (.ite ((spec_l01PutUint_c ((nth (row A i) 0).int) (1 : Int)) = true) (.ite ((spec_l01PutUint_c ((nth (row A i) 1).int) (1 : Int)) = true) (.ite ((((spec_l01PutUint_v ((nth (row A i) 0).int) (1 : Int)).length + (spec_l01PutUint_v ((nth (row A i) 1).int) (1 : Int)).length : Nat) : Int) ≤ 9223372036854775807) (.ite ((spec_l01PutUint_c (spec_l19Flag_v ((nth (row A i) 2).bool)) (1 : Int)) = true) (.ite (((((spec_l01PutUint_v ((nth (row A i) 0).int) (1 : Int)) ++ (spec_l01PutUint_v ((nth (row A i) 1).int) (1 : Int))).length + (spec_l01PutUint_v (spec_l19Flag_v ((nth (row A i) 2).bool)) (1 : Int)).length : Nat) : Int) ≤ 9223372036854775807) (.ite (((s.length + (((spec_l01PutUint_v ((nth (row A i) 0).int) (1 : Int)) ++ (spec_l01PutUint_v ((nth (row A i) 1).int) (1 : Int))) ++ (spec_l01PutUint_v (spec_l19Flag_v ((nth (row A i) 2).bool)) (1 : Int))).length : Nat) : Int) ≤ 9223372036854775807) (.ok (.inl (A, (s ++ (((spec_l01PutUint_v ((nth (row A i) 0).int) (1 : Int)) ++ (spec_l01PutUint_v ((nth (row A i) 1).int) (1 : Int))) ++ (spec_l01PutUint_v (spec_l19Flag_v ((nth (row A i) 2).bool)) (1 : Int)))), (IntKind.wrap .i64 (i + (1 : Int))))))
         .no)
        .no)
       .no)
      .no)
     .no)
    .no)
   .no)
  (.ok (.inr s)))
noncomputable def spec_EncodePipeline_5_st : spec_EncodePipeline_5_σ → Tr (spec_EncodePipeline_5_σ ⊕ spec_EncodePipeline_5_ω) := fun x => (spec_EncodePipeline_5_step (x.1) (x.2.1) (x.2.2))
noncomputable def spec_EncodePipeline_o5_1 (A : List (List TC)) (s : List UInt8) (i : Int) : Bool := is (i = 0 ∧ Typed tab (.slice 80) (.l A) ∧ s.length ≤ 8 ∧ A.length ≤ 64)
noncomputable def spec_EncodePipeline_u5_1 (A : List (List TC)) (s : List UInt8) (i : Int) : List UInt8 := (spec_EncodePipeline_R5 A s i)
noncomputable def spec_EncodePipeline_5_fin (A : List (List TC)) (s : List UInt8) (i : Int) : Told spec_EncodePipeline_5_ω := (.leaf (spec_EncodePipeline_o5_1 A s i) (spec_EncodePipeline_u5_1 A s i))
def spec_EncodePipeline_5_sl (x : spec_EncodePipeline_5_σ) : List Slot := [⟨.val false [⟨.slice 80, .sh, TC.l (x.1)⟩], ⟨0, 0⟩⟩, ⟨.val false [⟨.str, .sh, TC.s (x.2.1)⟩], ⟨0, 0⟩⟩, ⟨.val false [⟨.int .i64, .sh, TC.i (x.2.2)⟩], ⟨0, 0⟩⟩]
def spec_EncodePipeline_5_out : spec_EncodePipeline_5_ω → Ex × List Slot := (fun x => (.exit 0, [Slot.none, ⟨.val false [⟨.str, .sh, TC.s x⟩], ⟨0, 0⟩⟩]))
noncomputable def spec_EncodePipeline_lo5 : List Slot → Option (Told (Ex × List Slot)) := fun s => match s with
  | [⟨.val false [⟨.slice 80, .sh, TC.l A⟩], ⟨0, 0⟩⟩, ⟨.val false [⟨.str, .sh, TC.s s⟩], ⟨0, 0⟩⟩, ⟨.val false [⟨.int .i64, .sh, TC.i i⟩], ⟨0, 0⟩⟩] => some (((spec_EncodePipeline_5_fin A s i)).map spec_EncodePipeline_5_out)
  | _ => .none
noncomputable def spec_EncodePipeline_lo : LoopTeller := fun r s => bif Nat.beq r 5 then spec_EncodePipeline_lo5 s else .none
theorem spec_EncodePipeline_5_r (A : List (List TC)) (s : List UInt8) (i : Int) (fuel : Nat) : rounds (rnd tab FT D9 live 42 spec_EncodePipeline_lo 0 5) leave (fuel + 1) (spec_EncodePipeline_5_sl (A, s, i)) = ((spec_EncodePipeline_5_step A s i)).run (goOn (fun s => rounds (rnd tab FT D9 live 42 spec_EncodePipeline_lo 0 5) leave fuel (spec_EncodePipeline_5_sl s)) fun w => some (spec_EncodePipeline_5_out w)) := by kernel_rfl
theorem spec_EncodePipeline_5_h (A : List (List TC)) (s : List UInt8) (i : Int) (ow : spec_EncodePipeline_5_ω) : ((spec_EncodePipeline_5_fin A s i)).val = some ow → ∃ fuel, loopN spec_EncodePipeline_5_st fuel (A, s, i) = some ow := by
  refine auto_leaf (R := (spec_EncodePipeline_R5 A s i)) ?_
  intro ho
  have ho : is (i = 0 ∧ Typed tab (.slice 80) (.l A) ∧ s.length ≤ 8 ∧ A.length ≤ 64) = true := ho
  obtain ⟨rfl, ht, hs0, hlim⟩ := is_iff.1 ho
  have hlen : A.length ≤ 140737488351232 := by have := typed_room ht; simp only [show (tab 80).bytes = 24 from rfl] at this; omega
  refine ⟨(A.length) + 1, ?_⟩
  refine iter_loop (step := spec_EncodePipeline_5_st) (A.length) (fun i a => (spec_EncodePipeline_f5 A (i : Int) a)) (fun a => (spec_EncodePipeline_e5 A a)) (fun i a => (A, a, (i : Int))) (fun i (a : List UInt8) => a.length ≤ 8 + 24 * i) (by simpa using hs0) (fun i a hi hI => ⟨?_, fun a' h => by
    unfold spec_EncodePipeline_f5 at h
    cases h
    have hI : a.length ≤ 8 + 24 * i := hI
    have e0 : (spec_l01PutUint_v (nth (row A (i : Int)) 0).int (1 : Int)).length ≤ 8 := putLen (sz := 1) (by omega)
    have e1 : (spec_l01PutUint_v (nth (row A (i : Int)) 1).int (1 : Int)).length ≤ 8 := putLen (sz := 1) (by omega)
    have e2 : (spec_l01PutUint_v (spec_l19Flag_v (nth (row A (i : Int)) 2).bool) (1 : Int)).length ≤ 8 := putLen (sz := 1) (by omega)
    show (a ++ _).length ≤ 8 + 24 * (i + 1)
    simp only [List.length_append]
    omega⟩) (fun a hI => ?_)
  · show (spec_EncodePipeline_5_step A a (i : Int)).val = _
    unfold spec_EncodePipeline_5_step spec_EncodePipeline_f5
    have hI : a.length ≤ 8 + 24 * i := hI
    have e0 : (spec_l01PutUint_v (nth (row A (i : Int)) 0).int (1 : Int)).length ≤ 8 := putLen (sz := 1) (by omega)
    have e1 : (spec_l01PutUint_v (nth (row A (i : Int)) 1).int (1 : Int)).length ≤ 8 := putLen (sz := 1) (by omega)
    have e2 : (spec_l01PutUint_v (spec_l19Flag_v (nth (row A (i : Int)) 2).bool) (1 : Int)).length ≤ 8 := putLen (sz := 1) (by omega)
    refine Tr.t (by simp; omega) ?_
    exact (Tr.t (by first | omega | (constructor <;> omega) | (simp only [List.length_append]; omega) | (exact putC (sz := 1) (by omega))) (Tr.t (by first | (simp only [List.length_append]; omega) | (exact putC (sz := 1) (by omega)) | (first | (apply is_true; and_intros <;> (first | rfl | assumption | (apply spec_l01PutUint_cc <;> assumption) | (first | (apply is_true; and_intros <;> (first | rfl | assumption | (apply spec_l01PutUint_cc <;> assumption) | (first | (apply is_true; and_intros <;> (first | rfl | assumption | (apply spec_l01PutUint_cc <;> assumption))) | (apply spec_l01PutUint_cc <;> assumption)))) | (apply spec_l01PutUint_cc <;> assumption)))) | (apply spec_l01PutUint_cc <;> assumption))) (Tr.t (by first | (simp only [List.length_append]; omega) | (exact putC (sz := 1) (by omega)) | (first | (apply is_true; and_intros <;> (first | rfl | assumption | (apply spec_l01PutUint_cc <;> assumption) | (first | (apply is_true; and_intros <;> (first | rfl | assumption | (apply spec_l01PutUint_cc <;> assumption) | (first | (apply is_true; and_intros <;> (first | rfl | assumption | (apply spec_l01PutUint_cc <;> assumption))) | (apply spec_l01PutUint_cc <;> assumption)))) | (apply spec_l01PutUint_cc <;> assumption)))) | (apply spec_l01PutUint_cc <;> assumption))) (Tr.t (by first | omega | (constructor <;> omega) | (simp only [List.length_append]; omega) | (exact putC (sz := 1) (by omega))) (Tr.t (by first | (simp only [List.length_append]; omega) | (exact putC (sz := 1) (by omega)) | (first | (apply is_true; and_intros <;> (first | rfl | assumption | (apply spec_l01PutUint_cc <;> assumption) | (first | (apply is_true; and_intros <;> (first | rfl | assumption | (apply spec_l01PutUint_cc <;> assumption) | (first | (apply is_true; and_intros <;> (first | rfl | assumption | (apply spec_l01PutUint_cc <;> assumption))) | (apply spec_l01PutUint_cc <;> assumption)))) | (apply spec_l01PutUint_cc <;> assumption)))) | (apply spec_l01PutUint_cc <;> assumption))) (Tr.t (by first | omega | (constructor <;> omega) | (simp only [List.length_append]; omega) | (exact putC (sz := 1) (by omega))) (Tr.t (by first | omega | (constructor <;> omega) | (simp only [List.length_append]; omega) | (exact putC (sz := 1) (by omega))) (by rw [Tr.val_ok, wrap64 (i := (i : Int) + 1) (by omega) (by omega)]; rfl))))))))
  · show (spec_EncodePipeline_5_step A a (A.length : Int)).val = _
    refine Tr.n (by first | (simp; done) | (simp; omega) | omega) ?_
    rfl
theorem spec_EncodePipeline_is5 : LoopIs tab FT D9 live 42 spec_EncodePipeline_lo 0 5 := by
  refine loop_told (sl := spec_EncodePipeline_5_sl) (step := spec_EncodePipeline_5_st) (out := spec_EncodePipeline_5_out) (lor := spec_EncodePipeline_lo5) (fin := fun x => (spec_EncodePipeline_5_fin (x.1) (x.2.1) (x.2.2))) (fun _ => rfl) ?_ (fun x n => spec_EncodePipeline_5_r x.1 x.2.1 x.2.2 n) (fun x ow => spec_EncodePipeline_5_h x.1 x.2.1 x.2.2 ow)
  intro s t h
  unfold spec_EncodePipeline_lo5 at h
  split at h
  · cases h; exact ⟨(_, _, _), rfl, rfl⟩
  · cases h
noncomputable def spec_EncodePipeline_t (A : List (List TC)) : Tr (List UInt8) := (.ite ((spec_l19Ok_c A) = true) (.ite ((!(spec_l19Ok_v A)) = true) (.ok ([]))
   (.ite ((spec_l01PutUint_c (A.length : Int) (1 : Int)) = true) (.ite ((spec_EncodePipeline_o5_1 A (spec_l01PutUint_v (A.length : Int) (1 : Int)) (0 : Int)) = true) (.ok (spec_EncodePipeline_u5_1 A (spec_l01PutUint_v (A.length : Int) (1 : Int)) (0 : Int)))
     .no)
    .no))
  .no)
def spec_EncodePipeline_mk (p : List UInt8) : Res := [(false, [⟨.str, .sh, TC.s p⟩])]
noncomputable def spec_EncodePipeline_c (A : List (List TC)) : Bool := ((spec_l19Ok_c A) && (bif (!(spec_l19Ok_v A)) then true else ((spec_l01PutUint_c (A.length : Int) (1 : Int)) && ((spec_EncodePipeline_o5_1 A (spec_l01PutUint_v (A.length : Int) (1 : Int)) (0 : Int)) && true))))
noncomputable def spec_EncodePipeline_v (A : List (List TC)) : List UInt8 := (bif (!(spec_l19Ok_v A)) then [] else (spec_EncodePipeline_u5_1 A (spec_l01PutUint_v (A.length : Int) (1 : Int)) (0 : Int)))
theorem spec_EncodePipeline_l (A : List (List TC)) : (spec_EncodePipeline_c A) = true → (spec_EncodePipeline_t A).val = some (spec_EncodePipeline_v A) := by
  unfold spec_EncodePipeline_t spec_EncodePipeline_v spec_EncodePipeline_c
  exact fun h => (Tr.gb h fun h => (Tr.ss h (fun h => rfl) (fun h => (Tr.gb h fun h => (Tr.gb h fun h => rfl)))))
noncomputable def spec_EncodePipeline_S : List Arg → Option (Bool × Res) := fun xs => match xs with
  | [(false, [(.slice 80, TC.l A)])] => some ((spec_EncodePipeline_c A), spec_EncodePipeline_mk (spec_EncodePipeline_v A))
  | _ => .none
theorem spec_EncodePipeline_e (A : List (List TC)) : runF tab FT D9 live 42 spec_EncodePipeline_lo [(false, [(.slice 80, TC.l A)])] = (spec_EncodePipeline_t A).run fun p => some (spec_EncodePipeline_mk p) := by kernel_rfl
theorem spec_EncodePipeline_s : ∀ xs r, spec_EncodePipeline_S xs = some (true, r) → runF tab FT D9 live 42 spec_EncodePipeline_lo xs = some r := by
  intro xs r h
  unfold spec_EncodePipeline_S at h
  split at h
  · simp only [Option.some.injEq, Prod.mk.injEq] at h
    obtain ⟨h1, rfl⟩ := h
    exact fun_told (spec_EncodePipeline_e _) (spec_EncodePipeline_l _) h1
  · cases h
noncomputable def D10 : Dt := also D9 42 spec_EncodePipeline_S
theorem d10 : DOk Go.Proofs.Try.prog tab D10 := d9.also mixed_ok tab_ok names_ok (fnLoops_one (by kernel_rfl) spec_EncodePipeline_is5) spec_EncodePipeline_s
theorem spec_EncodePipeline_cc {A : List (List TC)} (hA : Typed tab (.slice 80) (.l A)) : (spec_EncodePipeline_c A) = true := by
  unfold spec_EncodePipeline_c
  refine andT (by first | (apply is_true; and_intros <;> (first | rfl | assumption | (apply spec_l01PutUint_cc <;> assumption) | (first | (apply is_true; and_intros <;> (first | rfl | assumption | (apply spec_l01PutUint_cc <;> assumption) | (first | (apply is_true; and_intros <;> (first | rfl | assumption | (apply spec_l01PutUint_cc <;> assumption) | (first | (apply is_true; and_intros <;> (first | rfl | assumption | (apply spec_l01PutUint_cc <;> assumption))) | (apply spec_l01PutUint_cc <;> assumption)))) | (apply spec_l01PutUint_cc <;> assumption)))) | (apply spec_l01PutUint_cc <;> assumption)))) | (apply spec_l01PutUint_cc <;> assumption)) ?_
  refine bifT (fun b1 => ?_) (fun b1 => ?_)
  · skip
    rfl
  · skip
    refine andT (by exact putC (sz := 1) (by omega)) ?_
    refine andT (by exact is_true ⟨rfl, hA, putLen (sz := 1) (by omega), by have h1 := notF b1; rw [spec_l19Ok_vvp] at h1; simp only [Bool.and_eq_true, decide_eq_true_eq] at h1; omega⟩) ?_
    rfl
theorem spec_EncodePipeline_vv (A : List (List TC)) : spec_EncodePipeline_v A = encPipe A := by
  unfold spec_EncodePipeline_v spec_EncodePipeline_u5_1 encPipe
  rw [spec_l19Ok_vvp]
  cases h : (A.all okFilR && decide ((A.length : Int) ≤ 4)) with
  | false => rfl
  | true =>
    simp only [Bool.and_eq_true, decide_eq_true_eq] at h
    show spec_EncodePipeline_R5 A (spec_l01PutUint_v (A.length : Int) 1) 0 = foldI (encStep A) A.length (bytesL (A.length : Int) 1)
    rw [show spec_l01PutUint_v (A.length : Int) 1 = bytesL (A.length : Int) 1 from spec_l01PutUint_at (sz := 1) (by omega) (by omega) (by omega) (by omega)]
    unfold spec_EncodePipeline_R5
    refine iter_each (g := encStep A) (fin := fun a => spec_EncodePipeline_e5 A a) fun j a hj => ?_
    have hr := List.all_eq_true.1 h.1 _ (mem_getD hj)
    obtain ⟨h1, h2⟩ := okFil_b hr
    have h3 : 0 ≤ flagB (nth (row A (j : Int)) 2).bool ∧ flagB (nth (row A (j : Int)) 2).bool < 256 := by unfold flagB; cases (nth (row A (j : Int)) 2).bool <;> simp
    unfold spec_EncodePipeline_f5 encStep
    rw [show spec_l01PutUint_v (nth (row A (j : Int)) 0).int 1 = bytesL (nth (row A (j : Int)) 0).int 1 from spec_l01PutUint_at (sz := 1) (by omega) (by omega) h1.1 h1.2]
    rw [show spec_l01PutUint_v (nth (row A (j : Int)) 1).int 1 = bytesL (nth (row A (j : Int)) 1).int 1 from spec_l01PutUint_at (sz := 1) (by omega) (by omega) h2.1 h2.2]
    rw [show spec_l01PutUint_v (spec_l19Flag_v (nth (row A (j : Int)) 2).bool) 1 = bytesL (flagB (nth (row A (j : Int)) 2).bool) 1 from spec_l01PutUint_at (sz := 1) (by omega) (by omega) h3.1 h3.2]
/-! impl_within -/
noncomputable def impl_within_t (a0 : Int) (a1 : Int) (a2 : Int) : Tr (Bool) := (.ite ((decide (a0 ≥ a1)) = true) (.ok (decide (a0 ≤ a2)))
  (.ok false))
def impl_within_mk (p : Bool) : Res := [(false, [⟨.bool, .sh, TC.b p⟩])]
noncomputable def impl_within_c (a0 : Int) (a1 : Int) (a2 : Int) : Bool := true
noncomputable def impl_within_v (a0 : Int) (a1 : Int) (a2 : Int) : Bool := (bif (decide (a0 ≥ a1)) then (decide (a0 ≤ a2)) else false)
theorem impl_within_l (a0 : Int) (a1 : Int) (a2 : Int) : (impl_within_c a0 a1 a2) = true → (impl_within_t a0 a1 a2).val = some (impl_within_v a0 a1 a2) := by
  intro h
  skip
  unfold impl_within_t impl_within_v
  exact (Tr.s rfl rfl)
noncomputable def impl_within_S : List Arg → Option (Bool × Res) := fun xs => match xs with
  | [(false, [(.int .i64, TC.i a0)]), (false, [(.int .i64, TC.i a1)]), (false, [(.int .i64, TC.i a2)])] => some (true, impl_within_mk (impl_within_v a0 a1 a2))
  | _ => .none
theorem impl_within_e (a0 : Int) (a1 : Int) (a2 : Int) : runF tab FT D10 live 54 noLoops [(false, [(.int .i64, TC.i a0)]), (false, [(.int .i64, TC.i a1)]), (false, [(.int .i64, TC.i a2)])] = (impl_within_t a0 a1 a2).run fun p => some (impl_within_mk p) := by kernel_rfl
theorem impl_within_s : ∀ xs r, impl_within_S xs = some (true, r) → runF tab FT D10 live 54 noLoops xs = some r := by
  intro xs r h
  unfold impl_within_S at h
  split at h
  · simp only [Option.some.injEq, Prod.mk.injEq] at h
    obtain ⟨h1, rfl⟩ := h
    exact fun_told (impl_within_e _ _ _) (impl_within_l _ _ _) rfl
  · cases h
noncomputable def D11 : Dt := also D10 54 impl_within_S
theorem d11 : DOk Go.Proofs.Try.prog tab D11 := d10.also mixed_ok tab_ok names_ok noLoops_ok impl_within_s
/-! impl_isWidth -/
noncomputable def impl_isWidth_t (a0 : Int) : Tr (Bool) := (.ite ((a0 == (1 : Int)) = true) (.ok true)
  (.ite ((a0 == (2 : Int)) = true) (.ok true)
   (.ok (a0 == (4 : Int)))))
def impl_isWidth_mk (p : Bool) : Res := [(false, [⟨.bool, .sh, TC.b p⟩])]
noncomputable def impl_isWidth_c (a0 : Int) : Bool := true
noncomputable def impl_isWidth_v (a0 : Int) : Bool := (bif (a0 == (1 : Int)) then true else (bif (a0 == (2 : Int)) then true else (a0 == (4 : Int))))
theorem impl_isWidth_l (a0 : Int) : (impl_isWidth_c a0) = true → (impl_isWidth_t a0).val = some (impl_isWidth_v a0) := by
  intro h
  skip
  unfold impl_isWidth_t impl_isWidth_v
  exact (Tr.s rfl (Tr.s rfl rfl))
noncomputable def impl_isWidth_S : List Arg → Option (Bool × Res) := fun xs => match xs with
  | [(false, [(.int .i64, TC.i a0)])] => some (true, impl_isWidth_mk (impl_isWidth_v a0))
  | _ => .none
theorem impl_isWidth_e (a0 : Int) : runF tab FT D11 live 137 noLoops [(false, [(.int .i64, TC.i a0)])] = (impl_isWidth_t a0).run fun p => some (impl_isWidth_mk p) := by kernel_rfl
theorem impl_isWidth_s : ∀ xs r, impl_isWidth_S xs = some (true, r) → runF tab FT D11 live 137 noLoops xs = some r := by
  intro xs r h
  unfold impl_isWidth_S at h
  split at h
  · simp only [Option.some.injEq, Prod.mk.injEq] at h
    obtain ⟨h1, rfl⟩ := h
    exact fun_told (impl_isWidth_e _) (impl_isWidth_l _) rfl
  · cases h
noncomputable def D12 : Dt := also D11 137 impl_isWidth_S
theorem d12 : DOk Go.Proofs.Try.prog tab D12 := d11.also mixed_ok tab_ok names_ok noLoops_ok impl_isWidth_s
/-! impl_ValidFilter -/
noncomputable def impl_ValidFilter_t (k : Int) (p : Int) (o : Bool) : Tr (Bool) := (.ite ((k == (1 : Int)) = true) (.ite ((impl_within_v p (1 : Int) (24 : Int)) = true) (.ok (!o))
   (.ok false))
  (.ite ((k == (2 : Int)) = true) (.ite ((impl_isWidth_v p) = true) (.ok (!o))
    (.ok false))
   (.ite ((k == (3 : Int)) = true) (.ok (p == (0 : Int)))
    (.ite ((k == (4 : Int)) = true) (.ok (p == (0 : Int)))
     (.ite ((k == (5 : Int)) = true) (.ite ((p == (0 : Int)) = true) (.ok (!o))
       (.ok false))
      (.ok false))))))
def impl_ValidFilter_mk (p : Bool) : Res := [(false, [⟨.bool, .sh, TC.b p⟩])]
noncomputable def impl_ValidFilter_c (k : Int) (p : Int) (o : Bool) : Bool := true
noncomputable def impl_ValidFilter_v (k : Int) (p : Int) (o : Bool) : Bool := okFil k p o
theorem impl_ValidFilter_l (k : Int) (p : Int) (o : Bool) : (impl_ValidFilter_c k p o) = true → (impl_ValidFilter_t k p o).val = some (impl_ValidFilter_v k p o) := by
  intro _
  unfold impl_ValidFilter_t
  simp only [Tr.val_br, Tr.val_ok]
  simp only [ite_bif, somebif]
  refine congrArg some ?_
  unfold impl_ValidFilter_v
  unfold okFil
  simp only [impl_within_v, impl_isWidth_v]
  generalize (k == 1) = p0, (k == 2) = p1, (k == 3) = p2, (k == 4) = p3, (k == 5) = p4, (p == 0) = p5, decide (p ≥ 1) = p6, decide (p ≤ 24) = p7, (p == 1) = p8, (p == 2) = p9, (p == 4) = p10, o = p11
  revert p0 p1 p2 p3 p4 p5 p6 p7 p8 p9 p10 p11
  decide
noncomputable def impl_ValidFilter_S : List Arg → Option (Bool × Res) := fun xs => match xs with
  | [(true, [(.int .i64, TC.i k), (.int .i64, TC.i p), (.bool, TC.b o)])] => some (true, impl_ValidFilter_mk (impl_ValidFilter_v k p o))
  | _ => .none
theorem impl_ValidFilter_e (k : Int) (p : Int) (o : Bool) : runF tab FT D12 live 105 noLoops [(true, [(.int .i64, TC.i k), (.int .i64, TC.i p), (.bool, TC.b o)])] = (impl_ValidFilter_t k p o).run fun p => some (impl_ValidFilter_mk p) := by kernel_rfl
theorem impl_ValidFilter_s : ∀ xs r, impl_ValidFilter_S xs = some (true, r) → runF tab FT D12 live 105 noLoops xs = some r := by
  intro xs r h
  unfold impl_ValidFilter_S at h
  split at h
  · simp only [Option.some.injEq, Prod.mk.injEq] at h
    obtain ⟨h1, rfl⟩ := h
    exact fun_told (impl_ValidFilter_e _ _ _) (impl_ValidFilter_l _ _ _) rfl
  · cases h
noncomputable def D13 : Dt := also D12 105 impl_ValidFilter_S
theorem d13 : DOk Go.Proofs.Try.prog tab D13 := d12.also mixed_ok tab_ok names_ok noLoops_ok impl_ValidFilter_s
/-! impl_ValidPipeline_1 -/
noncomputable def impl_ValidPipeline_1_t (a0 : Int) (a1 : Int) (a2 : Bool) : Tr (Bool) := .ok (!(impl_ValidFilter_v a0 a1 a2))
def impl_ValidPipeline_1_mk (p : Bool) : Res := [(false, [⟨.bool, .sh, TC.b p⟩])]
noncomputable def impl_ValidPipeline_1_c (a0 : Int) (a1 : Int) (a2 : Bool) : Bool := true
noncomputable def impl_ValidPipeline_1_v (a0 : Int) (a1 : Int) (a2 : Bool) : Bool := (!(impl_ValidFilter_v a0 a1 a2))
theorem impl_ValidPipeline_1_l (a0 : Int) (a1 : Int) (a2 : Bool) : (impl_ValidPipeline_1_c a0 a1 a2) = true → (impl_ValidPipeline_1_t a0 a1 a2).val = some (impl_ValidPipeline_1_v a0 a1 a2) := by
  intro h
  skip
  unfold impl_ValidPipeline_1_t impl_ValidPipeline_1_v
  exact rfl
noncomputable def impl_ValidPipeline_1_S : List Arg → Option (Bool × Res) := fun xs => match xs with
  | [(true, [(.int .i64, TC.i a0), (.int .i64, TC.i a1), (.bool, TC.b a2)])] => some (true, impl_ValidPipeline_1_mk (impl_ValidPipeline_1_v a0 a1 a2))
  | _ => .none
theorem impl_ValidPipeline_1_e (a0 : Int) (a1 : Int) (a2 : Bool) : runF tab FT D13 live 104 noLoops [(true, [(.int .i64, TC.i a0), (.int .i64, TC.i a1), (.bool, TC.b a2)])] = (impl_ValidPipeline_1_t a0 a1 a2).run fun p => some (impl_ValidPipeline_1_mk p) := by kernel_rfl
theorem impl_ValidPipeline_1_s : ∀ xs r, impl_ValidPipeline_1_S xs = some (true, r) → runF tab FT D13 live 104 noLoops xs = some r := by
  intro xs r h
  unfold impl_ValidPipeline_1_S at h
  split at h
  · simp only [Option.some.injEq, Prod.mk.injEq] at h
    obtain ⟨h1, rfl⟩ := h
    exact fun_told (impl_ValidPipeline_1_e _ _ _) (impl_ValidPipeline_1_l _ _ _) rfl
  · cases h
noncomputable def D14 : Dt := also D13 104 impl_ValidPipeline_1_S
theorem d14 : DOk Go.Proofs.Try.prog tab D14 := d13.also mixed_ok tab_ok names_ok noLoops_ok impl_ValidPipeline_1_s
/-! slices_IndexFunc_impl_Filter_impl_Filter -/
abbrev slices_IndexFunc_impl_Filter_impl_Filter_2_σ := List (List TC) × Int × Int
abbrev slices_IndexFunc_impl_Filter_impl_Filter_2_ω := (Int) ⊕ (Unit)
noncomputable def slices_IndexFunc_impl_Filter_impl_Filter_2_step (A : List (List TC)) (m : Int) (i : Int) : Tr (slices_IndexFunc_impl_Filter_impl_Filter_2_σ ⊕ slices_IndexFunc_impl_Filter_impl_Filter_2_ω) := (.ite ((decide (i < m)) = true) (.ite ((0 : Int) ≤ i ∧ i < (A.length : Int)) (.ite ((!(impl_ValidFilter_v ((nth (row A i) 0).int) ((nth (row A i) 1).int) ((nth (row A i) 2).bool))) = true) (.ok (.inr (.inl i)))
    (.ok (.inl (A, m, (IntKind.wrap .i64 (i + (1 : Int)))))))
   .no)
  (.ok (.inr (.inr ()))))
noncomputable def slices_IndexFunc_impl_Filter_impl_Filter_2_st : slices_IndexFunc_impl_Filter_impl_Filter_2_σ → Tr (slices_IndexFunc_impl_Filter_impl_Filter_2_σ ⊕ slices_IndexFunc_impl_Filter_impl_Filter_2_ω) := fun x => (slices_IndexFunc_impl_Filter_impl_Filter_2_step (x.1) (x.2.1) (x.2.2))
noncomputable def slices_IndexFunc_impl_Filter_impl_Filter_k2_1 (A : List (List TC)) (m : Int) (i : Int) : Bool := A.all okFilR
noncomputable def slices_IndexFunc_impl_Filter_impl_Filter_o2_2 (A : List (List TC)) (m : Int) (i : Int) : Bool := is (i = 0 ∧ Typed tab (.slice 80) (.l A) ∧ m = (A.length : Int))
noncomputable def slices_IndexFunc_impl_Filter_impl_Filter_o2_3 (A : List (List TC)) (m : Int) (i : Int) : Bool := is (i = 0 ∧ Typed tab (.slice 80) (.l A) ∧ m = (A.length : Int))
noncomputable def slices_IndexFunc_impl_Filter_impl_Filter_u2_3 (A : List (List TC)) (m : Int) (i : Int) : Int := (Int.ofNat (A.findIdx fun x => !okFilR x))
noncomputable def slices_IndexFunc_impl_Filter_impl_Filter_2_fin (A : List (List TC)) (m : Int) (i : Int) : Told slices_IndexFunc_impl_Filter_impl_Filter_2_ω := (.br (slices_IndexFunc_impl_Filter_impl_Filter_k2_1 A m i) (.leaf (slices_IndexFunc_impl_Filter_impl_Filter_o2_2 A m i) (.inr ())) (.leaf (slices_IndexFunc_impl_Filter_impl_Filter_o2_3 A m i) (.inl (slices_IndexFunc_impl_Filter_impl_Filter_u2_3 A m i))))
def slices_IndexFunc_impl_Filter_impl_Filter_2_sl (x : slices_IndexFunc_impl_Filter_impl_Filter_2_σ) : List Slot := [⟨.val false [⟨.slice 80, .sh, TC.l (x.1)⟩], ⟨0, 0⟩⟩, ⟨.val false [⟨.func, .sh, TC.f 104 []⟩], ⟨0, 0⟩⟩, ⟨.val false [⟨.int .i64, .sh, TC.i (x.2.1)⟩], ⟨0, 0⟩⟩, ⟨.val false [⟨.int .i64, .sh, TC.i (x.2.2)⟩], ⟨0, 0⟩⟩]
def slices_IndexFunc_impl_Filter_impl_Filter_2_out : slices_IndexFunc_impl_Filter_impl_Filter_2_ω → Ex × List Slot := (Sum.elim (fun x => (.ret, [⟨.val false [⟨.int .i64, .sh, TC.i x⟩], ⟨0, 0⟩⟩])) (fun x => (.exit 0, [Slot.none])))
noncomputable def slices_IndexFunc_impl_Filter_impl_Filter_lo2 : List Slot → Option (Told (Ex × List Slot)) := fun s => match s with
  | [⟨.val false [⟨.slice 80, .sh, TC.l A⟩], ⟨0, 0⟩⟩, ⟨.val false [⟨.func, .sh, TC.f 104 []⟩], ⟨0, 0⟩⟩, ⟨.val false [⟨.int .i64, .sh, TC.i m⟩], ⟨0, 0⟩⟩, ⟨.val false [⟨.int .i64, .sh, TC.i i⟩], ⟨0, 0⟩⟩] => some (((slices_IndexFunc_impl_Filter_impl_Filter_2_fin A m i)).map slices_IndexFunc_impl_Filter_impl_Filter_2_out)
  | _ => .none
noncomputable def slices_IndexFunc_impl_Filter_impl_Filter_lo : LoopTeller := fun r s => bif Nat.beq r 2 then slices_IndexFunc_impl_Filter_impl_Filter_lo2 s else .none
theorem slices_IndexFunc_impl_Filter_impl_Filter_2_r (A : List (List TC)) (m : Int) (i : Int) (fuel : Nat) : rounds (rnd tab FT D14 live 136 slices_IndexFunc_impl_Filter_impl_Filter_lo 0 2) leave (fuel + 1) (slices_IndexFunc_impl_Filter_impl_Filter_2_sl (A, m, i)) = ((slices_IndexFunc_impl_Filter_impl_Filter_2_step A m i)).run (goOn (fun s => rounds (rnd tab FT D14 live 136 slices_IndexFunc_impl_Filter_impl_Filter_lo 0 2) leave fuel (slices_IndexFunc_impl_Filter_impl_Filter_2_sl s)) fun w => some (slices_IndexFunc_impl_Filter_impl_Filter_2_out w)) := by kernel_rfl
theorem slices_IndexFunc_impl_Filter_impl_Filter_2_h (A : List (List TC)) (m : Int) (i : Int) (ow : slices_IndexFunc_impl_Filter_impl_Filter_2_ω) : ((slices_IndexFunc_impl_Filter_impl_Filter_2_fin A m i)).val = some ow → ∃ fuel, loopN slices_IndexFunc_impl_Filter_impl_Filter_2_st fuel (A, m, i) = some ow := by
  intro h
  have key : Typed tab (.slice 80) (.l A) → loopN slices_IndexFunc_impl_Filter_impl_Filter_2_st (A.length + 1) (A, (A.length : Int), (0 : Int)) = some (if A.all okFilR = true then (.inr ()) else (.inl (Int.ofNat (A.findIdx fun x => !okFilR x)))) := by
    intro ht
    have hlen : A.length ≤ 140737488351232 := by have := typed_room ht; simp only [show (tab 80).bytes = 24 from rfl] at this; omega
    have key := loopN_scan (step := slices_IndexFunc_impl_Filter_impl_Filter_2_st) A [] okFilR (fun a _ => a) (fun i a => (A, (A.length : Int), (i : Int))) (fun a => (.inr ())) (fun i a => (.inl (i : Int))) (fun i a hi => ?_) (fun a => ?_) A.length 0 () (by omega)
    · first | (rw [Nat.zero_add] at key; exact key) | exact key
    · skip
      show (slices_IndexFunc_impl_Filter_impl_Filter_2_step A (A.length : Int) (i : Int)).val = _
      unfold slices_IndexFunc_impl_Filter_impl_Filter_2_step
      refine Tr.t (by simp; omega) ?_
      skip
      refine Tr.t (by first | omega | (constructor <;> omega)) ?_
      refine Tr.b (P := okFilR (A.getD i [])) (fun hP => ?_) (fun _ => rfl)
      rw [Tr.val_ok, wrap64 (i := (i : Int) + 1) (by omega) (by omega)]; rfl
    · show (slices_IndexFunc_impl_Filter_impl_Filter_2_step A (A.length : Int) (A.length : Int)).val = _
      refine Tr.n (by simp) ?_
      rfl
  simp only [slices_IndexFunc_impl_Filter_impl_Filter_2_fin, Told.val] at h
  cases hk : A.all okFilR with
  | true =>
    rw [if_pos (show slices_IndexFunc_impl_Filter_impl_Filter_k2_1 A m i = true from hk)] at h
    split at h
    · rename_i ho
      obtain ⟨rfl, ht, rfl⟩ := is_iff.1 ho
      cases h
      refine ⟨_, (key ht).trans ?_⟩
      rw [hk]; rfl
    · cases h
  | false =>
    rw [if_neg (show ¬slices_IndexFunc_impl_Filter_impl_Filter_k2_1 A m i = true from by rw [show slices_IndexFunc_impl_Filter_impl_Filter_k2_1 A m i = (A.all okFilR) from rfl, hk]; simp)] at h
    split at h
    · rename_i ho
      obtain ⟨rfl, ht, rfl⟩ := is_iff.1 ho
      cases h
      refine ⟨_, (key ht).trans ?_⟩
      rw [hk]; rfl
    · cases h
theorem slices_IndexFunc_impl_Filter_impl_Filter_is2 : LoopIs tab FT D14 live 136 slices_IndexFunc_impl_Filter_impl_Filter_lo 0 2 := by
  refine loop_told (sl := slices_IndexFunc_impl_Filter_impl_Filter_2_sl) (step := slices_IndexFunc_impl_Filter_impl_Filter_2_st) (out := slices_IndexFunc_impl_Filter_impl_Filter_2_out) (lor := slices_IndexFunc_impl_Filter_impl_Filter_lo2) (fin := fun x => (slices_IndexFunc_impl_Filter_impl_Filter_2_fin (x.1) (x.2.1) (x.2.2))) (fun _ => rfl) ?_ (fun x n => slices_IndexFunc_impl_Filter_impl_Filter_2_r x.1 x.2.1 x.2.2 n) (fun x ow => slices_IndexFunc_impl_Filter_impl_Filter_2_h x.1 x.2.1 x.2.2 ow)
  intro s t h
  unfold slices_IndexFunc_impl_Filter_impl_Filter_lo2 at h
  split at h
  · cases h; exact ⟨(_, _, _), rfl, rfl⟩
  · cases h
noncomputable def slices_IndexFunc_impl_Filter_impl_Filter_t (A : List (List TC)) : Tr (Int) := (.ite ((slices_IndexFunc_impl_Filter_impl_Filter_k2_1 A (A.length : Int) (0 : Int)) = true) (.ite ((slices_IndexFunc_impl_Filter_impl_Filter_o2_2 A (A.length : Int) (0 : Int)) = true) (.ok (-1 : Int))
   .no)
  (.ite ((slices_IndexFunc_impl_Filter_impl_Filter_o2_3 A (A.length : Int) (0 : Int)) = true) (.ok (slices_IndexFunc_impl_Filter_impl_Filter_u2_3 A (A.length : Int) (0 : Int)))
   .no))
def slices_IndexFunc_impl_Filter_impl_Filter_mk (p : Int) : Res := [(false, [⟨.int .i64, .sh, TC.i p⟩])]
noncomputable def slices_IndexFunc_impl_Filter_impl_Filter_c (A : List (List TC)) : Bool := is (Typed tab (.slice 80) (.l A))
noncomputable def slices_IndexFunc_impl_Filter_impl_Filter_v (A : List (List TC)) : Int := if (A.all okFilR) = true then -1 else (Int.ofNat (A.findIdx fun x => !okFilR x))
theorem slices_IndexFunc_impl_Filter_impl_Filter_l (A : List (List TC)) : (slices_IndexFunc_impl_Filter_impl_Filter_c A) = true → (slices_IndexFunc_impl_Filter_impl_Filter_t A).val = some (slices_IndexFunc_impl_Filter_impl_Filter_v A) := by
  intro h
  have ht := is_iff.1 h
  unfold slices_IndexFunc_impl_Filter_impl_Filter_t
  cases hk : A.all okFilR with
  | true =>
    refine Tr.t (show A.all okFilR = true from hk) ?_
    refine Tr.t (by first | (apply is_true; and_intros <;> (first | rfl | assumption | (apply spec_l01PutUint_cc <;> assumption) | (apply spec_EncodePipeline_cc <;> assumption) | (first | (apply is_true; and_intros <;> (first | rfl | assumption | (apply spec_l01PutUint_cc <;> assumption) | (apply spec_EncodePipeline_cc <;> assumption) | (first | (apply is_true; and_intros <;> (first | rfl | assumption | (apply spec_l01PutUint_cc <;> assumption) | (apply spec_EncodePipeline_cc <;> assumption) | (first | (apply is_true; and_intros <;> (first | rfl | assumption | (apply spec_l01PutUint_cc <;> assumption) | (apply spec_EncodePipeline_cc <;> assumption))) | (apply spec_l01PutUint_cc <;> assumption) | (apply spec_EncodePipeline_cc <;> assumption)))) | (apply spec_l01PutUint_cc <;> assumption) | (apply spec_EncodePipeline_cc <;> assumption)))) | (apply spec_l01PutUint_cc <;> assumption) | (apply spec_EncodePipeline_cc <;> assumption)))) | (apply spec_l01PutUint_cc <;> assumption) | (apply spec_EncodePipeline_cc <;> assumption)) ?_
    show _ = some (slices_IndexFunc_impl_Filter_impl_Filter_v A ); unfold slices_IndexFunc_impl_Filter_impl_Filter_v; rw [if_pos hk]; rfl
  | false =>
    refine Tr.n (show ¬A.all okFilR = true from by rw [hk]; simp) ?_
    refine Tr.t (by first | (apply is_true; and_intros <;> (first | rfl | assumption | (apply spec_l01PutUint_cc <;> assumption) | (apply spec_EncodePipeline_cc <;> assumption) | (first | (apply is_true; and_intros <;> (first | rfl | assumption | (apply spec_l01PutUint_cc <;> assumption) | (apply spec_EncodePipeline_cc <;> assumption) | (first | (apply is_true; and_intros <;> (first | rfl | assumption | (apply spec_l01PutUint_cc <;> assumption) | (apply spec_EncodePipeline_cc <;> assumption) | (first | (apply is_true; and_intros <;> (first | rfl | assumption | (apply spec_l01PutUint_cc <;> assumption) | (apply spec_EncodePipeline_cc <;> assumption))) | (apply spec_l01PutUint_cc <;> assumption) | (apply spec_EncodePipeline_cc <;> assumption)))) | (apply spec_l01PutUint_cc <;> assumption) | (apply spec_EncodePipeline_cc <;> assumption)))) | (apply spec_l01PutUint_cc <;> assumption) | (apply spec_EncodePipeline_cc <;> assumption)))) | (apply spec_l01PutUint_cc <;> assumption) | (apply spec_EncodePipeline_cc <;> assumption)) ?_
    show _ = some (slices_IndexFunc_impl_Filter_impl_Filter_v A ); unfold slices_IndexFunc_impl_Filter_impl_Filter_v; rw [if_neg (by rw [hk]; simp)]; rfl
noncomputable def slices_IndexFunc_impl_Filter_impl_Filter_S : List Arg → Option (Bool × Res) := fun xs => match xs with
  | [(false, [(.slice 80, TC.l A)]), (false, [(.func, TC.f 104 [])])] => some ((slices_IndexFunc_impl_Filter_impl_Filter_c A), slices_IndexFunc_impl_Filter_impl_Filter_mk (slices_IndexFunc_impl_Filter_impl_Filter_v A))
  | _ => .none
theorem slices_IndexFunc_impl_Filter_impl_Filter_e (A : List (List TC)) : runF tab FT D14 live 136 slices_IndexFunc_impl_Filter_impl_Filter_lo [(false, [(.slice 80, TC.l A)]), (false, [(.func, TC.f 104 [])])] = (slices_IndexFunc_impl_Filter_impl_Filter_t A).run fun p => some (slices_IndexFunc_impl_Filter_impl_Filter_mk p) := by kernel_rfl
theorem slices_IndexFunc_impl_Filter_impl_Filter_s : ∀ xs r, slices_IndexFunc_impl_Filter_impl_Filter_S xs = some (true, r) → runF tab FT D14 live 136 slices_IndexFunc_impl_Filter_impl_Filter_lo xs = some r := by
  intro xs r h
  unfold slices_IndexFunc_impl_Filter_impl_Filter_S at h
  split at h
  · simp only [Option.some.injEq, Prod.mk.injEq] at h
    obtain ⟨h1, rfl⟩ := h
    exact fun_told (slices_IndexFunc_impl_Filter_impl_Filter_e _) (slices_IndexFunc_impl_Filter_impl_Filter_l _) h1
  · cases h
noncomputable def D15 : Dt := also D14 136 slices_IndexFunc_impl_Filter_impl_Filter_S
theorem d15 : DOk Go.Proofs.Try.prog tab D15 := d14.also mixed_ok tab_ok names_ok (fnLoops_one (by kernel_rfl) slices_IndexFunc_impl_Filter_impl_Filter_is2) slices_IndexFunc_impl_Filter_impl_Filter_s
/-! slices_ContainsFunc_impl_Filter_impl_Filter -/
noncomputable def slices_ContainsFunc_impl_Filter_impl_Filter_t (A : List (List TC)) : Tr (Bool) := (.ite ((slices_IndexFunc_impl_Filter_impl_Filter_c A) = true) (.ok (decide ((slices_IndexFunc_impl_Filter_impl_Filter_v A) ≥ (0 : Int))))
  .no)
def slices_ContainsFunc_impl_Filter_impl_Filter_mk (p : Bool) : Res := [(false, [⟨.bool, .sh, TC.b p⟩])]
noncomputable def slices_ContainsFunc_impl_Filter_impl_Filter_c (A : List (List TC)) : Bool := is (Typed tab (.slice 80) (.l A))
noncomputable def slices_ContainsFunc_impl_Filter_impl_Filter_v (A : List (List TC)) : Bool := !(A.all okFilR)
theorem slices_ContainsFunc_impl_Filter_impl_Filter_l (A : List (List TC)) : (slices_ContainsFunc_impl_Filter_impl_Filter_c A) = true → (slices_ContainsFunc_impl_Filter_impl_Filter_t A).val = some (slices_ContainsFunc_impl_Filter_impl_Filter_v A) := by
  intro h
  have ht := is_iff.1 h
  unfold slices_ContainsFunc_impl_Filter_impl_Filter_t
  refine Tr.t (by first | (apply is_true; and_intros <;> (first | rfl | assumption | (apply spec_l01PutUint_cc <;> assumption) | (apply spec_EncodePipeline_cc <;> assumption) | (first | (apply is_true; and_intros <;> (first | rfl | assumption | (apply spec_l01PutUint_cc <;> assumption) | (apply spec_EncodePipeline_cc <;> assumption) | (first | (apply is_true; and_intros <;> (first | rfl | assumption | (apply spec_l01PutUint_cc <;> assumption) | (apply spec_EncodePipeline_cc <;> assumption) | (first | (apply is_true; and_intros <;> (first | rfl | assumption | (apply spec_l01PutUint_cc <;> assumption) | (apply spec_EncodePipeline_cc <;> assumption))) | (apply spec_l01PutUint_cc <;> assumption) | (apply spec_EncodePipeline_cc <;> assumption)))) | (apply spec_l01PutUint_cc <;> assumption) | (apply spec_EncodePipeline_cc <;> assumption)))) | (apply spec_l01PutUint_cc <;> assumption) | (apply spec_EncodePipeline_cc <;> assumption)))) | (apply spec_l01PutUint_cc <;> assumption) | (apply spec_EncodePipeline_cc <;> assumption)) ?_
  show some (decide (slices_IndexFunc_impl_Filter_impl_Filter_v A  ≥ 0)) = some (!(A.all okFilR))
  unfold slices_IndexFunc_impl_Filter_impl_Filter_v
  cases hk : A.all okFilR <;> simp
noncomputable def slices_ContainsFunc_impl_Filter_impl_Filter_S : List Arg → Option (Bool × Res) := fun xs => match xs with
  | [(false, [(.slice 80, TC.l A)]), (false, [(.func, TC.f 104 [])])] => some ((slices_ContainsFunc_impl_Filter_impl_Filter_c A), slices_ContainsFunc_impl_Filter_impl_Filter_mk (slices_ContainsFunc_impl_Filter_impl_Filter_v A))
  | _ => .none
theorem slices_ContainsFunc_impl_Filter_impl_Filter_e (A : List (List TC)) : runF tab FT D15 live 103 noLoops [(false, [(.slice 80, TC.l A)]), (false, [(.func, TC.f 104 [])])] = (slices_ContainsFunc_impl_Filter_impl_Filter_t A).run fun p => some (slices_ContainsFunc_impl_Filter_impl_Filter_mk p) := by kernel_rfl
theorem slices_ContainsFunc_impl_Filter_impl_Filter_s : ∀ xs r, slices_ContainsFunc_impl_Filter_impl_Filter_S xs = some (true, r) → runF tab FT D15 live 103 noLoops xs = some r := by
  intro xs r h
  unfold slices_ContainsFunc_impl_Filter_impl_Filter_S at h
  split at h
  · simp only [Option.some.injEq, Prod.mk.injEq] at h
    obtain ⟨h1, rfl⟩ := h
    exact fun_told (slices_ContainsFunc_impl_Filter_impl_Filter_e _) (slices_ContainsFunc_impl_Filter_impl_Filter_l _) h1
  · cases h
noncomputable def D16 : Dt := also D15 103 slices_ContainsFunc_impl_Filter_impl_Filter_S
theorem d16 : DOk Go.Proofs.Try.prog tab D16 := d15.also mixed_ok tab_ok names_ok noLoops_ok slices_ContainsFunc_impl_Filter_impl_Filter_s
/-! impl_ValidPipeline -/
noncomputable def impl_ValidPipeline_t (A : List (List TC)) : Tr (Bool) := (.ite ((decide ((A.length : Int) ≤ (4 : Int))) = true) (.ite ((slices_ContainsFunc_impl_Filter_impl_Filter_c A) = true) (.ok (!(slices_ContainsFunc_impl_Filter_impl_Filter_v A)))
   .no)
  (.ok false))
def impl_ValidPipeline_mk (p : Bool) : Res := [(false, [⟨.bool, .sh, TC.b p⟩])]
noncomputable def impl_ValidPipeline_c (A : List (List TC)) : Bool := is (Typed tab (.slice 80) (.l A))
noncomputable def impl_ValidPipeline_v (A : List (List TC)) : Bool := A.all okFilR && decide ((A.length : Int) ≤ 4)
theorem impl_ValidPipeline_l (A : List (List TC)) : (impl_ValidPipeline_c A) = true → (impl_ValidPipeline_t A).val = some (impl_ValidPipeline_v A) := by
  intro h
  have ht := is_iff.1 h
  unfold impl_ValidPipeline_t
  rw [Tr.val_br]
  split
  · rename_i h4
    refine Tr.t (by first | (apply is_true; and_intros <;> (first | rfl | assumption | (apply spec_l01PutUint_cc <;> assumption) | (apply spec_EncodePipeline_cc <;> assumption) | (first | (apply is_true; and_intros <;> (first | rfl | assumption | (apply spec_l01PutUint_cc <;> assumption) | (apply spec_EncodePipeline_cc <;> assumption) | (first | (apply is_true; and_intros <;> (first | rfl | assumption | (apply spec_l01PutUint_cc <;> assumption) | (apply spec_EncodePipeline_cc <;> assumption) | (first | (apply is_true; and_intros <;> (first | rfl | assumption | (apply spec_l01PutUint_cc <;> assumption) | (apply spec_EncodePipeline_cc <;> assumption))) | (apply spec_l01PutUint_cc <;> assumption) | (apply spec_EncodePipeline_cc <;> assumption)))) | (apply spec_l01PutUint_cc <;> assumption) | (apply spec_EncodePipeline_cc <;> assumption)))) | (apply spec_l01PutUint_cc <;> assumption) | (apply spec_EncodePipeline_cc <;> assumption)))) | (apply spec_l01PutUint_cc <;> assumption) | (apply spec_EncodePipeline_cc <;> assumption)) ?_
    show some (!!(A.all okFilR)) = some (A.all okFilR && decide ((A.length : Int) ≤ 4))
    rw [h4]; simp
  · rename_i h4
    show some false = some (A.all okFilR && decide ((A.length : Int) ≤ 4))
    rw [show decide ((A.length : Int) ≤ 4) = false from by simpa using h4]; simp
noncomputable def impl_ValidPipeline_S : List Arg → Option (Bool × Res) := fun xs => match xs with
  | [(false, [(.slice 80, TC.l A)])] => some ((impl_ValidPipeline_c A), impl_ValidPipeline_mk (impl_ValidPipeline_v A))
  | _ => .none
theorem impl_ValidPipeline_e (A : List (List TC)) : runF tab FT D16 live 60 noLoops [(false, [(.slice 80, TC.l A)])] = (impl_ValidPipeline_t A).run fun p => some (impl_ValidPipeline_mk p) := by kernel_rfl
theorem impl_ValidPipeline_s : ∀ xs r, impl_ValidPipeline_S xs = some (true, r) → runF tab FT D16 live 60 noLoops xs = some r := by
  intro xs r h
  unfold impl_ValidPipeline_S at h
  split at h
  · simp only [Option.some.injEq, Prod.mk.injEq] at h
    obtain ⟨h1, rfl⟩ := h
    exact fun_told (impl_ValidPipeline_e _) (impl_ValidPipeline_l _) h1
  · cases h
noncomputable def D17 : Dt := also D16 60 impl_ValidPipeline_S
theorem d17 : DOk Go.Proofs.Try.prog tab D17 := d16.also mixed_ok tab_ok names_ok noLoops_ok impl_ValidPipeline_s
/-! impl_putBytes -/
abbrev impl_putBytes_3_σ := Int × List (List TC) × Int × Int
abbrev impl_putBytes_3_ω := (List (List TC))
noncomputable def impl_putBytes_3_step (n : Int) (X : List (List TC)) (m : Int) (k : Int) : Tr (impl_putBytes_3_σ ⊕ impl_putBytes_3_ω) := (.ite ((decide (k < m)) = true) (.ite (0 ≤ (IntKind.wrap .i64 ((8 : Int) * k))) (.ite ((0 : Int) ≤ k ∧ k < (X.length : Int)) (.ok (.inl (n, (X.set (k).toNat (splice (row X k) 0 [TC.i (IntKind.wrap .u8 (Int.fdiv n (2 ^ (min ((IntKind.wrap .i64 ((8 : Int) * k))).toNat 64))))])), m, (IntKind.wrap .i64 (k + (1 : Int))))))
    .no)
   .no)
  (.ok (.inr X)))
noncomputable def impl_putBytes_3_st : impl_putBytes_3_σ → Tr (impl_putBytes_3_σ ⊕ impl_putBytes_3_ω) := fun x => (impl_putBytes_3_step (x.1) (x.2.1) (x.2.2.1) (x.2.2.2))
noncomputable def impl_putBytes_o3_1 (n : Int) (X : List (List TC)) (m : Int) (k : Int) : Bool := is (∃ sz : Nat, m = (sz : Int) ∧ sz ≤ 8 ∧ X = List.replicate sz [TC.i 0] ∧ k = 0)
noncomputable def impl_putBytes_u3_1 (n : Int) (X : List (List TC)) (m : Int) (k : Int) : List (List TC) := bRows n m.toNat
noncomputable def impl_putBytes_3_fin (n : Int) (X : List (List TC)) (m : Int) (k : Int) : Told impl_putBytes_3_ω := (.leaf (impl_putBytes_o3_1 n X m k) (impl_putBytes_u3_1 n X m k))
def impl_putBytes_3_sl (x : impl_putBytes_3_σ) : List Slot := [⟨.val false [⟨.int .i64, .sh, TC.i (x.1)⟩], ⟨0, 0⟩⟩, ⟨.val false [⟨.slice 5, .own true, TC.l (x.2.1)⟩], ⟨0, 0⟩⟩, ⟨.val false [⟨.int .i64, .sh, TC.i (x.2.2.1)⟩], ⟨0, 0⟩⟩, ⟨.val false [⟨.int .i64, .sh, TC.i (x.2.2.2)⟩], ⟨0, 0⟩⟩]
def impl_putBytes_3_out : impl_putBytes_3_ω → Ex × List Slot := (fun x => (.exit 0, [Slot.none, ⟨.val false [⟨.slice 5, .own true, TC.l x⟩], ⟨0, 0⟩⟩]))
noncomputable def impl_putBytes_lo3 : List Slot → Option (Told (Ex × List Slot)) := fun s => match s with
  | [⟨.val false [⟨.int .i64, .sh, TC.i n⟩], ⟨0, 0⟩⟩, ⟨.val false [⟨.slice 5, .own true, TC.l X⟩], ⟨0, 0⟩⟩, ⟨.val false [⟨.int .i64, .sh, TC.i m⟩], ⟨0, 0⟩⟩, ⟨.val false [⟨.int .i64, .sh, TC.i k⟩], ⟨0, 0⟩⟩] => some (((impl_putBytes_3_fin n X m k)).map impl_putBytes_3_out)
  | _ => .none
noncomputable def impl_putBytes_lo : LoopTeller := fun r s => bif Nat.beq r 3 then impl_putBytes_lo3 s else .none
theorem impl_putBytes_3_r (n : Int) (X : List (List TC)) (m : Int) (k : Int) (fuel : Nat) : rounds (rnd tab FT D17 live 117 impl_putBytes_lo 0 3) leave (fuel + 1) (impl_putBytes_3_sl (n, X, m, k)) = ((impl_putBytes_3_step n X m k)).run (goOn (fun s => rounds (rnd tab FT D17 live 117 impl_putBytes_lo 0 3) leave fuel (impl_putBytes_3_sl s)) fun w => some (impl_putBytes_3_out w)) := by kernel_rfl
theorem impl_putBytes_3_h (n : Int) (X : List (List TC)) (m : Int) (k : Int) (ow : impl_putBytes_3_ω) : ((impl_putBytes_3_fin n X m k)).val = some ow → ∃ fuel, loopN impl_putBytes_3_st fuel (n, X, m, k) = some ow := by
  intro h
  refine auto_leaf (R := bRows n m.toNat) (fun ho => ?_) h
  obtain ⟨sz, rfl, h8, rfl, rfl⟩ := is_iff.1 ho
  rw [wr_zero (n := n)]
  refine ⟨sz + 1, loopN_run (step := impl_putBytes_3_st) (N := sz) (fun j => (n, (wr sz (bAt n) (fun _ => [TC.i 0]) (fun p => decide (p < j))), (sz : Int), (j : Int))) (fun j hj => ?_) ?_ sz 0 (by omega)⟩
  · have e := wr_step (L := sz) (p0 := j) (F := bAt n) (O := fun _ => [TC.i 0]) (vis := fun p => decide (p < j)) (vis' := fun p => decide (p < j + 1)) hj (fun _ => rfl) (fun _ => rfl) (fun p _ => by
      rw [Bool.eq_iff_iff]; simp only [Bool.or_eq_true, decide_eq_true_eq, beq_iff_eq]; omega)
    show (impl_putBytes_3_step n (wr sz (bAt n) (fun _ => [TC.i 0]) (fun p => decide (p < j))) (sz : Int) (j : Int)).val = _
    unfold impl_putBytes_3_step
    rw [bAt_i64 (by omega)]
    refine Tr.t (by simp; omega) ?_
    refine Tr.t (by rw [wrap64 (by omega) (by omega)]; omega) ?_
    refine Tr.t ⟨by omega, by rw [wr_len]; omega⟩ ?_
    rw [Tr.val_ok, wrap64 (i := (j : Int) + 1) (by omega) (by omega)]
    show some (Sum.inl (n, (wr sz (bAt n) (fun _ => [TC.i 0]) (fun p => decide (p < j))).set j (splice ((wr sz (bAt n) (fun _ => [TC.i 0]) (fun p => decide (p < j))).getD j []) 0 (bAt n j)), (sz : Int), ((j + 1 : Nat) : Int))) = _
    rw [e]
  · show (impl_putBytes_3_step n (wr sz (bAt n) (fun _ => [TC.i 0]) (fun p => decide (p < sz))) (sz : Int) (sz : Int)).val = _
    refine Tr.n (by simp) ?_
    rw [wr_bRows]
    rfl
theorem impl_putBytes_is3 : LoopIs tab FT D17 live 117 impl_putBytes_lo 0 3 := by
  refine loop_told (sl := impl_putBytes_3_sl) (step := impl_putBytes_3_st) (out := impl_putBytes_3_out) (lor := impl_putBytes_lo3) (fin := fun x => (impl_putBytes_3_fin (x.1) (x.2.1) (x.2.2.1) (x.2.2.2))) (fun _ => rfl) ?_ (fun x n => impl_putBytes_3_r x.1 x.2.1 x.2.2.1 x.2.2.2 n) (fun x ow => impl_putBytes_3_h x.1 x.2.1 x.2.2.1 x.2.2.2 ow)
  intro s t h
  unfold impl_putBytes_lo3 at h
  split at h
  · cases h; exact ⟨(_, _, _, _), rfl, rfl⟩
  · cases h
noncomputable def impl_putBytes_t (n : Int) (size : Int) : Tr (List UInt8) := (.ite (0 ≤ size ∧ size ≤ size ∧ size * 1 ≤ 140737488355328 ∧ size ≤ 140737488355328) (.ite ((impl_putBytes_o3_1 n (List.replicate (size).toNat [TC.i (0 : Int)]) ((List.replicate (size).toNat [TC.i (0 : Int)]).length : Int) (0 : Int)) = true) (.ok ((impl_putBytes_u3_1 n (List.replicate (size).toNat [TC.i (0 : Int)]) ((List.replicate (size).toNat [TC.i (0 : Int)]).length : Int) (0 : Int)).map byteOf))
   .no)
  .no)
def impl_putBytes_mk (p : List UInt8) : Res := [(false, [⟨.str, .sh, TC.s p⟩])]
noncomputable def impl_putBytes_c (n : Int) (size : Int) : Bool := is (∃ sz : Nat, size = (sz : Int) ∧ sz ≤ 8)
noncomputable def impl_putBytes_v (n : Int) (size : Int) : List UInt8 := hid (bytesL n size.toNat)
theorem impl_putBytes_l (n : Int) (size : Int) : (impl_putBytes_c n size) = true → (impl_putBytes_t n size).val = some (impl_putBytes_v n size) := by
  intro h
  obtain ⟨sz, rfl, h8⟩ := is_iff.1 h
  unfold impl_putBytes_t
  refine Tr.t (by omega) ?_
  refine Tr.t (is_true ⟨sz, by simp, h8, rfl, rfl⟩) ?_
  unfold impl_putBytes_v
  rw [hid_eq]; simp; rfl
noncomputable def impl_putBytes_S : List Arg → Option (Bool × Res) := fun xs => match xs with
  | [(false, [(.int .i64, TC.i n)]), (false, [(.int .i64, TC.i size)])] => some ((impl_putBytes_c n size), impl_putBytes_mk (impl_putBytes_v n size))
  | _ => .none
theorem impl_putBytes_e (n : Int) (size : Int) : runF tab FT D17 live 117 impl_putBytes_lo [(false, [(.int .i64, TC.i n)]), (false, [(.int .i64, TC.i size)])] = (impl_putBytes_t n size).run fun p => some (impl_putBytes_mk p) := by kernel_rfl
theorem impl_putBytes_s : ∀ xs r, impl_putBytes_S xs = some (true, r) → runF tab FT D17 live 117 impl_putBytes_lo xs = some r := by
  intro xs r h
  unfold impl_putBytes_S at h
  split at h
  · simp only [Option.some.injEq, Prod.mk.injEq] at h
    obtain ⟨h1, rfl⟩ := h
    exact fun_told (impl_putBytes_e _ _) (impl_putBytes_l _ _) h1
  · cases h
noncomputable def D18 : Dt := also D17 117 impl_putBytes_S
theorem d18 : DOk Go.Proofs.Try.prog tab D18 := d17.also mixed_ok tab_ok names_ok (fnLoops_one (by kernel_rfl) impl_putBytes_is3) impl_putBytes_s
theorem impl_putBytes_h {n size : Int} : impl_putBytes_v n size = bytesL n size.toNat := hid_eq _
theorem impl_putBytes_len {n : Int} {sz : Nat} : (impl_putBytes_v n (sz : Int)).length = sz := by rw [impl_putBytes_h]; exact bytesL_len
/-! impl_truth -/
noncomputable def impl_truth_t (a0 : Bool) : Tr (Int) := (.ite (a0 = true) (.ok (1 : Int))
  (.ok (0 : Int)))
def impl_truth_mk (p : Int) : Res := [(false, [⟨.int .i64, .sh, TC.i p⟩])]
noncomputable def impl_truth_c (a0 : Bool) : Bool := true
noncomputable def impl_truth_v (a0 : Bool) : Int := (bif a0 then (1 : Int) else (0 : Int))
theorem impl_truth_l (a0 : Bool) : (impl_truth_c a0) = true → (impl_truth_t a0).val = some (impl_truth_v a0) := by
  intro h
  skip
  unfold impl_truth_t impl_truth_v
  exact (Tr.s rfl rfl)
noncomputable def impl_truth_S : List Arg → Option (Bool × Res) := fun xs => match xs with
  | [(false, [(.bool, TC.b a0)])] => some (true, impl_truth_mk (impl_truth_v a0))
  | _ => .none
theorem impl_truth_e (a0 : Bool) : runF tab FT D18 live 125 noLoops [(false, [(.bool, TC.b a0)])] = (impl_truth_t a0).run fun p => some (impl_truth_mk p) := by kernel_rfl
theorem impl_truth_s : ∀ xs r, impl_truth_S xs = some (true, r) → runF tab FT D18 live 125 noLoops xs = some r := by
  intro xs r h
  unfold impl_truth_S at h
  split at h
  · simp only [Option.some.injEq, Prod.mk.injEq] at h
    obtain ⟨h1, rfl⟩ := h
    exact fun_told (impl_truth_e _) (impl_truth_l _) rfl
  · cases h
noncomputable def D19 : Dt := also D18 125 impl_truth_S
theorem d19 : DOk Go.Proofs.Try.prog tab D19 := d18.also mixed_ok tab_ok names_ok noLoops_ok impl_truth_s
/-! impl_encodePipeline -/
noncomputable def impl_encodePipeline_f3 (A : List (List TC)) (m : Int) (i : Int) (s : List UInt8) : (List UInt8) ⊕ ((List UInt8)) := (.inl (s ++ (((impl_putBytes_v ((nth (row A i) 0).int) (1 : Int)) ++ (impl_putBytes_v ((nth (row A i) 1).int) (1 : Int))) ++ (impl_putBytes_v (impl_truth_v ((nth (row A i) 2).bool)) (1 : Int)))))
noncomputable def impl_encodePipeline_e3 (A : List (List TC)) (m : Int) (s : List UInt8) : (List UInt8) := s
noncomputable def impl_encodePipeline_R3 (s : List UInt8) (A : List (List TC)) (m : Int) (i : Int) : (List UInt8) := iter (fun i a => (impl_encodePipeline_f3 A m (i : Int) a)) (fun a => (impl_encodePipeline_e3 A m a)) (A.length) 0 s
abbrev impl_encodePipeline_3_σ := List UInt8 × List (List TC) × Int × Int
abbrev impl_encodePipeline_3_ω := (List UInt8)
noncomputable def impl_encodePipeline_3_step (s : List UInt8) (A : List (List TC)) (m : Int) (i : Int) : Tr (impl_encodePipeline_3_σ ⊕ impl_encodePipeline_3_ω) := (.ite ((decide (i < m)) = true) (.ite ((0 : Int) ≤ i ∧ i < (A.length : Int)) (.ite ((impl_putBytes_c ((nth (row A i) 0).int) (1 : Int)) = true) (.ite ((impl_putBytes_c ((nth (row A i) 1).int) (1 : Int)) = true) (.ite ((((impl_putBytes_v ((nth (row A i) 0).int) (1 : Int)).length + (impl_putBytes_v ((nth (row A i) 1).int) (1 : Int)).length : Nat) : Int) ≤ 9223372036854775807) (.ite ((impl_putBytes_c (impl_truth_v ((nth (row A i) 2).bool)) (1 : Int)) = true) (.ite (((((impl_putBytes_v ((nth (row A i) 0).int) (1 : Int)) ++ (impl_putBytes_v ((nth (row A i) 1).int) (1 : Int))).length + (impl_putBytes_v (impl_truth_v ((nth (row A i) 2).bool)) (1 : Int)).length : Nat) : Int) ≤ 9223372036854775807) (.ite (((s.length + (((impl_putBytes_v ((nth (row A i) 0).int) (1 : Int)) ++ (impl_putBytes_v ((nth (row A i) 1).int) (1 : Int))) ++ (impl_putBytes_v (impl_truth_v ((nth (row A i) 2).bool)) (1 : Int))).length : Nat) : Int) ≤ 9223372036854775807) (.ok (.inl ((s ++ (((impl_putBytes_v ((nth (row A i) 0).int) (1 : Int)) ++ (impl_putBytes_v ((nth (row A i) 1).int) (1 : Int))) ++ (impl_putBytes_v (impl_truth_v ((nth (row A i) 2).bool)) (1 : Int)))), A, m, (IntKind.wrap .i64 (i + (1 : Int))))))
         .no)
        .no)
       .no)
      .no)
     .no)
    .no)
   .no)
  (.ok (.inr s)))
noncomputable def impl_encodePipeline_3_st : impl_encodePipeline_3_σ → Tr (impl_encodePipeline_3_σ ⊕ impl_encodePipeline_3_ω) := fun x => (impl_encodePipeline_3_step (x.1) (x.2.1) (x.2.2.1) (x.2.2.2))
noncomputable def impl_encodePipeline_o3_1 (s : List UInt8) (A : List (List TC)) (m : Int) (i : Int) : Bool := is (i = 0 ∧ Typed tab (.slice 80) (.l A) ∧ m = (A.length : Int) ∧ s.length ≤ 8 ∧ A.length ≤ 64)
noncomputable def impl_encodePipeline_u3_1 (s : List UInt8) (A : List (List TC)) (m : Int) (i : Int) : List UInt8 := (impl_encodePipeline_R3 s A m i)
noncomputable def impl_encodePipeline_3_fin (s : List UInt8) (A : List (List TC)) (m : Int) (i : Int) : Told impl_encodePipeline_3_ω := (.leaf (impl_encodePipeline_o3_1 s A m i) (impl_encodePipeline_u3_1 s A m i))
def impl_encodePipeline_3_sl (x : impl_encodePipeline_3_σ) : List Slot := [⟨.val false [⟨.str, .sh, TC.s (x.1)⟩], ⟨0, 0⟩⟩, ⟨.val false [⟨.slice 80, .sh, TC.l (x.2.1)⟩], ⟨0, 0⟩⟩, ⟨.val false [⟨.int .i64, .sh, TC.i (x.2.2.1)⟩], ⟨0, 0⟩⟩, ⟨.val false [⟨.int .i64, .sh, TC.i (x.2.2.2)⟩], ⟨0, 0⟩⟩]
def impl_encodePipeline_3_out : impl_encodePipeline_3_ω → Ex × List Slot := (fun x => (.exit 0, [Slot.none, ⟨.val false [⟨.str, .sh, TC.s x⟩], ⟨0, 0⟩⟩]))
noncomputable def impl_encodePipeline_lo3 : List Slot → Option (Told (Ex × List Slot)) := fun s => match s with
  | [⟨.val false [⟨.str, .sh, TC.s s⟩], ⟨0, 0⟩⟩, ⟨.val false [⟨.slice 80, .sh, TC.l A⟩], ⟨0, 0⟩⟩, ⟨.val false [⟨.int .i64, .sh, TC.i m⟩], ⟨0, 0⟩⟩, ⟨.val false [⟨.int .i64, .sh, TC.i i⟩], ⟨0, 0⟩⟩] => some (((impl_encodePipeline_3_fin s A m i)).map impl_encodePipeline_3_out)
  | _ => .none
noncomputable def impl_encodePipeline_lo : LoopTeller := fun r s => bif Nat.beq r 3 then impl_encodePipeline_lo3 s else .none
theorem impl_encodePipeline_3_r (s : List UInt8) (A : List (List TC)) (m : Int) (i : Int) (fuel : Nat) : rounds (rnd tab FT D19 live 87 impl_encodePipeline_lo 0 3) leave (fuel + 1) (impl_encodePipeline_3_sl (s, A, m, i)) = ((impl_encodePipeline_3_step s A m i)).run (goOn (fun s => rounds (rnd tab FT D19 live 87 impl_encodePipeline_lo 0 3) leave fuel (impl_encodePipeline_3_sl s)) fun w => some (impl_encodePipeline_3_out w)) := by kernel_rfl
theorem impl_encodePipeline_3_h (s : List UInt8) (A : List (List TC)) (m : Int) (i : Int) (ow : impl_encodePipeline_3_ω) : ((impl_encodePipeline_3_fin s A m i)).val = some ow → ∃ fuel, loopN impl_encodePipeline_3_st fuel (s, A, m, i) = some ow := by
  refine auto_leaf (R := (impl_encodePipeline_R3 s A m i)) ?_
  intro ho
  have ho : is (i = 0 ∧ Typed tab (.slice 80) (.l A) ∧ m = (A.length : Int) ∧ s.length ≤ 8 ∧ A.length ≤ 64) = true := ho
  obtain ⟨rfl, ht, rfl, hs0, hlim⟩ := is_iff.1 ho
  have hlen : A.length ≤ 140737488351232 := by have := typed_room ht; simp only [show (tab 80).bytes = 24 from rfl] at this; omega
  refine ⟨(A.length) + 1, ?_⟩
  refine iter_loop (step := impl_encodePipeline_3_st) (A.length) (fun i a => (impl_encodePipeline_f3 A (A.length : Int) (i : Int) a)) (fun a => (impl_encodePipeline_e3 A (A.length : Int) a)) (fun i a => (a, A, (A.length : Int), (i : Int))) (fun i (a : List UInt8) => a.length ≤ 8 + 24 * i) (by simpa using hs0) (fun i a hi hI => ⟨?_, fun a' h => by
    unfold impl_encodePipeline_f3 at h
    cases h
    have hI : a.length ≤ 8 + 24 * i := hI
    have e0 : (impl_putBytes_v (nth (row A (i : Int)) 0).int (1 : Int)).length = 1 := impl_putBytes_len (sz := 1)
    have e1 : (impl_putBytes_v (nth (row A (i : Int)) 1).int (1 : Int)).length = 1 := impl_putBytes_len (sz := 1)
    have e2 : (impl_putBytes_v (impl_truth_v (nth (row A (i : Int)) 2).bool) (1 : Int)).length = 1 := impl_putBytes_len (sz := 1)
    show (a ++ _).length ≤ 8 + 24 * (i + 1)
    simp only [List.length_append]
    omega⟩) (fun a hI => ?_)
  · show (impl_encodePipeline_3_step a A (A.length : Int) (i : Int)).val = _
    unfold impl_encodePipeline_3_step impl_encodePipeline_f3
    have hI : a.length ≤ 8 + 24 * i := hI
    have e0 : (impl_putBytes_v (nth (row A (i : Int)) 0).int (1 : Int)).length = 1 := impl_putBytes_len (sz := 1)
    have e1 : (impl_putBytes_v (nth (row A (i : Int)) 1).int (1 : Int)).length = 1 := impl_putBytes_len (sz := 1)
    have e2 : (impl_putBytes_v (impl_truth_v (nth (row A (i : Int)) 2).bool) (1 : Int)).length = 1 := impl_putBytes_len (sz := 1)
    refine Tr.t (by simp; omega) ?_
    exact (Tr.t (by first | omega | (constructor <;> omega) | (simp only [List.length_append]; omega) | (exact is_true ⟨1, rfl, by omega⟩)) (Tr.t (by first | (simp only [List.length_append]; omega) | (exact is_true ⟨1, rfl, by omega⟩) | (first | (apply is_true; and_intros <;> (first | rfl | assumption | (apply spec_l01PutUint_cc <;> assumption) | (apply spec_EncodePipeline_cc <;> assumption) | (first | (apply is_true; and_intros <;> (first | rfl | assumption | (apply spec_l01PutUint_cc <;> assumption) | (apply spec_EncodePipeline_cc <;> assumption) | (first | (apply is_true; and_intros <;> (first | rfl | assumption | (apply spec_l01PutUint_cc <;> assumption) | (apply spec_EncodePipeline_cc <;> assumption))) | (apply spec_l01PutUint_cc <;> assumption) | (apply spec_EncodePipeline_cc <;> assumption)))) | (apply spec_l01PutUint_cc <;> assumption) | (apply spec_EncodePipeline_cc <;> assumption)))) | (apply spec_l01PutUint_cc <;> assumption) | (apply spec_EncodePipeline_cc <;> assumption))) (Tr.t (by first | (simp only [List.length_append]; omega) | (exact is_true ⟨1, rfl, by omega⟩) | (first | (apply is_true; and_intros <;> (first | rfl | assumption | (apply spec_l01PutUint_cc <;> assumption) | (apply spec_EncodePipeline_cc <;> assumption) | (first | (apply is_true; and_intros <;> (first | rfl | assumption | (apply spec_l01PutUint_cc <;> assumption) | (apply spec_EncodePipeline_cc <;> assumption) | (first | (apply is_true; and_intros <;> (first | rfl | assumption | (apply spec_l01PutUint_cc <;> assumption) | (apply spec_EncodePipeline_cc <;> assumption))) | (apply spec_l01PutUint_cc <;> assumption) | (apply spec_EncodePipeline_cc <;> assumption)))) | (apply spec_l01PutUint_cc <;> assumption) | (apply spec_EncodePipeline_cc <;> assumption)))) | (apply spec_l01PutUint_cc <;> assumption) | (apply spec_EncodePipeline_cc <;> assumption))) (Tr.t (by first | omega | (constructor <;> omega) | (simp only [List.length_append]; omega) | (exact is_true ⟨1, rfl, by omega⟩)) (Tr.t (by first | (simp only [List.length_append]; omega) | (exact is_true ⟨1, rfl, by omega⟩) | (first | (apply is_true; and_intros <;> (first | rfl | assumption | (apply spec_l01PutUint_cc <;> assumption) | (apply spec_EncodePipeline_cc <;> assumption) | (first | (apply is_true; and_intros <;> (first | rfl | assumption | (apply spec_l01PutUint_cc <;> assumption) | (apply spec_EncodePipeline_cc <;> assumption) | (first | (apply is_true; and_intros <;> (first | rfl | assumption | (apply spec_l01PutUint_cc <;> assumption) | (apply spec_EncodePipeline_cc <;> assumption))) | (apply spec_l01PutUint_cc <;> assumption) | (apply spec_EncodePipeline_cc <;> assumption)))) | (apply spec_l01PutUint_cc <;> assumption) | (apply spec_EncodePipeline_cc <;> assumption)))) | (apply spec_l01PutUint_cc <;> assumption) | (apply spec_EncodePipeline_cc <;> assumption))) (Tr.t (by first | omega | (constructor <;> omega) | (simp only [List.length_append]; omega) | (exact is_true ⟨1, rfl, by omega⟩)) (Tr.t (by first | omega | (constructor <;> omega) | (simp only [List.length_append]; omega) | (exact is_true ⟨1, rfl, by omega⟩)) (by rw [Tr.val_ok, wrap64 (i := (i : Int) + 1) (by omega) (by omega)]; rfl))))))))
  · show (impl_encodePipeline_3_step a A (A.length : Int) (A.length : Int)).val = _
    refine Tr.n (by first | (simp; done) | (simp; omega) | omega) ?_
    rfl
theorem impl_encodePipeline_is3 : LoopIs tab FT D19 live 87 impl_encodePipeline_lo 0 3 := by
  refine loop_told (sl := impl_encodePipeline_3_sl) (step := impl_encodePipeline_3_st) (out := impl_encodePipeline_3_out) (lor := impl_encodePipeline_lo3) (fin := fun x => (impl_encodePipeline_3_fin (x.1) (x.2.1) (x.2.2.1) (x.2.2.2))) (fun _ => rfl) ?_ (fun x n => impl_encodePipeline_3_r x.1 x.2.1 x.2.2.1 x.2.2.2 n) (fun x ow => impl_encodePipeline_3_h x.1 x.2.1 x.2.2.1 x.2.2.2 ow)
  intro s t h
  unfold impl_encodePipeline_lo3 at h
  split at h
  · cases h; exact ⟨(_, _, _, _), rfl, rfl⟩
  · cases h
noncomputable def impl_encodePipeline_t (A : List (List TC)) : Tr (List UInt8) := (.ite ((impl_putBytes_c (A.length : Int) (1 : Int)) = true) (.ite ((impl_encodePipeline_o3_1 (impl_putBytes_v (A.length : Int) (1 : Int)) A (A.length : Int) (0 : Int)) = true) (.ok (impl_encodePipeline_u3_1 (impl_putBytes_v (A.length : Int) (1 : Int)) A (A.length : Int) (0 : Int)))
   .no)
  .no)
def impl_encodePipeline_mk (p : List UInt8) : Res := [(false, [⟨.str, .sh, TC.s p⟩])]
noncomputable def impl_encodePipeline_c (A : List (List TC)) : Bool := ((impl_putBytes_c (A.length : Int) (1 : Int)) && ((impl_encodePipeline_o3_1 (impl_putBytes_v (A.length : Int) (1 : Int)) A (A.length : Int) (0 : Int)) && true))
noncomputable def impl_encodePipeline_v (A : List (List TC)) : List UInt8 := (impl_encodePipeline_u3_1 (impl_putBytes_v (A.length : Int) (1 : Int)) A (A.length : Int) (0 : Int))
theorem impl_encodePipeline_l (A : List (List TC)) : (impl_encodePipeline_c A) = true → (impl_encodePipeline_t A).val = some (impl_encodePipeline_v A) := by
  unfold impl_encodePipeline_t impl_encodePipeline_v impl_encodePipeline_c
  exact fun h => (Tr.gb h fun h => (Tr.gb h fun h => rfl))
noncomputable def impl_encodePipeline_S : List Arg → Option (Bool × Res) := fun xs => match xs with
  | [(false, [(.slice 80, TC.l A)])] => some ((impl_encodePipeline_c A), impl_encodePipeline_mk (impl_encodePipeline_v A))
  | _ => .none
theorem impl_encodePipeline_e (A : List (List TC)) : runF tab FT D19 live 87 impl_encodePipeline_lo [(false, [(.slice 80, TC.l A)])] = (impl_encodePipeline_t A).run fun p => some (impl_encodePipeline_mk p) := by kernel_rfl
theorem impl_encodePipeline_s : ∀ xs r, impl_encodePipeline_S xs = some (true, r) → runF tab FT D19 live 87 impl_encodePipeline_lo xs = some r := by
  intro xs r h
  unfold impl_encodePipeline_S at h
  split at h
  · simp only [Option.some.injEq, Prod.mk.injEq] at h
    obtain ⟨h1, rfl⟩ := h
    exact fun_told (impl_encodePipeline_e _) (impl_encodePipeline_l _) h1
  · cases h
noncomputable def D20 : Dt := also D19 87 impl_encodePipeline_S
theorem d20 : DOk Go.Proofs.Try.prog tab D20 := d19.also mixed_ok tab_ok names_ok (fnLoops_one (by kernel_rfl) impl_encodePipeline_is3) impl_encodePipeline_s
theorem impl_encodePipeline_cc {A : List (List TC)} (hA : Typed tab (.slice 80) (.l A)) (hl : A.length ≤ 64) : (impl_encodePipeline_c A) = true := by
  unfold impl_encodePipeline_c
  refine andT (by exact is_true ⟨1, rfl, by omega⟩) ?_
  refine andT (by exact is_true ⟨rfl, hA, rfl, by rw [show (impl_putBytes_v (A.length : Int) 1).length = 1 from impl_putBytes_len (sz := 1)]; omega, hl⟩) ?_
  rfl
theorem impl_encodePipeline_vv (A : List (List TC)) : impl_encodePipeline_v A = foldI (encStep A) A.length (bytesL (A.length : Int) 1) := by
  show impl_encodePipeline_R3 (impl_putBytes_v (A.length : Int) 1) A (A.length : Int) 0 = _
  rw [impl_putBytes_h]
  unfold impl_encodePipeline_R3
  refine iter_each (g := encStep A) (fin := fun a => impl_encodePipeline_e3 A (A.length : Int) a) fun j a hj => ?_
  unfold impl_encodePipeline_f3 encStep
  rw [impl_putBytes_h, impl_putBytes_h, impl_putBytes_h]
  rfl
/-! impl_EncodePipeline -/
noncomputable def impl_EncodePipeline_t (A : List (List TC)) : Tr (List UInt8) := (.ite ((impl_ValidPipeline_c A) = true) (.ite ((!(impl_ValidPipeline_v A)) = true) (.ok ([]))
   (.ite ((impl_encodePipeline_c A) = true) (.ok (impl_encodePipeline_v A))
    .no))
  .no)
def impl_EncodePipeline_mk (p : List UInt8) : Res := [(false, [⟨.str, .sh, TC.s p⟩])]
noncomputable def impl_EncodePipeline_c (A : List (List TC)) : Bool := ((impl_ValidPipeline_c A) && (bif (!(impl_ValidPipeline_v A)) then true else ((impl_encodePipeline_c A) && true)))
noncomputable def impl_EncodePipeline_v (A : List (List TC)) : List UInt8 := (bif (!(impl_ValidPipeline_v A)) then [] else (impl_encodePipeline_v A))
theorem impl_EncodePipeline_l (A : List (List TC)) : (impl_EncodePipeline_c A) = true → (impl_EncodePipeline_t A).val = some (impl_EncodePipeline_v A) := by
  unfold impl_EncodePipeline_t impl_EncodePipeline_v impl_EncodePipeline_c
  exact fun h => (Tr.gb h fun h => (Tr.ss h (fun h => rfl) (fun h => (Tr.gb h fun h => rfl))))
noncomputable def impl_EncodePipeline_S : List Arg → Option (Bool × Res) := fun xs => match xs with
  | [(false, [(.slice 80, TC.l A)])] => some ((impl_EncodePipeline_c A), impl_EncodePipeline_mk (impl_EncodePipeline_v A))
  | _ => .none
theorem impl_EncodePipeline_e (A : List (List TC)) : runF tab FT D20 live 43 noLoops [(false, [(.slice 80, TC.l A)])] = (impl_EncodePipeline_t A).run fun p => some (impl_EncodePipeline_mk p) := by kernel_rfl
theorem impl_EncodePipeline_s : ∀ xs r, impl_EncodePipeline_S xs = some (true, r) → runF tab FT D20 live 43 noLoops xs = some r := by
  intro xs r h
  unfold impl_EncodePipeline_S at h
  split at h
  · simp only [Option.some.injEq, Prod.mk.injEq] at h
    obtain ⟨h1, rfl⟩ := h
    exact fun_told (impl_EncodePipeline_e _) (impl_EncodePipeline_l _) h1
  · cases h
noncomputable def D21 : Dt := also D20 43 impl_EncodePipeline_S
theorem d21 : DOk Go.Proofs.Try.prog tab D21 := d20.also mixed_ok tab_ok names_ok noLoops_ok impl_EncodePipeline_s
theorem impl_EncodePipeline_cc {A : List (List TC)} (hA : Typed tab (.slice 80) (.l A)) : (impl_EncodePipeline_c A) = true := by
  unfold impl_EncodePipeline_c
  refine andT (by first | (apply is_true; and_intros <;> (first | rfl | assumption | (apply spec_l01PutUint_cc <;> assumption) | (apply spec_EncodePipeline_cc <;> assumption) | (apply impl_encodePipeline_cc <;> assumption) | (first | (apply is_true; and_intros <;> (first | rfl | assumption | (apply spec_l01PutUint_cc <;> assumption) | (apply spec_EncodePipeline_cc <;> assumption) | (apply impl_encodePipeline_cc <;> assumption) | (first | (apply is_true; and_intros <;> (first | rfl | assumption | (apply spec_l01PutUint_cc <;> assumption) | (apply spec_EncodePipeline_cc <;> assumption) | (apply impl_encodePipeline_cc <;> assumption) | (first | (apply is_true; and_intros <;> (first | rfl | assumption | (apply spec_l01PutUint_cc <;> assumption) | (apply spec_EncodePipeline_cc <;> assumption) | (apply impl_encodePipeline_cc <;> assumption))) | (apply spec_l01PutUint_cc <;> assumption) | (apply spec_EncodePipeline_cc <;> assumption) | (apply impl_encodePipeline_cc <;> assumption)))) | (apply spec_l01PutUint_cc <;> assumption) | (apply spec_EncodePipeline_cc <;> assumption) | (apply impl_encodePipeline_cc <;> assumption)))) | (apply spec_l01PutUint_cc <;> assumption) | (apply spec_EncodePipeline_cc <;> assumption) | (apply impl_encodePipeline_cc <;> assumption)))) | (apply spec_l01PutUint_cc <;> assumption) | (apply spec_EncodePipeline_cc <;> assumption) | (apply impl_encodePipeline_cc <;> assumption)) ?_
  refine bifT (fun b1 => ?_) (fun b1 => ?_)
  · skip
    rfl
  · skip
    refine andT (by exact impl_encodePipeline_cc hA (by have h1 := notF b1; rw [show impl_ValidPipeline_v A = (A.all okFilR && decide ((A.length : Int) ≤ 4)) from rfl] at h1; simp only [Bool.and_eq_true, decide_eq_true_eq] at h1; omega)) ?_
    rfl
theorem impl_EncodePipeline_vv (A : List (List TC)) : impl_EncodePipeline_v A = encPipe A := by
  unfold impl_EncodePipeline_v encPipe
  rw [show impl_ValidPipeline_v A = (A.all okFilR && decide ((A.length : Int) ≤ 4)) from rfl, impl_encodePipeline_vv]
  cases (A.all okFilR && decide ((A.length : Int) ≤ 4)) <;> rfl
/-! laws_eqFilter -/
noncomputable def laws_eqFilter_t (x0 : Int) (x1 : Int) (x2 : Bool) (y0 : Int) (y1 : Int) (y2 : Bool) : Tr (Bool) := (.ite ((!(x0 == y0)) = true) (.ok false)
  (.ite ((!(x1 == y1)) = true) (.ok false)
   (.ite ((!(x2 == y2)) = true) (.ok false)
    (.ok true))))
def laws_eqFilter_mk (p : Bool) : Res := [(false, [⟨.bool, .sh, TC.b p⟩])]
noncomputable def laws_eqFilter_c (x0 : Int) (x1 : Int) (x2 : Bool) (y0 : Int) (y1 : Int) (y2 : Bool) : Bool := is (x0 = y0 ∧ x1 = y1 ∧ x2 = y2)
noncomputable def laws_eqFilter_v (x0 : Int) (x1 : Int) (x2 : Bool) (y0 : Int) (y1 : Int) (y2 : Bool) : Bool := true
theorem laws_eqFilter_l (x0 : Int) (x1 : Int) (x2 : Bool) (y0 : Int) (y1 : Int) (y2 : Bool) : (laws_eqFilter_c x0 x1 x2 y0 y1 y2) = true → (laws_eqFilter_t x0 x1 x2 y0 y1 y2).val = some (laws_eqFilter_v x0 x1 x2 y0 y1 y2) := by
  intro h
  obtain ⟨rfl, rfl, rfl⟩ := is_iff.1 h
  unfold laws_eqFilter_t
  refine Tr.n (by simp) ?_
  refine Tr.n (by simp) ?_
  refine Tr.n (by simp) ?_
  rfl
noncomputable def laws_eqFilter_S : List Arg → Option (Bool × Res) := fun xs => match xs with
  | [(true, [(.int .i64, TC.i x0), (.int .i64, TC.i x1), (.bool, TC.b x2)]), (true, [(.int .i64, TC.i y0), (.int .i64, TC.i y1), (.bool, TC.b y2)])] => some ((laws_eqFilter_c x0 x1 x2 y0 y1 y2), laws_eqFilter_mk (laws_eqFilter_v x0 x1 x2 y0 y1 y2))
  | _ => .none
theorem laws_eqFilter_e (x0 : Int) (x1 : Int) (x2 : Bool) (y0 : Int) (y1 : Int) (y2 : Bool) : runF tab FT D21 live 62 noLoops [(true, [(.int .i64, TC.i x0), (.int .i64, TC.i x1), (.bool, TC.b x2)]), (true, [(.int .i64, TC.i y0), (.int .i64, TC.i y1), (.bool, TC.b y2)])] = (laws_eqFilter_t x0 x1 x2 y0 y1 y2).run fun p => some (laws_eqFilter_mk p) := by kernel_rfl
theorem laws_eqFilter_s : ∀ xs r, laws_eqFilter_S xs = some (true, r) → runF tab FT D21 live 62 noLoops xs = some r := by
  intro xs r h
  unfold laws_eqFilter_S at h
  split at h
  · simp only [Option.some.injEq, Prod.mk.injEq] at h
    obtain ⟨h1, rfl⟩ := h
    exact fun_told (laws_eqFilter_e _ _ _ _ _ _) (laws_eqFilter_l _ _ _ _ _ _) h1
  · cases h
noncomputable def D22 : Dt := also D21 62 laws_eqFilter_S
theorem d22 : DOk Go.Proofs.Try.prog tab D22 := d21.also mixed_ok tab_ok names_ok noLoops_ok laws_eqFilter_s
/-! laws_eqFilterS -/
abbrev laws_eqFilterS_4_σ := List (List TC) × List (List TC) × Int
abbrev laws_eqFilterS_4_ω := (Unit) ⊕ (Unit)
noncomputable def laws_eqFilterS_4_step (A : List (List TC)) (C : List (List TC)) (i : Int) : Tr (laws_eqFilterS_4_σ ⊕ laws_eqFilterS_4_ω) := (.ite ((decide (i < (A.length : Int))) = true) (.ite ((0 : Int) ≤ i ∧ i < (A.length : Int)) (.ite ((0 : Int) ≤ i ∧ i < (C.length : Int)) (.ite ((laws_eqFilter_c ((nth (row A i) 0).int) ((nth (row A i) 1).int) ((nth (row A i) 2).bool) ((nth (row C i) 0).int) ((nth (row C i) 1).int) ((nth (row C i) 2).bool)) = true) (.ite ((!(laws_eqFilter_v ((nth (row A i) 0).int) ((nth (row A i) 1).int) ((nth (row A i) 2).bool) ((nth (row C i) 0).int) ((nth (row C i) 1).int) ((nth (row C i) 2).bool))) = true) (.ok (.inr (.inl ())))
      (.ok (.inl (A, C, (IntKind.wrap .i64 (i + (1 : Int)))))))
     .no)
    .no)
   .no)
  (.ok (.inr (.inr ()))))
noncomputable def laws_eqFilterS_4_st : laws_eqFilterS_4_σ → Tr (laws_eqFilterS_4_σ ⊕ laws_eqFilterS_4_ω) := fun x => (laws_eqFilterS_4_step (x.1) (x.2.1) (x.2.2))
noncomputable def laws_eqFilterS_o4_1 (A : List (List TC)) (C : List (List TC)) (i : Int) : Bool := is (A = C ∧ i = 0 ∧ Typed tab (.slice 80) (.l A))
noncomputable def laws_eqFilterS_4_fin (A : List (List TC)) (C : List (List TC)) (i : Int) : Told laws_eqFilterS_4_ω := (.leaf (laws_eqFilterS_o4_1 A C i) (.inr ()))
def laws_eqFilterS_4_sl (x : laws_eqFilterS_4_σ) : List Slot := [⟨.val false [⟨.slice 80, .sh, TC.l (x.1)⟩], ⟨0, 0⟩⟩, ⟨.val false [⟨.slice 80, .sh, TC.l (x.2.1)⟩], ⟨0, 0⟩⟩, ⟨.val false [⟨.int .i64, .sh, TC.i (x.2.2)⟩], ⟨0, 0⟩⟩]
def laws_eqFilterS_4_out : laws_eqFilterS_4_ω → Ex × List Slot := (Sum.elim (fun x => (.ret, [⟨.val false [⟨.bool, .sh, TC.b false⟩], ⟨0, 0⟩⟩])) (fun x => (.exit 0, [Slot.none])))
noncomputable def laws_eqFilterS_lo4 : List Slot → Option (Told (Ex × List Slot)) := fun s => match s with
  | [⟨.val false [⟨.slice 80, .sh, TC.l A⟩], ⟨0, 0⟩⟩, ⟨.val false [⟨.slice 80, .sh, TC.l C⟩], ⟨0, 0⟩⟩, ⟨.val false [⟨.int .i64, .sh, TC.i i⟩], ⟨0, 0⟩⟩] => some (((laws_eqFilterS_4_fin A C i)).map laws_eqFilterS_4_out)
  | _ => .none
noncomputable def laws_eqFilterS_lo : LoopTeller := fun r s => bif Nat.beq r 4 then laws_eqFilterS_lo4 s else .none
theorem laws_eqFilterS_4_r (A : List (List TC)) (C : List (List TC)) (i : Int) (fuel : Nat) : rounds (rnd tab FT D22 live 24 laws_eqFilterS_lo 0 4) leave (fuel + 1) (laws_eqFilterS_4_sl (A, C, i)) = ((laws_eqFilterS_4_step A C i)).run (goOn (fun s => rounds (rnd tab FT D22 live 24 laws_eqFilterS_lo 0 4) leave fuel (laws_eqFilterS_4_sl s)) fun w => some (laws_eqFilterS_4_out w)) := by kernel_rfl
theorem laws_eqFilterS_4_h (A : List (List TC)) (C : List (List TC)) (i : Int) (ow : laws_eqFilterS_4_ω) : ((laws_eqFilterS_4_fin A C i)).val = some ow → ∃ fuel, loopN laws_eqFilterS_4_st fuel (A, C, i) = some ow := by
  intro h
  simp only [laws_eqFilterS_4_fin, Told.val] at h
  split at h
  · rename_i ho
    obtain ⟨rfl, rfl, ht⟩ := is_iff.1 ho
    cases h
    have hlen : A.length ≤ 140737488351232 := by have := typed_room ht; simp only [show (tab 80).bytes = 24 from rfl] at this; omega
    refine ⟨_, loopN_run (N := A.length) (fun i => (A, A, (i : Int))) (fun i hi => ?_) ?_ A.length 0 (by omega)⟩
    · skip
      show (laws_eqFilterS_4_step A A (i : Int)).val = _
      unfold laws_eqFilterS_4_step
      refine Tr.t (by simp; omega) ?_
      refine Tr.t (by constructor <;> omega) ?_
      refine Tr.t (by constructor <;> omega) ?_
      refine Tr.t (by first | (apply is_true; and_intros <;> (first | rfl | assumption | (apply spec_l01PutUint_cc <;> assumption) | (apply spec_EncodePipeline_cc <;> assumption) | (apply impl_encodePipeline_cc <;> assumption) | (apply impl_EncodePipeline_cc <;> assumption) | (first | (apply is_true; and_intros <;> (first | rfl | assumption | (apply spec_l01PutUint_cc <;> assumption) | (apply spec_EncodePipeline_cc <;> assumption) | (apply impl_encodePipeline_cc <;> assumption) | (apply impl_EncodePipeline_cc <;> assumption) | (first | (apply is_true; and_intros <;> (first | rfl | assumption | (apply spec_l01PutUint_cc <;> assumption) | (apply spec_EncodePipeline_cc <;> assumption) | (apply impl_encodePipeline_cc <;> assumption) | (apply impl_EncodePipeline_cc <;> assumption) | (first | (apply is_true; and_intros <;> (first | rfl | assumption | (apply spec_l01PutUint_cc <;> assumption) | (apply spec_EncodePipeline_cc <;> assumption) | (apply impl_encodePipeline_cc <;> assumption) | (apply impl_EncodePipeline_cc <;> assumption))) | (apply spec_l01PutUint_cc <;> assumption) | (apply spec_EncodePipeline_cc <;> assumption) | (apply impl_encodePipeline_cc <;> assumption) | (apply impl_EncodePipeline_cc <;> assumption)))) | (apply spec_l01PutUint_cc <;> assumption) | (apply spec_EncodePipeline_cc <;> assumption) | (apply impl_encodePipeline_cc <;> assumption) | (apply impl_EncodePipeline_cc <;> assumption)))) | (apply spec_l01PutUint_cc <;> assumption) | (apply spec_EncodePipeline_cc <;> assumption) | (apply impl_encodePipeline_cc <;> assumption) | (apply impl_EncodePipeline_cc <;> assumption)))) | (apply spec_l01PutUint_cc <;> assumption) | (apply spec_EncodePipeline_cc <;> assumption) | (apply impl_encodePipeline_cc <;> assumption) | (apply impl_EncodePipeline_cc <;> assumption)) ?_
      refine Tr.n (by simp [laws_eqFilter_v]) ?_
      rw [Tr.val_ok, wrap64 (i := (i : Int) + 1) (by omega) (by omega)]; rfl
    · show (laws_eqFilterS_4_step A A (A.length : Int)).val = _
      refine Tr.n (by simp) ?_
      rfl
  · cases h
theorem laws_eqFilterS_is4 : LoopIs tab FT D22 live 24 laws_eqFilterS_lo 0 4 := by
  refine loop_told (sl := laws_eqFilterS_4_sl) (step := laws_eqFilterS_4_st) (out := laws_eqFilterS_4_out) (lor := laws_eqFilterS_lo4) (fin := fun x => (laws_eqFilterS_4_fin (x.1) (x.2.1) (x.2.2))) (fun _ => rfl) ?_ (fun x n => laws_eqFilterS_4_r x.1 x.2.1 x.2.2 n) (fun x ow => laws_eqFilterS_4_h x.1 x.2.1 x.2.2 ow)
  intro s t h
  unfold laws_eqFilterS_lo4 at h
  split at h
  · cases h; exact ⟨(_, _, _), rfl, rfl⟩
  · cases h
noncomputable def laws_eqFilterS_t (A : List (List TC)) (C : List (List TC)) : Tr (Bool) := (.ite ((!((A.length : Int) == (C.length : Int))) = true) (.ok false)
  (.ite ((laws_eqFilterS_o4_1 A C (0 : Int)) = true) (.ok true)
   .no))
def laws_eqFilterS_mk (p : Bool) : Res := [(false, [⟨.bool, .sh, TC.b p⟩])]
noncomputable def laws_eqFilterS_c (A : List (List TC)) (C : List (List TC)) : Bool := is (A = C ∧ Typed tab (.slice 80) (.l A))
noncomputable def laws_eqFilterS_v (A : List (List TC)) (C : List (List TC)) : Bool := true
theorem laws_eqFilterS_l (A : List (List TC)) (C : List (List TC)) : (laws_eqFilterS_c A C) = true → (laws_eqFilterS_t A C).val = some (laws_eqFilterS_v A C) := by
  intro h
  obtain ⟨rfl, ht⟩ := is_iff.1 h
  unfold laws_eqFilterS_t
  refine Tr.n (by simp) ?_
  refine Tr.t (by first | (apply is_true; and_intros <;> (first | rfl | assumption | (apply spec_l01PutUint_cc <;> assumption) | (apply spec_EncodePipeline_cc <;> assumption) | (apply impl_encodePipeline_cc <;> assumption) | (apply impl_EncodePipeline_cc <;> assumption) | (first | (apply is_true; and_intros <;> (first | rfl | assumption | (apply spec_l01PutUint_cc <;> assumption) | (apply spec_EncodePipeline_cc <;> assumption) | (apply impl_encodePipeline_cc <;> assumption) | (apply impl_EncodePipeline_cc <;> assumption) | (first | (apply is_true; and_intros <;> (first | rfl | assumption | (apply spec_l01PutUint_cc <;> assumption) | (apply spec_EncodePipeline_cc <;> assumption) | (apply impl_encodePipeline_cc <;> assumption) | (apply impl_EncodePipeline_cc <;> assumption) | (first | (apply is_true; and_intros <;> (first | rfl | assumption | (apply spec_l01PutUint_cc <;> assumption) | (apply spec_EncodePipeline_cc <;> assumption) | (apply impl_encodePipeline_cc <;> assumption) | (apply impl_EncodePipeline_cc <;> assumption))) | (apply spec_l01PutUint_cc <;> assumption) | (apply spec_EncodePipeline_cc <;> assumption) | (apply impl_encodePipeline_cc <;> assumption) | (apply impl_EncodePipeline_cc <;> assumption)))) | (apply spec_l01PutUint_cc <;> assumption) | (apply spec_EncodePipeline_cc <;> assumption) | (apply impl_encodePipeline_cc <;> assumption) | (apply impl_EncodePipeline_cc <;> assumption)))) | (apply spec_l01PutUint_cc <;> assumption) | (apply spec_EncodePipeline_cc <;> assumption) | (apply impl_encodePipeline_cc <;> assumption) | (apply impl_EncodePipeline_cc <;> assumption)))) | (apply spec_l01PutUint_cc <;> assumption) | (apply spec_EncodePipeline_cc <;> assumption) | (apply impl_encodePipeline_cc <;> assumption) | (apply impl_EncodePipeline_cc <;> assumption)) ?_
  rfl
noncomputable def laws_eqFilterS_S : List Arg → Option (Bool × Res) := fun xs => match xs with
  | [(false, [(.slice 80, TC.l A)]), (false, [(.slice 80, TC.l C)])] => some ((laws_eqFilterS_c A C), laws_eqFilterS_mk (laws_eqFilterS_v A C))
  | _ => .none
theorem laws_eqFilterS_e (A : List (List TC)) (C : List (List TC)) : runF tab FT D22 live 24 laws_eqFilterS_lo [(false, [(.slice 80, TC.l A)]), (false, [(.slice 80, TC.l C)])] = (laws_eqFilterS_t A C).run fun p => some (laws_eqFilterS_mk p) := by kernel_rfl
theorem laws_eqFilterS_s : ∀ xs r, laws_eqFilterS_S xs = some (true, r) → runF tab FT D22 live 24 laws_eqFilterS_lo xs = some r := by
  intro xs r h
  unfold laws_eqFilterS_S at h
  split at h
  · simp only [Option.some.injEq, Prod.mk.injEq] at h
    obtain ⟨h1, rfl⟩ := h
    exact fun_told (laws_eqFilterS_e _ _) (laws_eqFilterS_l _ _) h1
  · cases h
noncomputable def D23 : Dt := also D22 24 laws_eqFilterS_S
theorem d23 : DOk Go.Proofs.Try.prog tab D23 := d22.also mixed_ok tab_ok names_ok (fnLoops_one (by kernel_rfl) laws_eqFilterS_is4) laws_eqFilterS_s
/-! the law -/
noncomputable def laws_FnExactEncodePipeline_t (x0 : List (List TC)) : Tr Bool := (.ite ((decide ((laws_szFilterS_v x0 (1048576 : Int)) < (0 : Int))) = true) (.ok true)
  (.ite ((laws_toFilterS_c x0) = true) (.ite ((spec_EncodePipeline_c (laws_toFilterS_v x0)) = true) (.ite ((laws_toFilterS_c x0) = true) (.ite ((impl_EncodePipeline_c (laws_toFilterS_v x0)) = true) (.ite ((!((impl_EncodePipeline_v (laws_toFilterS_v x0)) == (spec_EncodePipeline_v (laws_toFilterS_v x0)))) = true) (.ok false)
       (.ite ((laws_toFilterS_c x0) = true) (.ite ((laws_eqFilterS_c (laws_toFilterS_v x0) (laws_toFilterS_v x0)) = true) (.ite ((!(laws_eqFilterS_v (laws_toFilterS_v x0) (laws_toFilterS_v x0))) = true) (.ok false)
          (.ok true))
         .no)
        .no))
      .no)
     .no)
    .no)
   .no))
theorem laws_FnExactEncodePipeline_e (x0 : List (List TC)) : runF tab FT D23 live 11 noLoops [(false, [(.slice 82, TC.l x0)])] = (laws_FnExactEncodePipeline_t x0).run fun p => some [(false, [⟨.bool, .sh, .b p⟩])] := by kernel_rfl
theorem laws_FnExactEncodePipeline_p (x0 : List (List TC)) (h0 : Typed tab (.slice 82) (.l x0)) : (laws_FnExactEncodePipeline_t x0).val = some true := by
  have t0_80 := laws_toFilterS_ty h0
  unfold laws_FnExactEncodePipeline_t
  refine Tr.y ?_
  refine Tr.t (by first | exact (by first | (apply is_true; and_intros <;> (first | rfl | assumption | (apply spec_l01PutUint_cc <;> assumption) | (apply spec_EncodePipeline_cc <;> assumption) | (apply impl_encodePipeline_cc <;> assumption) | (apply impl_EncodePipeline_cc <;> assumption) | (first | (apply is_true; and_intros <;> (first | rfl | assumption | (apply spec_l01PutUint_cc <;> assumption) | (apply spec_EncodePipeline_cc <;> assumption) | (apply impl_encodePipeline_cc <;> assumption) | (apply impl_EncodePipeline_cc <;> assumption) | (first | (apply is_true; and_intros <;> (first | rfl | assumption | (apply spec_l01PutUint_cc <;> assumption) | (apply spec_EncodePipeline_cc <;> assumption) | (apply impl_encodePipeline_cc <;> assumption) | (apply impl_EncodePipeline_cc <;> assumption) | (first | (apply is_true; and_intros <;> (first | rfl | assumption | (apply spec_l01PutUint_cc <;> assumption) | (apply spec_EncodePipeline_cc <;> assumption) | (apply impl_encodePipeline_cc <;> assumption) | (apply impl_EncodePipeline_cc <;> assumption))) | (apply spec_l01PutUint_cc <;> assumption) | (apply spec_EncodePipeline_cc <;> assumption) | (apply impl_encodePipeline_cc <;> assumption) | (apply impl_EncodePipeline_cc <;> assumption)))) | (apply spec_l01PutUint_cc <;> assumption) | (apply spec_EncodePipeline_cc <;> assumption) | (apply impl_encodePipeline_cc <;> assumption) | (apply impl_EncodePipeline_cc <;> assumption)))) | (apply spec_l01PutUint_cc <;> assumption) | (apply spec_EncodePipeline_cc <;> assumption) | (apply impl_encodePipeline_cc <;> assumption) | (apply impl_EncodePipeline_cc <;> assumption)))) | (apply spec_l01PutUint_cc <;> assumption) | (apply spec_EncodePipeline_cc <;> assumption) | (apply impl_encodePipeline_cc <;> assumption) | (apply impl_EncodePipeline_cc <;> assumption)) | simp [*]) ?_
  refine Tr.t (by first | exact (by first | (apply is_true; and_intros <;> (first | rfl | assumption | (apply spec_l01PutUint_cc <;> assumption) | (apply spec_EncodePipeline_cc <;> assumption) | (apply impl_encodePipeline_cc <;> assumption) | (apply impl_EncodePipeline_cc <;> assumption) | (first | (apply is_true; and_intros <;> (first | rfl | assumption | (apply spec_l01PutUint_cc <;> assumption) | (apply spec_EncodePipeline_cc <;> assumption) | (apply impl_encodePipeline_cc <;> assumption) | (apply impl_EncodePipeline_cc <;> assumption) | (first | (apply is_true; and_intros <;> (first | rfl | assumption | (apply spec_l01PutUint_cc <;> assumption) | (apply spec_EncodePipeline_cc <;> assumption) | (apply impl_encodePipeline_cc <;> assumption) | (apply impl_EncodePipeline_cc <;> assumption) | (first | (apply is_true; and_intros <;> (first | rfl | assumption | (apply spec_l01PutUint_cc <;> assumption) | (apply spec_EncodePipeline_cc <;> assumption) | (apply impl_encodePipeline_cc <;> assumption) | (apply impl_EncodePipeline_cc <;> assumption))) | (apply spec_l01PutUint_cc <;> assumption) | (apply spec_EncodePipeline_cc <;> assumption) | (apply impl_encodePipeline_cc <;> assumption) | (apply impl_EncodePipeline_cc <;> assumption)))) | (apply spec_l01PutUint_cc <;> assumption) | (apply spec_EncodePipeline_cc <;> assumption) | (apply impl_encodePipeline_cc <;> assumption) | (apply impl_EncodePipeline_cc <;> assumption)))) | (apply spec_l01PutUint_cc <;> assumption) | (apply spec_EncodePipeline_cc <;> assumption) | (apply impl_encodePipeline_cc <;> assumption) | (apply impl_EncodePipeline_cc <;> assumption)))) | (apply spec_l01PutUint_cc <;> assumption) | (apply spec_EncodePipeline_cc <;> assumption) | (apply impl_encodePipeline_cc <;> assumption) | (apply impl_EncodePipeline_cc <;> assumption)) | simp [*]) ?_
  refine Tr.t (by first | exact (by first | (apply is_true; and_intros <;> (first | rfl | assumption | (apply spec_l01PutUint_cc <;> assumption) | (apply spec_EncodePipeline_cc <;> assumption) | (apply impl_encodePipeline_cc <;> assumption) | (apply impl_EncodePipeline_cc <;> assumption) | (first | (apply is_true; and_intros <;> (first | rfl | assumption | (apply spec_l01PutUint_cc <;> assumption) | (apply spec_EncodePipeline_cc <;> assumption) | (apply impl_encodePipeline_cc <;> assumption) | (apply impl_EncodePipeline_cc <;> assumption) | (first | (apply is_true; and_intros <;> (first | rfl | assumption | (apply spec_l01PutUint_cc <;> assumption) | (apply spec_EncodePipeline_cc <;> assumption) | (apply impl_encodePipeline_cc <;> assumption) | (apply impl_EncodePipeline_cc <;> assumption) | (first | (apply is_true; and_intros <;> (first | rfl | assumption | (apply spec_l01PutUint_cc <;> assumption) | (apply spec_EncodePipeline_cc <;> assumption) | (apply impl_encodePipeline_cc <;> assumption) | (apply impl_EncodePipeline_cc <;> assumption))) | (apply spec_l01PutUint_cc <;> assumption) | (apply spec_EncodePipeline_cc <;> assumption) | (apply impl_encodePipeline_cc <;> assumption) | (apply impl_EncodePipeline_cc <;> assumption)))) | (apply spec_l01PutUint_cc <;> assumption) | (apply spec_EncodePipeline_cc <;> assumption) | (apply impl_encodePipeline_cc <;> assumption) | (apply impl_EncodePipeline_cc <;> assumption)))) | (apply spec_l01PutUint_cc <;> assumption) | (apply spec_EncodePipeline_cc <;> assumption) | (apply impl_encodePipeline_cc <;> assumption) | (apply impl_EncodePipeline_cc <;> assumption)))) | (apply spec_l01PutUint_cc <;> assumption) | (apply spec_EncodePipeline_cc <;> assumption) | (apply impl_encodePipeline_cc <;> assumption) | (apply impl_EncodePipeline_cc <;> assumption)) | simp [*]) ?_
  refine Tr.t (by first | exact (by first | (apply is_true; and_intros <;> (first | rfl | assumption | (apply spec_l01PutUint_cc <;> assumption) | (apply spec_EncodePipeline_cc <;> assumption) | (apply impl_encodePipeline_cc <;> assumption) | (apply impl_EncodePipeline_cc <;> assumption) | (first | (apply is_true; and_intros <;> (first | rfl | assumption | (apply spec_l01PutUint_cc <;> assumption) | (apply spec_EncodePipeline_cc <;> assumption) | (apply impl_encodePipeline_cc <;> assumption) | (apply impl_EncodePipeline_cc <;> assumption) | (first | (apply is_true; and_intros <;> (first | rfl | assumption | (apply spec_l01PutUint_cc <;> assumption) | (apply spec_EncodePipeline_cc <;> assumption) | (apply impl_encodePipeline_cc <;> assumption) | (apply impl_EncodePipeline_cc <;> assumption) | (first | (apply is_true; and_intros <;> (first | rfl | assumption | (apply spec_l01PutUint_cc <;> assumption) | (apply spec_EncodePipeline_cc <;> assumption) | (apply impl_encodePipeline_cc <;> assumption) | (apply impl_EncodePipeline_cc <;> assumption))) | (apply spec_l01PutUint_cc <;> assumption) | (apply spec_EncodePipeline_cc <;> assumption) | (apply impl_encodePipeline_cc <;> assumption) | (apply impl_EncodePipeline_cc <;> assumption)))) | (apply spec_l01PutUint_cc <;> assumption) | (apply spec_EncodePipeline_cc <;> assumption) | (apply impl_encodePipeline_cc <;> assumption) | (apply impl_EncodePipeline_cc <;> assumption)))) | (apply spec_l01PutUint_cc <;> assumption) | (apply spec_EncodePipeline_cc <;> assumption) | (apply impl_encodePipeline_cc <;> assumption) | (apply impl_EncodePipeline_cc <;> assumption)))) | (apply spec_l01PutUint_cc <;> assumption) | (apply spec_EncodePipeline_cc <;> assumption) | (apply impl_encodePipeline_cc <;> assumption) | (apply impl_EncodePipeline_cc <;> assumption)) | simp [*]) ?_
  refine Tr.n (by first | (simp [laws_szFilterS_v, laws_toFilter_v, laws_toFilterS_u3_1, laws_toFilterS_v, spec_l00In_v, spec_l18Ok_v, spec_l19Ok_k2_1, spec_l19Ok_v, spec_l01Bytes_u3_1, spec_l01Bytes_v, spec_l01PutUint_v, spec_l19Flag_v, spec_EncodePipeline_u5_1, spec_EncodePipeline_vv, impl_within_v, impl_isWidth_v, impl_ValidFilter_v, impl_ValidPipeline_1_v, slices_IndexFunc_impl_Filter_impl_Filter_k2_1, slices_IndexFunc_impl_Filter_impl_Filter_u2_3, slices_IndexFunc_impl_Filter_impl_Filter_v, slices_ContainsFunc_impl_Filter_impl_Filter_v, impl_ValidPipeline_v, impl_putBytes_u3_1, impl_putBytes_v, impl_truth_v, impl_encodePipeline_u3_1, impl_encodePipeline_vv, impl_EncodePipeline_vv, laws_eqFilter_v, laws_eqFilterS_v]; done) | (simp only [laws_szFilterS_v, laws_toFilter_v, laws_toFilterS_u3_1, laws_toFilterS_v, spec_l00In_v, spec_l18Ok_v, spec_l19Ok_k2_1, spec_l19Ok_v, spec_l01Bytes_u3_1, spec_l01Bytes_v, spec_l01PutUint_v, spec_l19Flag_v, spec_EncodePipeline_u5_1, spec_EncodePipeline_vv, impl_within_v, impl_isWidth_v, impl_ValidFilter_v, impl_ValidPipeline_1_v, slices_IndexFunc_impl_Filter_impl_Filter_k2_1, slices_IndexFunc_impl_Filter_impl_Filter_u2_3, slices_IndexFunc_impl_Filter_impl_Filter_v, slices_ContainsFunc_impl_Filter_impl_Filter_v, impl_ValidPipeline_v, impl_putBytes_u3_1, impl_putBytes_v, impl_truth_v, impl_encodePipeline_u3_1, impl_encodePipeline_vv, impl_EncodePipeline_vv, laws_eqFilter_v, laws_eqFilterS_v, nth0, nth1, nth2, nth3, nth4, nth5, int_i, bool_b, str_s, list_l, cells_p, Bool.not_eq_true, bne_self_eq_false, beq_self_eq_true, Bool.not_true]; done) | (simp [laws_szFilterS_v, laws_toFilter_v, laws_toFilterS_u3_1, laws_toFilterS_v, spec_l00In_v, spec_l18Ok_v, spec_l19Ok_k2_1, spec_l19Ok_v, spec_l01Bytes_u3_1, spec_l01Bytes_v, spec_l01PutUint_v, spec_l19Flag_v, spec_EncodePipeline_u5_1, spec_EncodePipeline_vv, impl_within_v, impl_isWidth_v, impl_ValidFilter_v, impl_ValidPipeline_1_v, slices_IndexFunc_impl_Filter_impl_Filter_k2_1, slices_IndexFunc_impl_Filter_impl_Filter_u2_3, slices_IndexFunc_impl_Filter_impl_Filter_v, slices_ContainsFunc_impl_Filter_impl_Filter_v, impl_ValidPipeline_v, impl_putBytes_u3_1, impl_putBytes_v, impl_truth_v, impl_encodePipeline_u3_1, impl_encodePipeline_vv, impl_EncodePipeline_vv, laws_eqFilter_v, laws_eqFilterS_v, nth0, nth1, nth2, nth3, nth4, nth5, int_i, bool_b, str_s, list_l, cells_p]; done) | (simp [laws_szFilterS_v, laws_toFilter_v, laws_toFilterS_u3_1, laws_toFilterS_v, spec_l00In_v, spec_l18Ok_v, spec_l19Ok_k2_1, spec_l19Ok_v, spec_l01Bytes_u3_1, spec_l01Bytes_v, spec_l01PutUint_v, spec_l19Flag_v, spec_EncodePipeline_u5_1, spec_EncodePipeline_vv, impl_within_v, impl_isWidth_v, impl_ValidFilter_v, impl_ValidPipeline_1_v, slices_IndexFunc_impl_Filter_impl_Filter_k2_1, slices_IndexFunc_impl_Filter_impl_Filter_u2_3, slices_IndexFunc_impl_Filter_impl_Filter_v, slices_ContainsFunc_impl_Filter_impl_Filter_v, impl_ValidPipeline_v, impl_putBytes_u3_1, impl_putBytes_v, impl_truth_v, impl_encodePipeline_u3_1, impl_encodePipeline_vv, impl_EncodePipeline_vv, laws_eqFilter_v, laws_eqFilterS_v, nth0, nth1, nth2, nth3, nth4, nth5, int_i, bool_b, str_s, list_l, cells_p] <;> rfl)) ?_
  refine Tr.t (by first | exact (by first | (apply is_true; and_intros <;> (first | rfl | assumption | (apply spec_l01PutUint_cc <;> assumption) | (apply spec_EncodePipeline_cc <;> assumption) | (apply impl_encodePipeline_cc <;> assumption) | (apply impl_EncodePipeline_cc <;> assumption) | (first | (apply is_true; and_intros <;> (first | rfl | assumption | (apply spec_l01PutUint_cc <;> assumption) | (apply spec_EncodePipeline_cc <;> assumption) | (apply impl_encodePipeline_cc <;> assumption) | (apply impl_EncodePipeline_cc <;> assumption) | (first | (apply is_true; and_intros <;> (first | rfl | assumption | (apply spec_l01PutUint_cc <;> assumption) | (apply spec_EncodePipeline_cc <;> assumption) | (apply impl_encodePipeline_cc <;> assumption) | (apply impl_EncodePipeline_cc <;> assumption) | (first | (apply is_true; and_intros <;> (first | rfl | assumption | (apply spec_l01PutUint_cc <;> assumption) | (apply spec_EncodePipeline_cc <;> assumption) | (apply impl_encodePipeline_cc <;> assumption) | (apply impl_EncodePipeline_cc <;> assumption))) | (apply spec_l01PutUint_cc <;> assumption) | (apply spec_EncodePipeline_cc <;> assumption) | (apply impl_encodePipeline_cc <;> assumption) | (apply impl_EncodePipeline_cc <;> assumption)))) | (apply spec_l01PutUint_cc <;> assumption) | (apply spec_EncodePipeline_cc <;> assumption) | (apply impl_encodePipeline_cc <;> assumption) | (apply impl_EncodePipeline_cc <;> assumption)))) | (apply spec_l01PutUint_cc <;> assumption) | (apply spec_EncodePipeline_cc <;> assumption) | (apply impl_encodePipeline_cc <;> assumption) | (apply impl_EncodePipeline_cc <;> assumption)))) | (apply spec_l01PutUint_cc <;> assumption) | (apply spec_EncodePipeline_cc <;> assumption) | (apply impl_encodePipeline_cc <;> assumption) | (apply impl_EncodePipeline_cc <;> assumption)) | simp [*]) ?_
  refine Tr.t (by first | exact (by first | (apply is_true; and_intros <;> (first | rfl | assumption | (apply spec_l01PutUint_cc <;> assumption) | (apply spec_EncodePipeline_cc <;> assumption) | (apply impl_encodePipeline_cc <;> assumption) | (apply impl_EncodePipeline_cc <;> assumption) | (first | (apply is_true; and_intros <;> (first | rfl | assumption | (apply spec_l01PutUint_cc <;> assumption) | (apply spec_EncodePipeline_cc <;> assumption) | (apply impl_encodePipeline_cc <;> assumption) | (apply impl_EncodePipeline_cc <;> assumption) | (first | (apply is_true; and_intros <;> (first | rfl | assumption | (apply spec_l01PutUint_cc <;> assumption) | (apply spec_EncodePipeline_cc <;> assumption) | (apply impl_encodePipeline_cc <;> assumption) | (apply impl_EncodePipeline_cc <;> assumption) | (first | (apply is_true; and_intros <;> (first | rfl | assumption | (apply spec_l01PutUint_cc <;> assumption) | (apply spec_EncodePipeline_cc <;> assumption) | (apply impl_encodePipeline_cc <;> assumption) | (apply impl_EncodePipeline_cc <;> assumption))) | (apply spec_l01PutUint_cc <;> assumption) | (apply spec_EncodePipeline_cc <;> assumption) | (apply impl_encodePipeline_cc <;> assumption) | (apply impl_EncodePipeline_cc <;> assumption)))) | (apply spec_l01PutUint_cc <;> assumption) | (apply spec_EncodePipeline_cc <;> assumption) | (apply impl_encodePipeline_cc <;> assumption) | (apply impl_EncodePipeline_cc <;> assumption)))) | (apply spec_l01PutUint_cc <;> assumption) | (apply spec_EncodePipeline_cc <;> assumption) | (apply impl_encodePipeline_cc <;> assumption) | (apply impl_EncodePipeline_cc <;> assumption)))) | (apply spec_l01PutUint_cc <;> assumption) | (apply spec_EncodePipeline_cc <;> assumption) | (apply impl_encodePipeline_cc <;> assumption) | (apply impl_EncodePipeline_cc <;> assumption)) | simp [*]) ?_
  refine Tr.n (by first | (simp [laws_szFilterS_v, laws_toFilter_v, laws_toFilterS_u3_1, laws_toFilterS_v, spec_l00In_v, spec_l18Ok_v, spec_l19Ok_k2_1, spec_l19Ok_v, spec_l01Bytes_u3_1, spec_l01Bytes_v, spec_l01PutUint_v, spec_l19Flag_v, spec_EncodePipeline_u5_1, spec_EncodePipeline_vv, impl_within_v, impl_isWidth_v, impl_ValidFilter_v, impl_ValidPipeline_1_v, slices_IndexFunc_impl_Filter_impl_Filter_k2_1, slices_IndexFunc_impl_Filter_impl_Filter_u2_3, slices_IndexFunc_impl_Filter_impl_Filter_v, slices_ContainsFunc_impl_Filter_impl_Filter_v, impl_ValidPipeline_v, impl_putBytes_u3_1, impl_putBytes_v, impl_truth_v, impl_encodePipeline_u3_1, impl_encodePipeline_vv, impl_EncodePipeline_vv, laws_eqFilter_v, laws_eqFilterS_v]; done) | (simp only [laws_szFilterS_v, laws_toFilter_v, laws_toFilterS_u3_1, laws_toFilterS_v, spec_l00In_v, spec_l18Ok_v, spec_l19Ok_k2_1, spec_l19Ok_v, spec_l01Bytes_u3_1, spec_l01Bytes_v, spec_l01PutUint_v, spec_l19Flag_v, spec_EncodePipeline_u5_1, spec_EncodePipeline_vv, impl_within_v, impl_isWidth_v, impl_ValidFilter_v, impl_ValidPipeline_1_v, slices_IndexFunc_impl_Filter_impl_Filter_k2_1, slices_IndexFunc_impl_Filter_impl_Filter_u2_3, slices_IndexFunc_impl_Filter_impl_Filter_v, slices_ContainsFunc_impl_Filter_impl_Filter_v, impl_ValidPipeline_v, impl_putBytes_u3_1, impl_putBytes_v, impl_truth_v, impl_encodePipeline_u3_1, impl_encodePipeline_vv, impl_EncodePipeline_vv, laws_eqFilter_v, laws_eqFilterS_v, nth0, nth1, nth2, nth3, nth4, nth5, int_i, bool_b, str_s, list_l, cells_p, Bool.not_eq_true, bne_self_eq_false, beq_self_eq_true, Bool.not_true]; done) | (simp [laws_szFilterS_v, laws_toFilter_v, laws_toFilterS_u3_1, laws_toFilterS_v, spec_l00In_v, spec_l18Ok_v, spec_l19Ok_k2_1, spec_l19Ok_v, spec_l01Bytes_u3_1, spec_l01Bytes_v, spec_l01PutUint_v, spec_l19Flag_v, spec_EncodePipeline_u5_1, spec_EncodePipeline_vv, impl_within_v, impl_isWidth_v, impl_ValidFilter_v, impl_ValidPipeline_1_v, slices_IndexFunc_impl_Filter_impl_Filter_k2_1, slices_IndexFunc_impl_Filter_impl_Filter_u2_3, slices_IndexFunc_impl_Filter_impl_Filter_v, slices_ContainsFunc_impl_Filter_impl_Filter_v, impl_ValidPipeline_v, impl_putBytes_u3_1, impl_putBytes_v, impl_truth_v, impl_encodePipeline_u3_1, impl_encodePipeline_vv, impl_EncodePipeline_vv, laws_eqFilter_v, laws_eqFilterS_v, nth0, nth1, nth2, nth3, nth4, nth5, int_i, bool_b, str_s, list_l, cells_p]; done) | (simp [laws_szFilterS_v, laws_toFilter_v, laws_toFilterS_u3_1, laws_toFilterS_v, spec_l00In_v, spec_l18Ok_v, spec_l19Ok_k2_1, spec_l19Ok_v, spec_l01Bytes_u3_1, spec_l01Bytes_v, spec_l01PutUint_v, spec_l19Flag_v, spec_EncodePipeline_u5_1, spec_EncodePipeline_vv, impl_within_v, impl_isWidth_v, impl_ValidFilter_v, impl_ValidPipeline_1_v, slices_IndexFunc_impl_Filter_impl_Filter_k2_1, slices_IndexFunc_impl_Filter_impl_Filter_u2_3, slices_IndexFunc_impl_Filter_impl_Filter_v, slices_ContainsFunc_impl_Filter_impl_Filter_v, impl_ValidPipeline_v, impl_putBytes_u3_1, impl_putBytes_v, impl_truth_v, impl_encodePipeline_u3_1, impl_encodePipeline_vv, impl_EncodePipeline_vv, laws_eqFilter_v, laws_eqFilterS_v, nth0, nth1, nth2, nth3, nth4, nth5, int_i, bool_b, str_s, list_l, cells_p] <;> rfl)) ?_
  rfl
theorem laws_FnExactEncodePipeline_pure : ∀ xs, ArgsTyped tab [30] xs → runF tab FT D23 live 11 noLoops xs = yes := by
  intro xs h
  cases h with | cons l0 g0 h =>
  obtain ⟨z0_0, rfl⟩ := len_1 l0
  have q0 := g0 0 (by decide)
  have q0 : Typed tab (.slice 82) z0_0 := q0
  obtain ⟨y0, rfl⟩ := typed_slice q0
  cases h
  refine (laws_FnExactEncodePipeline_e y0).trans ?_
  rw [Tr.run_eq, laws_FnExactEncodePipeline_p y0 q0]
  rfl
end Go.Proofs.Ytdifjmbflnkojaa.V
