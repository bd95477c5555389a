/- What the functions of FnExactValidPipeline answer. No condition. -/
import Derived.Test.YtnlpkmkkidpfhaaVFacts
namespace Go.Proofs.Ytnlpkmkkidpfhaa.V
open Go
set_option maxRecDepth 100000
set_option linter.unusedVariables false
set_option linter.unusedSimpArgs false
/-! laws_szFilterS -/
noncomputable def laws_szFilterS_t (a0 : List (List TC)) (a1 : Int) : Tr (Int) := (.ite ((decide ((IntKind.wrap .i64 (a1 - (a0.length : Int))) < (0 : Int))) = true) (.ok (-1 : Int))
  (.ok (IntKind.wrap .i64 (a1 - (a0.length : Int)))))
def laws_szFilterS_mk (p : Int) : Res := [(false, [⟨.int .i64, .sh, .i p⟩])]
noncomputable def laws_szFilterS_c (a0 : List (List TC)) (a1 : Int) : Bool := true
noncomputable def laws_szFilterS_v (a0 : List (List TC)) (a1 : Int) : Int := (bif (decide ((IntKind.wrap .i64 (a1 - (a0.length : Int))) < (0 : Int))) then (-1 : Int) else (IntKind.wrap .i64 (a1 - (a0.length : Int))))
theorem laws_szFilterS_l (a0 : List (List TC)) (a1 : Int) : (laws_szFilterS_c a0 a1) = true → (laws_szFilterS_t a0 a1).val = some (laws_szFilterS_v a0 a1) := by
  intro h
  skip
  unfold laws_szFilterS_t laws_szFilterS_v
  exact (Tr.s rfl rfl)
noncomputable def laws_szFilterS_S : List Arg → Option (Bool × Res) := fun xs => match xs with
  | [(false, [(.slice 25, .l a0)]), (false, [(.int .i64, .i a1)])] => some (true, laws_szFilterS_mk (laws_szFilterS_v a0 a1))
  | _ => .none
theorem laws_szFilterS_e (a0 : List (List TC)) (a1 : Int) : runF tab FT D0 live 24 noLoops [(false, [(.slice 25, .l a0)]), (false, [(.int .i64, .i a1)])] = (laws_szFilterS_t a0 a1).run fun p => some (laws_szFilterS_mk p) := by kernel_rfl
theorem laws_szFilterS_s : ∀ xs r, laws_szFilterS_S xs = some (true, r) → runF tab FT D0 live 24 noLoops xs = some r := by
  intro xs r h
  unfold laws_szFilterS_S at h
  split at h
  · simp only [Option.some.injEq, Prod.mk.injEq] at h
    obtain ⟨h1, rfl⟩ := h
    exact fun_told (laws_szFilterS_e _ _) (laws_szFilterS_l _ _) rfl
  · cases h
noncomputable def D1 : Dt := also D0 24 laws_szFilterS_S
theorem d1 : DOk Go.Proofs.Try.prog tab D1 := d0.also mixed_ok tab_ok names_ok noLoops_ok laws_szFilterS_s
/-! laws_toFilter -/
noncomputable def laws_toFilter_t (a0 : Int) (a1 : Int) (a2 : Bool) : Tr (Int × Int × Bool) := .ok (a0, a1, a2)
def laws_toFilter_mk (p : Int × Int × Bool) : Res := [(true, [⟨.int .i64, .sh, .i (p.1)⟩, ⟨.int .i64, .sh, .i (p.2.1)⟩, ⟨.bool, .sh, .b (p.2.2)⟩])]
noncomputable def laws_toFilter_c (a0 : Int) (a1 : Int) (a2 : Bool) : Bool := true
noncomputable def laws_toFilter_v (a0 : Int) (a1 : Int) (a2 : Bool) : Int × Int × Bool := (a0, a1, a2)
theorem laws_toFilter_l (a0 : Int) (a1 : Int) (a2 : Bool) : (laws_toFilter_c a0 a1 a2) = true → (laws_toFilter_t a0 a1 a2).val = some (laws_toFilter_v a0 a1 a2) := by
  intro h
  skip
  unfold laws_toFilter_t laws_toFilter_v
  exact rfl
noncomputable def laws_toFilter_S : List Arg → Option (Bool × Res) := fun xs => match xs with
  | [(true, [(.int .i64, .i a0), (.int .i64, .i a1), (.bool, .b a2)])] => some (true, laws_toFilter_mk (laws_toFilter_v a0 a1 a2))
  | _ => .none
theorem laws_toFilter_e (a0 : Int) (a1 : Int) (a2 : Bool) : runF tab FT D1 live 18 noLoops [(true, [(.int .i64, .i a0), (.int .i64, .i a1), (.bool, .b a2)])] = (laws_toFilter_t a0 a1 a2).run fun p => some (laws_toFilter_mk p) := by kernel_rfl
theorem laws_toFilter_s : ∀ xs r, laws_toFilter_S xs = some (true, r) → runF tab FT D1 live 18 noLoops xs = some r := by
  intro xs r h
  unfold laws_toFilter_S at h
  split at h
  · simp only [Option.some.injEq, Prod.mk.injEq] at h
    obtain ⟨h1, rfl⟩ := h
    exact fun_told (laws_toFilter_e _ _ _) (laws_toFilter_l _ _ _) rfl
  · cases h
noncomputable def D2 : Dt := also D1 18 laws_toFilter_S
theorem d2 : DOk Go.Proofs.Try.prog tab D2 := d1.also mixed_ok tab_ok names_ok noLoops_ok laws_toFilter_s
/-! laws_toFilterS -/
def laws_toFilterS_g (x : List TC) : List TC := [.i ((nth x 0).int), .i ((nth x 1).int), .b ((nth x 2).bool)]
def laws_toFilterS_z : List TC := [.i (0 : Int), .i (0 : Int), .b false]
abbrev laws_toFilterS_3_σ := List (List TC) × List (List TC) × Int
abbrev laws_toFilterS_3_ω := (List (List TC))
noncomputable def laws_toFilterS_o3_1 (A : List (List TC)) (X : List (List TC)) (i : Int) : Bool := is (Typed tab (.slice 25) (.l A) ∧ X = List.replicate A.length laws_toFilterS_z ∧ i = 0)
noncomputable def laws_toFilterS_u3_1 (A : List (List TC)) (X : List (List TC)) (i : Int) : List (List TC) := A.map laws_toFilterS_g
noncomputable def laws_toFilterS_3_fin (A : List (List TC)) (X : List (List TC)) (i : Int) : Told laws_toFilterS_3_ω := (.leaf (laws_toFilterS_o3_1 A X i) (laws_toFilterS_u3_1 A X i))
noncomputable def laws_toFilterS_3_step (A : List (List TC)) (X : List (List TC)) (i : Int) : Tr (laws_toFilterS_3_σ ⊕ laws_toFilterS_3_ω) := (.ite ((decide (i < (A.length : Int))) = true) (.ite ((0 : Int) ≤ i ∧ i < (A.length : Int)) (.ite ((0 : Int) ≤ i ∧ i < (X.length : Int)) (.ok (.inl (A, (X.set (i).toNat (splice (row X i) 0 [.i ((nth (row A i) 0).int), .i ((nth (row A i) 1).int), .b ((nth (row A i) 2).bool)])), (IntKind.wrap .i64 (i + (1 : Int))))))
    .no)
   .no)
  (.ok (.inr X)))
def laws_toFilterS_3_sl (x : laws_toFilterS_3_σ) : List Slot := [⟨.val false [⟨.slice 25, .sh, .l (x.1)⟩], ⟨0, 0⟩⟩, ⟨.val false [⟨.slice 27, .own true, .l (x.2.1)⟩], ⟨0, 0⟩⟩, ⟨.val false [⟨.int .i64, .sh, .i (x.2.2)⟩], ⟨0, 0⟩⟩]
def laws_toFilterS_3_out : laws_toFilterS_3_ω → Ex × List Slot := (fun x => (.exit 0, [Slot.none, ⟨.val false [⟨.slice 27, .own true, .l x⟩], ⟨0, 0⟩⟩]))
noncomputable def laws_toFilterS_lo3 : List Slot → Option (Told (Ex × List Slot)) := fun s => match s with
  | [⟨.val false [⟨.slice 25, .sh, .l A⟩], ⟨0, 0⟩⟩, ⟨.val false [⟨.slice 27, .own true, .l X⟩], ⟨0, 0⟩⟩, ⟨.val false [⟨.int .i64, .sh, .i i⟩], ⟨0, 0⟩⟩] => some (((laws_toFilterS_3_fin A X i)).map laws_toFilterS_3_out)
  | _ => .none
noncomputable def laws_toFilterS_lo : LoopTeller := fun r s => bif Nat.beq r 3 then laws_toFilterS_lo3 s else .none
theorem laws_toFilterS_3_r (A : List (List TC)) (X : List (List TC)) (i : Int) (n : Nat) : rounds (rnd tab FT D2 live 26 laws_toFilterS_lo 0 3) leave (n + 1) (laws_toFilterS_3_sl (A, X, i)) = ((laws_toFilterS_3_step A X i)).run (goOn (fun s => rounds (rnd tab FT D2 live 26 laws_toFilterS_lo 0 3) leave n (laws_toFilterS_3_sl s)) fun w => some (laws_toFilterS_3_out w)) := by kernel_rfl
noncomputable def laws_toFilterS_3_st : laws_toFilterS_3_σ → Tr (laws_toFilterS_3_σ ⊕ laws_toFilterS_3_ω) := fun x => (laws_toFilterS_3_step (x.1) (x.2.1) (x.2.2))
theorem laws_toFilterS_3_h (A : List (List TC)) (X : List (List TC)) (i : Int) (w : laws_toFilterS_3_ω) : ((laws_toFilterS_3_fin A X i)).val = some w → ∃ n, loopN laws_toFilterS_3_st n (A, X, i) = some w := by
  intro h
  simp only [laws_toFilterS_3_fin, Told.val] at h
  split at h
  · rename_i ho
    obtain ⟨ht, rfl, rfl⟩ := is_iff.1 ho
    cases h
    have hlen : A.length ≤ 140737488351232 := by have := typed_room ht; simp only [show (tab 25).bytes = 24 from rfl] at this; omega
    have key := loopN_copy (step := laws_toFilterS_3_st) A (List.replicate A.length laws_toFilterS_z) laws_toFilterS_g (fun Y i => (A, Y, (i : Int))) (A.map laws_toFilterS_g) (by simp) (fun x hx i _ => by rw [(List.mem_replicate.1 hx).2]; exact Nat.le_refl 3) (fun Y i hi hl => ?_) ?_ A.length 0 (by omega)
    · rw [copied_zero] at key
      exact ⟨_, key⟩
    · skip
      show (laws_toFilterS_3_step A Y (i : Int)).val = _
      unfold laws_toFilterS_3_step
      refine Tr.t (by simp; omega) ?_
      refine Tr.t (by constructor <;> omega) ?_
      refine Tr.t (by constructor <;> omega) ?_
      repeat (refine Tr.t (is_true (by and_intros <;> (first | rfl | assumption | exact (is_true (by and_intros <;> (first | rfl | assumption | exact (is_true (by and_intros <;> (first | rfl | assumption | exact (is_true (by and_intros <;> (first | rfl | assumption | exact (is_true (by and_intros <;> (first | rfl | assumption))))))))))))))) ?_)
      rw [Tr.val_ok, wrap64 (by omega) (by omega)]; rfl
    · show (laws_toFilterS_3_step A (A.map laws_toFilterS_g) (A.length : Int)).val = _
      refine Tr.n (by simp) ?_
      rfl
  · cases h
theorem laws_toFilterS_is3 : LoopIs tab FT D2 live 26 laws_toFilterS_lo 0 3 := by
  refine loop_told (sl := laws_toFilterS_3_sl) (step := laws_toFilterS_3_st) (out := laws_toFilterS_3_out) (lor := laws_toFilterS_lo3) (fin := fun x => (laws_toFilterS_3_fin (x.1) (x.2.1) (x.2.2))) (fun _ => rfl) ?_ (fun x n => laws_toFilterS_3_r x.1 x.2.1 x.2.2 n) (fun x w => laws_toFilterS_3_h x.1 x.2.1 x.2.2 w)
  intro s t h
  unfold laws_toFilterS_lo3 at h
  split at h
  · cases h; exact ⟨(_, _, _), rfl, rfl⟩
  · cases h
noncomputable def laws_toFilterS_t (A : List (List TC)) : Tr (List (List TC)) := (.ite (0 ≤ (A.length : Int) ∧ (A.length : Int) ≤ (A.length : Int) ∧ (A.length : Int) * 24 ≤ 140737488355328 ∧ (A.length : Int) ≤ 140737488355328) (.ite ((laws_toFilterS_o3_1 A (List.replicate ((A.length : Int)).toNat [.i (0 : Int), .i (0 : Int), .b false]) (0 : Int)) = true) (.ok (laws_toFilterS_u3_1 A (List.replicate ((A.length : Int)).toNat [.i (0 : Int), .i (0 : Int), .b false]) (0 : Int)))
   .no)
  .no)
def laws_toFilterS_mk (p : List (List TC)) : Res := [(false, [⟨.slice 27, .own true, .l p⟩])]
noncomputable def laws_toFilterS_c (A : List (List TC)) : Bool := is (Typed tab (.slice 25) (.l A))
noncomputable def laws_toFilterS_v (A : List (List TC)) : List (List TC) := A.map laws_toFilterS_g
theorem laws_toFilterS_l (A : List (List TC)) : (laws_toFilterS_c A) = true → (laws_toFilterS_t A).val = some (laws_toFilterS_v A) := by
  intro h
  have ht := is_iff.1 h
  have hb := typed_room ht
  simp only [show (tab 25).bytes = 24 from rfl] at hb
  unfold laws_toFilterS_t
  refine Tr.t (by omega) ?_
  refine Tr.t (is_true ⟨ht, by rfl, rfl⟩) ?_
  rfl
noncomputable def laws_toFilterS_S : List Arg → Option (Bool × Res) := fun xs => match xs with
  | [(false, [(.slice 25, .l A)])] => some ((laws_toFilterS_c A), laws_toFilterS_mk (laws_toFilterS_v A))
  | _ => .none
theorem laws_toFilterS_e (A : List (List TC)) : runF tab FT D2 live 26 laws_toFilterS_lo [(false, [(.slice 25, .l A)])] = (laws_toFilterS_t A).run fun p => some (laws_toFilterS_mk p) := by kernel_rfl
theorem laws_toFilterS_s : ∀ xs r, laws_toFilterS_S xs = some (true, r) → runF tab FT D2 live 26 laws_toFilterS_lo xs = some r := by
  intro xs r h
  unfold laws_toFilterS_S at h
  split at h
  · simp only [Option.some.injEq, Prod.mk.injEq] at h
    obtain ⟨h1, rfl⟩ := h
    exact fun_told (laws_toFilterS_e _) (laws_toFilterS_l _) h1
  · cases h
noncomputable def D3 : Dt := also D2 26 laws_toFilterS_S
theorem d3 : DOk Go.Proofs.Try.prog tab D3 := d2.also mixed_ok tab_ok names_ok (fnLoops_one (by kernel_rfl) laws_toFilterS_is3) laws_toFilterS_s
theorem laws_toFilterS_ty {A : List (List TC)} (h : Typed tab (.slice 25) (.l A)) : Typed tab (.slice 27) (.l (A.map laws_toFilterS_g)) := by
  refine typed_map h (by decide) fun x _ _ hx => ⟨rfl, fun k hk => ?_⟩
  match k, hk with
    | 0, _ => exact typed_i (hx 0 (by decide))
    | 1, _ => exact typed_i (hx 1 (by decide))
    | 2, _ => exact typed_b (hx 2 (by decide))
/-! spec_l00In -/
noncomputable def spec_l00In_t (a0 : Int) (a1 : Int) (a2 : Int) : Tr (Bool) := (.ite ((decide (a0 ≥ a1)) = true) (.ok (decide (a0 ≤ a2)))
  (.ok false))
def spec_l00In_mk (p : Bool) : Res := [(false, [⟨.bool, .sh, .b p⟩])]
noncomputable def spec_l00In_c (a0 : Int) (a1 : Int) (a2 : Int) : Bool := true
noncomputable def spec_l00In_v (a0 : Int) (a1 : Int) (a2 : Int) : Bool := (bif (decide (a0 ≥ a1)) then (decide (a0 ≤ a2)) else false)
theorem spec_l00In_l (a0 : Int) (a1 : Int) (a2 : Int) : (spec_l00In_c a0 a1 a2) = true → (spec_l00In_t a0 a1 a2).val = some (spec_l00In_v a0 a1 a2) := by
  intro h
  skip
  unfold spec_l00In_t spec_l00In_v
  exact (Tr.s rfl rfl)
noncomputable def spec_l00In_S : List Arg → Option (Bool × Res) := fun xs => match xs with
  | [(false, [(.int .i64, .i a0)]), (false, [(.int .i64, .i a1)]), (false, [(.int .i64, .i a2)])] => some (true, spec_l00In_mk (spec_l00In_v a0 a1 a2))
  | _ => .none
theorem spec_l00In_e (a0 : Int) (a1 : Int) (a2 : Int) : runF tab FT D3 live 58 noLoops [(false, [(.int .i64, .i a0)]), (false, [(.int .i64, .i a1)]), (false, [(.int .i64, .i a2)])] = (spec_l00In_t a0 a1 a2).run fun p => some (spec_l00In_mk p) := by kernel_rfl
theorem spec_l00In_s : ∀ xs r, spec_l00In_S xs = some (true, r) → runF tab FT D3 live 58 noLoops xs = some r := by
  intro xs r h
  unfold spec_l00In_S at h
  split at h
  · simp only [Option.some.injEq, Prod.mk.injEq] at h
    obtain ⟨h1, rfl⟩ := h
    exact fun_told (spec_l00In_e _ _ _) (spec_l00In_l _ _ _) rfl
  · cases h
noncomputable def D4 : Dt := also D3 58 spec_l00In_S
theorem d4 : DOk Go.Proofs.Try.prog tab D4 := d3.also mixed_ok tab_ok names_ok noLoops_ok spec_l00In_s
def okFil (k p : Int) (o : Bool) : Bool :=
  bif k == 1 then (decide (p ≥ 1) && decide (p ≤ 24)) && !o else bif k == 2 then (p == 1 || p == 2 || p == 4) && !o else bif k == 3 then p == 0 else bif k == 4 then p == 0 else k == 5 && p == 0 && !o
def okFilR (x : List TC) : Bool := okFil (nth x 0).int (nth x 1).int (nth x 2).bool
/-! spec_l18Ok -/
noncomputable def spec_l18Ok_t (k : Int) (p : Int) (o : Bool) : Tr (Bool) := (.ite ((k == (1 : Int)) = true) (.ite ((spec_l00In_v p (1 : Int) (24 : Int)) = true) (.ok (!o))
   (.ok false))
  (.ite ((k == (2 : Int)) = true) (.ite ((p == (1 : Int)) = true) (.ok (!o))
    (.ite ((p == (2 : Int)) = true) (.ok (!o))
     (.ite ((p == (4 : Int)) = true) (.ok (!o))
      (.ok false))))
   (.ite ((k == (3 : Int)) = true) (.ok (p == (0 : Int)))
    (.ite ((k == (4 : Int)) = true) (.ok (p == (0 : Int)))
     (.ite ((k == (5 : Int)) = true) (.ite ((p == (0 : Int)) = true) (.ok (!o))
       (.ok false))
      (.ok false))))))
def spec_l18Ok_mk (p : Bool) : Res := [(false, [⟨.bool, .sh, .b p⟩])]
noncomputable def spec_l18Ok_c (k : Int) (p : Int) (o : Bool) : Bool := true
noncomputable def spec_l18Ok_v (k : Int) (p : Int) (o : Bool) : Bool := okFil k p o
theorem spec_l18Ok_l (k : Int) (p : Int) (o : Bool) : (spec_l18Ok_c k p o) = true → (spec_l18Ok_t k p o).val = some (spec_l18Ok_v k p o) := by
  intro _
  unfold spec_l18Ok_t
  simp only [Tr.val_br, Tr.val_ok]
  simp only [ite_bif, somebif]
  refine congrArg some ?_
  unfold spec_l18Ok_v
  unfold okFil
  simp only [spec_l00In_v]
  generalize (k == 1) = p0, (k == 2) = p1, (k == 3) = p2, (k == 4) = p3, (k == 5) = p4, (p == 0) = p5, decide (p ≥ 1) = p6, decide (p ≤ 24) = p7, (p == 1) = p8, (p == 2) = p9, (p == 4) = p10, o = p11
  revert p0 p1 p2 p3 p4 p5 p6 p7 p8 p9 p10 p11
  decide
noncomputable def spec_l18Ok_S : List Arg → Option (Bool × Res) := fun xs => match xs with
  | [(true, [(.int .i64, .i k), (.int .i64, .i p), (.bool, .b o)])] => some (true, spec_l18Ok_mk (spec_l18Ok_v k p o))
  | _ => .none
theorem spec_l18Ok_e (k : Int) (p : Int) (o : Bool) : runF tab FT D4 live 55 noLoops [(true, [(.int .i64, .i k), (.int .i64, .i p), (.bool, .b o)])] = (spec_l18Ok_t k p o).run fun p => some (spec_l18Ok_mk p) := by kernel_rfl
theorem spec_l18Ok_s : ∀ xs r, spec_l18Ok_S xs = some (true, r) → runF tab FT D4 live 55 noLoops xs = some r := by
  intro xs r h
  unfold spec_l18Ok_S at h
  split at h
  · simp only [Option.some.injEq, Prod.mk.injEq] at h
    obtain ⟨h1, rfl⟩ := h
    exact fun_told (spec_l18Ok_e _ _ _) (spec_l18Ok_l _ _ _) rfl
  · cases h
noncomputable def D5 : Dt := also D4 55 spec_l18Ok_S
theorem d5 : DOk Go.Proofs.Try.prog tab D5 := d4.also mixed_ok tab_ok names_ok noLoops_ok spec_l18Ok_s
/-! spec_l19Ok -/
abbrev spec_l19Ok_2_σ := List (List TC) × Int
abbrev spec_l19Ok_2_ω := (List (List TC)) ⊕ (List (List TC))
noncomputable def spec_l19Ok_k2_1 (A : List (List TC)) (i : Int) : Bool := A.all okFilR
noncomputable def spec_l19Ok_o2_2 (A : List (List TC)) (i : Int) : Bool := is (i = 0 ∧ Typed tab (.slice 27) (.l A))
noncomputable def spec_l19Ok_u2_2 (A : List (List TC)) (i : Int) : List (List TC) := A
noncomputable def spec_l19Ok_o2_3 (A : List (List TC)) (i : Int) : Bool := is (i = 0 ∧ Typed tab (.slice 27) (.l A))
noncomputable def spec_l19Ok_u2_3 (A : List (List TC)) (i : Int) : List (List TC) := A
noncomputable def spec_l19Ok_2_fin (A : List (List TC)) (i : Int) : Told spec_l19Ok_2_ω := (.br (spec_l19Ok_k2_1 A i) (.leaf (spec_l19Ok_o2_2 A i) (.inr (spec_l19Ok_u2_2 A i))) (.leaf (spec_l19Ok_o2_3 A i) (.inl (spec_l19Ok_u2_3 A i))))
noncomputable def spec_l19Ok_2_step (A : List (List TC)) (i : Int) : Tr (spec_l19Ok_2_σ ⊕ spec_l19Ok_2_ω) := (.ite ((decide (i < (A.length : Int))) = true) (.ite ((0 : Int) ≤ i ∧ i < (A.length : Int)) (.ite ((!(spec_l18Ok_v ((nth (row A i) 0).int) ((nth (row A i) 1).int) ((nth (row A i) 2).bool))) = true) (.ok (.inr (.inl A)))
    (.ok (.inl (A, (IntKind.wrap .i64 (i + (1 : Int)))))))
   .no)
  (.ok (.inr (.inr A))))
def spec_l19Ok_2_sl (x : spec_l19Ok_2_σ) : List Slot := [⟨.val false [⟨.slice 27, .sh, .l (x.1)⟩], ⟨0, 0⟩⟩, ⟨.val false [⟨.int .i64, .sh, .i (x.2)⟩], ⟨0, 0⟩⟩]
def spec_l19Ok_2_out : spec_l19Ok_2_ω → Ex × List Slot := (Sum.elim (fun x => (.ret, [⟨.val false [⟨.slice 27, .sh, .l x⟩], ⟨0, 0⟩⟩, ⟨.val false [⟨.bool, .sh, .b false⟩], ⟨0, 0⟩⟩])) (fun x => (.exit 0, [⟨.val false [⟨.slice 27, .sh, .l x⟩], ⟨0, 0⟩⟩, Slot.none])))
noncomputable def spec_l19Ok_lo2 : List Slot → Option (Told (Ex × List Slot)) := fun s => match s with
  | [⟨.val false [⟨.slice 27, .sh, .l A⟩], ⟨0, 0⟩⟩, ⟨.val false [⟨.int .i64, .sh, .i i⟩], ⟨0, 0⟩⟩] => some (((spec_l19Ok_2_fin A i)).map spec_l19Ok_2_out)
  | _ => .none
noncomputable def spec_l19Ok_lo : LoopTeller := fun r s => bif Nat.beq r 2 then spec_l19Ok_lo2 s else .none
theorem spec_l19Ok_2_r (A : List (List TC)) (i : Int) (n : Nat) : rounds (rnd tab FT D5 live 68 spec_l19Ok_lo 0 2) leave (n + 1) (spec_l19Ok_2_sl (A, i)) = ((spec_l19Ok_2_step A i)).run (goOn (fun s => rounds (rnd tab FT D5 live 68 spec_l19Ok_lo 0 2) leave n (spec_l19Ok_2_sl s)) fun w => some (spec_l19Ok_2_out w)) := by kernel_rfl
noncomputable def spec_l19Ok_2_st : spec_l19Ok_2_σ → Tr (spec_l19Ok_2_σ ⊕ spec_l19Ok_2_ω) := fun x => (spec_l19Ok_2_step (x.1) (x.2))
theorem spec_l19Ok_2_h (A : List (List TC)) (i : Int) (w : spec_l19Ok_2_ω) : ((spec_l19Ok_2_fin A i)).val = some w → ∃ n, loopN spec_l19Ok_2_st n (A, i) = some w := by
  intro h
  have key : Typed tab (.slice 27) (.l A) → loopN spec_l19Ok_2_st (A.length + 1) (A, (0 : Int)) = some (if A.all okFilR = true then (.inr A) else (.inl A)) := by
    intro ht
    have hlen : A.length ≤ 140737488351232 := by have := typed_room ht; simp only [show (tab 27).bytes = 24 from rfl] at this; omega
    have key := loopN_find (step := spec_l19Ok_2_st) A [] okFilR (fun i => (A, (i : Int))) (.inr A) (fun i => (.inl A)) (fun i hi => ?_) ?_ A.length 0 (by omega)
    · first | (rw [Nat.zero_add] at key; exact key) | exact key
    · show (spec_l19Ok_2_step A (i : Int)).val = _
      unfold spec_l19Ok_2_step
      refine Tr.t (by simp; omega) ?_
      refine Tr.t (by constructor <;> omega) ?_
      skip
      skip
      rw [wrap64 (by omega) (by omega), Tr.val_br]
      show (if (!(okFilR (A.getD i []))) = true then _ else _) = _
      cases okFilR (A.getD i []) <;> rfl
    · show (spec_l19Ok_2_step A (A.length : Int)).val = _
      refine Tr.n (by simp) ?_
      rfl
  simp only [spec_l19Ok_2_fin, Told.val] at h
  cases hk : A.all okFilR with
  | true =>
    rw [if_pos (show spec_l19Ok_k2_1 A i = true from hk)] at h
    split at h
    · rename_i ho
      obtain ⟨rfl, ht⟩ := is_iff.1 ho
      cases h
      refine ⟨_, (key ht).trans ?_⟩
      rw [hk]; rfl
    · cases h
  | false =>
    rw [if_neg (show ¬spec_l19Ok_k2_1 A i = true from by rw [show spec_l19Ok_k2_1 A i = (A.all okFilR) from rfl, hk]; simp)] at h
    split at h
    · rename_i ho
      obtain ⟨rfl, ht⟩ := is_iff.1 ho
      cases h
      refine ⟨_, (key ht).trans ?_⟩
      rw [hk]; rfl
    · cases h
theorem spec_l19Ok_is2 : LoopIs tab FT D5 live 68 spec_l19Ok_lo 0 2 := by
  refine loop_told (sl := spec_l19Ok_2_sl) (step := spec_l19Ok_2_st) (out := spec_l19Ok_2_out) (lor := spec_l19Ok_lo2) (fin := fun x => (spec_l19Ok_2_fin (x.1) (x.2))) (fun _ => rfl) ?_ (fun x n => spec_l19Ok_2_r x.1 x.2 n) (fun x w => spec_l19Ok_2_h x.1 x.2 w)
  intro s t h
  unfold spec_l19Ok_lo2 at h
  split at h
  · cases h; exact ⟨(_, _), rfl, rfl⟩
  · cases h
noncomputable def spec_l19Ok_t (A : List (List TC)) : Tr (Bool) := (.ite ((spec_l19Ok_k2_1 A (0 : Int)) = true) (.ite ((spec_l19Ok_o2_2 A (0 : Int)) = true) (.ok (decide (((spec_l19Ok_u2_2 A (0 : Int)).length : Int) ≤ (4 : Int))))
   .no)
  (.ite ((spec_l19Ok_o2_3 A (0 : Int)) = true) (.ok false)
   .no))
def spec_l19Ok_mk (p : Bool) : Res := [(false, [⟨.bool, .sh, .b p⟩])]
noncomputable def spec_l19Ok_c (A : List (List TC)) : Bool := is (Typed tab (.slice 27) (.l A))
noncomputable def spec_l19Ok_v (A : List (List TC)) : Bool := A.all okFilR && decide ((A.length : Int) ≤ 4)
theorem spec_l19Ok_l (A : List (List TC)) : (spec_l19Ok_c A) = true → (spec_l19Ok_t A).val = some (spec_l19Ok_v A) := by
  intro h
  have ht := is_iff.1 h
  unfold spec_l19Ok_t
  cases hk : A.all okFilR with
  | true =>
    refine Tr.t (show A.all okFilR = true from hk) ?_
    refine Tr.t (is_true (by and_intros <;> (first | rfl | assumption | exact (is_true (by and_intros <;> (first | rfl | assumption | exact (is_true (by and_intros <;> (first | rfl | assumption | exact (is_true (by and_intros <;> (first | rfl | assumption | exact (is_true (by and_intros <;> (first | rfl | assumption))))))))))))))) ?_
    (simp [spec_l19Ok_v, hk, spec_l19Ok_u2_2, spec_l19Ok_u2_3]) <;> rfl
  | false =>
    refine Tr.n (show ¬A.all okFilR = true from by rw [hk]; simp) ?_
    refine Tr.t (is_true (by and_intros <;> (first | rfl | assumption | exact (is_true (by and_intros <;> (first | rfl | assumption | exact (is_true (by and_intros <;> (first | rfl | assumption | exact (is_true (by and_intros <;> (first | rfl | assumption | exact (is_true (by and_intros <;> (first | rfl | assumption))))))))))))))) ?_
    (simp [spec_l19Ok_v, hk, spec_l19Ok_u2_2, spec_l19Ok_u2_3]) <;> rfl
noncomputable def spec_l19Ok_S : List Arg → Option (Bool × Res) := fun xs => match xs with
  | [(false, [(.slice 27, .l A)])] => some ((spec_l19Ok_c A), spec_l19Ok_mk (spec_l19Ok_v A))
  | _ => .none
theorem spec_l19Ok_e (A : List (List TC)) : runF tab FT D5 live 68 spec_l19Ok_lo [(false, [(.slice 27, .l A)])] = (spec_l19Ok_t A).run fun p => some (spec_l19Ok_mk p) := by kernel_rfl
theorem spec_l19Ok_s : ∀ xs r, spec_l19Ok_S xs = some (true, r) → runF tab FT D5 live 68 spec_l19Ok_lo xs = some r := by
  intro xs r h
  unfold spec_l19Ok_S at h
  split at h
  · simp only [Option.some.injEq, Prod.mk.injEq] at h
    obtain ⟨h1, rfl⟩ := h
    exact fun_told (spec_l19Ok_e _) (spec_l19Ok_l _) h1
  · cases h
noncomputable def D6 : Dt := also D5 68 spec_l19Ok_S
theorem d6 : DOk Go.Proofs.Try.prog tab D6 := d5.also mixed_ok tab_ok names_ok (fnLoops_one (by kernel_rfl) spec_l19Ok_is2) spec_l19Ok_s
/-! spec_ValidPipeline -/
noncomputable def spec_ValidPipeline_t (a0 : List (List TC)) : Tr (Bool) := (.ite ((spec_l19Ok_c a0) = true) (.ok (spec_l19Ok_v a0))
  .no)
def spec_ValidPipeline_mk (p : Bool) : Res := [(false, [⟨.bool, .sh, .b p⟩])]
noncomputable def spec_ValidPipeline_c (a0 : List (List TC)) : Bool := (spec_l19Ok_c a0)
noncomputable def spec_ValidPipeline_v (a0 : List (List TC)) : Bool := (spec_l19Ok_v a0)
theorem spec_ValidPipeline_l (a0 : List (List TC)) : (spec_ValidPipeline_c a0) = true → (spec_ValidPipeline_t a0).val = some (spec_ValidPipeline_v a0) := by
  intro h
  have hc0 : (spec_l19Ok_c a0) = true := h
  unfold spec_ValidPipeline_t
  exact (Tr.t hc0 rfl)
noncomputable def spec_ValidPipeline_S : List Arg → Option (Bool × Res) := fun xs => match xs with
  | [(false, [(.slice 27, .l a0)])] => some ((spec_ValidPipeline_c a0), spec_ValidPipeline_mk (spec_ValidPipeline_v a0))
  | _ => .none
theorem spec_ValidPipeline_e (a0 : List (List TC)) : runF tab FT D6 live 34 noLoops [(false, [(.slice 27, .l a0)])] = (spec_ValidPipeline_t a0).run fun p => some (spec_ValidPipeline_mk p) := by kernel_rfl
theorem spec_ValidPipeline_s : ∀ xs r, spec_ValidPipeline_S xs = some (true, r) → runF tab FT D6 live 34 noLoops xs = some r := by
  intro xs r h
  unfold spec_ValidPipeline_S at h
  split at h
  · simp only [Option.some.injEq, Prod.mk.injEq] at h
    obtain ⟨h1, rfl⟩ := h
    exact fun_told (spec_ValidPipeline_e _) (spec_ValidPipeline_l _) h1
  · cases h
noncomputable def D7 : Dt := also D6 34 spec_ValidPipeline_S
theorem d7 : DOk Go.Proofs.Try.prog tab D7 := d6.also mixed_ok tab_ok names_ok noLoops_ok spec_ValidPipeline_s
/-! impl_within -/
noncomputable def impl_within_t (a0 : Int) (a1 : Int) (a2 : Int) : Tr (Bool) := (.ite ((decide (a0 ≥ a1)) = true) (.ok (decide (a0 ≤ a2)))
  (.ok false))
def impl_within_mk (p : Bool) : Res := [(false, [⟨.bool, .sh, .b p⟩])]
noncomputable def impl_within_c (a0 : Int) (a1 : Int) (a2 : Int) : Bool := true
noncomputable def impl_within_v (a0 : Int) (a1 : Int) (a2 : Int) : Bool := (bif (decide (a0 ≥ a1)) then (decide (a0 ≤ a2)) else false)
theorem impl_within_l (a0 : Int) (a1 : Int) (a2 : Int) : (impl_within_c a0 a1 a2) = true → (impl_within_t a0 a1 a2).val = some (impl_within_v a0 a1 a2) := by
  intro h
  skip
  unfold impl_within_t impl_within_v
  exact (Tr.s rfl rfl)
noncomputable def impl_within_S : List Arg → Option (Bool × Res) := fun xs => match xs with
  | [(false, [(.int .i64, .i a0)]), (false, [(.int .i64, .i a1)]), (false, [(.int .i64, .i a2)])] => some (true, impl_within_mk (impl_within_v a0 a1 a2))
  | _ => .none
theorem impl_within_e (a0 : Int) (a1 : Int) (a2 : Int) : runF tab FT D7 live 56 noLoops [(false, [(.int .i64, .i a0)]), (false, [(.int .i64, .i a1)]), (false, [(.int .i64, .i a2)])] = (impl_within_t a0 a1 a2).run fun p => some (impl_within_mk p) := by kernel_rfl
theorem impl_within_s : ∀ xs r, impl_within_S xs = some (true, r) → runF tab FT D7 live 56 noLoops xs = some r := by
  intro xs r h
  unfold impl_within_S at h
  split at h
  · simp only [Option.some.injEq, Prod.mk.injEq] at h
    obtain ⟨h1, rfl⟩ := h
    exact fun_told (impl_within_e _ _ _) (impl_within_l _ _ _) rfl
  · cases h
noncomputable def D8 : Dt := also D7 56 impl_within_S
theorem d8 : DOk Go.Proofs.Try.prog tab D8 := d7.also mixed_ok tab_ok names_ok noLoops_ok impl_within_s
/-! impl_isWidth -/
noncomputable def impl_isWidth_t (a0 : Int) : Tr (Bool) := (.ite ((a0 == (1 : Int)) = true) (.ok true)
  (.ite ((a0 == (2 : Int)) = true) (.ok true)
   (.ok (a0 == (4 : Int)))))
def impl_isWidth_mk (p : Bool) : Res := [(false, [⟨.bool, .sh, .b p⟩])]
noncomputable def impl_isWidth_c (a0 : Int) : Bool := true
noncomputable def impl_isWidth_v (a0 : Int) : Bool := (bif (a0 == (1 : Int)) then true else (bif (a0 == (2 : Int)) then true else (a0 == (4 : Int))))
theorem impl_isWidth_l (a0 : Int) : (impl_isWidth_c a0) = true → (impl_isWidth_t a0).val = some (impl_isWidth_v a0) := by
  intro h
  skip
  unfold impl_isWidth_t impl_isWidth_v
  exact (Tr.s rfl (Tr.s rfl rfl))
noncomputable def impl_isWidth_S : List Arg → Option (Bool × Res) := fun xs => match xs with
  | [(false, [(.int .i64, .i a0)])] => some (true, impl_isWidth_mk (impl_isWidth_v a0))
  | _ => .none
theorem impl_isWidth_e (a0 : Int) : runF tab FT D8 live 57 noLoops [(false, [(.int .i64, .i a0)])] = (impl_isWidth_t a0).run fun p => some (impl_isWidth_mk p) := by kernel_rfl
theorem impl_isWidth_s : ∀ xs r, impl_isWidth_S xs = some (true, r) → runF tab FT D8 live 57 noLoops xs = some r := by
  intro xs r h
  unfold impl_isWidth_S at h
  split at h
  · simp only [Option.some.injEq, Prod.mk.injEq] at h
    obtain ⟨h1, rfl⟩ := h
    exact fun_told (impl_isWidth_e _) (impl_isWidth_l _) rfl
  · cases h
noncomputable def D9 : Dt := also D8 57 impl_isWidth_S
theorem d9 : DOk Go.Proofs.Try.prog tab D9 := d8.also mixed_ok tab_ok names_ok noLoops_ok impl_isWidth_s
/-! impl_ValidFilter -/
noncomputable def impl_ValidFilter_t (k : Int) (p : Int) (o : Bool) : Tr (Bool) := (.ite ((k == (1 : Int)) = true) (.ite ((impl_within_v p (1 : Int) (24 : Int)) = true) (.ok (!o))
   (.ok false))
  (.ite ((k == (2 : Int)) = true) (.ite ((impl_isWidth_v p) = true) (.ok (!o))
    (.ok false))
   (.ite ((k == (3 : Int)) = true) (.ok (p == (0 : Int)))
    (.ite ((k == (4 : Int)) = true) (.ok (p == (0 : Int)))
     (.ite ((k == (5 : Int)) = true) (.ite ((p == (0 : Int)) = true) (.ok (!o))
       (.ok false))
      (.ok false))))))
def impl_ValidFilter_mk (p : Bool) : Res := [(false, [⟨.bool, .sh, .b p⟩])]
noncomputable def impl_ValidFilter_c (k : Int) (p : Int) (o : Bool) : Bool := true
noncomputable def impl_ValidFilter_v (k : Int) (p : Int) (o : Bool) : Bool := okFil k p o
theorem impl_ValidFilter_l (k : Int) (p : Int) (o : Bool) : (impl_ValidFilter_c k p o) = true → (impl_ValidFilter_t k p o).val = some (impl_ValidFilter_v k p o) := by
  intro _
  unfold impl_ValidFilter_t
  simp only [Tr.val_br, Tr.val_ok]
  simp only [ite_bif, somebif]
  refine congrArg some ?_
  unfold impl_ValidFilter_v
  unfold okFil
  simp only [impl_within_v, impl_isWidth_v]
  generalize (k == 1) = p0, (k == 2) = p1, (k == 3) = p2, (k == 4) = p3, (k == 5) = p4, (p == 0) = p5, decide (p ≥ 1) = p6, decide (p ≤ 24) = p7, (p == 1) = p8, (p == 2) = p9, (p == 4) = p10, o = p11
  revert p0 p1 p2 p3 p4 p5 p6 p7 p8 p9 p10 p11
  decide
noncomputable def impl_ValidFilter_S : List Arg → Option (Bool × Res) := fun xs => match xs with
  | [(true, [(.int .i64, .i k), (.int .i64, .i p), (.bool, .b o)])] => some (true, impl_ValidFilter_mk (impl_ValidFilter_v k p o))
  | _ => .none
theorem impl_ValidFilter_e (k : Int) (p : Int) (o : Bool) : runF tab FT D9 live 19 noLoops [(true, [(.int .i64, .i k), (.int .i64, .i p), (.bool, .b o)])] = (impl_ValidFilter_t k p o).run fun p => some (impl_ValidFilter_mk p) := by kernel_rfl
theorem impl_ValidFilter_s : ∀ xs r, impl_ValidFilter_S xs = some (true, r) → runF tab FT D9 live 19 noLoops xs = some r := by
  intro xs r h
  unfold impl_ValidFilter_S at h
  split at h
  · simp only [Option.some.injEq, Prod.mk.injEq] at h
    obtain ⟨h1, rfl⟩ := h
    exact fun_told (impl_ValidFilter_e _ _ _) (impl_ValidFilter_l _ _ _) rfl
  · cases h
noncomputable def D10 : Dt := also D9 19 impl_ValidFilter_S
theorem d10 : DOk Go.Proofs.Try.prog tab D10 := d9.also mixed_ok tab_ok names_ok noLoops_ok impl_ValidFilter_s
/-! impl_ValidPipeline_1 -/
noncomputable def impl_ValidPipeline_1_t (a0 : Int) (a1 : Int) (a2 : Bool) : Tr (Bool) := .ok (!(impl_ValidFilter_v a0 a1 a2))
def impl_ValidPipeline_1_mk (p : Bool) : Res := [(false, [⟨.bool, .sh, .b p⟩])]
noncomputable def impl_ValidPipeline_1_c (a0 : Int) (a1 : Int) (a2 : Bool) : Bool := true
noncomputable def impl_ValidPipeline_1_v (a0 : Int) (a1 : Int) (a2 : Bool) : Bool := (!(impl_ValidFilter_v a0 a1 a2))
theorem impl_ValidPipeline_1_l (a0 : Int) (a1 : Int) (a2 : Bool) : (impl_ValidPipeline_1_c a0 a1 a2) = true → (impl_ValidPipeline_1_t a0 a1 a2).val = some (impl_ValidPipeline_1_v a0 a1 a2) := by
  intro h
  skip
  unfold impl_ValidPipeline_1_t impl_ValidPipeline_1_v
  exact rfl
noncomputable def impl_ValidPipeline_1_S : List Arg → Option (Bool × Res) := fun xs => match xs with
  | [(true, [(.int .i64, .i a0), (.int .i64, .i a1), (.bool, .b a2)])] => some (true, impl_ValidPipeline_1_mk (impl_ValidPipeline_1_v a0 a1 a2))
  | _ => .none
theorem impl_ValidPipeline_1_e (a0 : Int) (a1 : Int) (a2 : Bool) : runF tab FT D10 live 70 noLoops [(true, [(.int .i64, .i a0), (.int .i64, .i a1), (.bool, .b a2)])] = (impl_ValidPipeline_1_t a0 a1 a2).run fun p => some (impl_ValidPipeline_1_mk p) := by kernel_rfl
theorem impl_ValidPipeline_1_s : ∀ xs r, impl_ValidPipeline_1_S xs = some (true, r) → runF tab FT D10 live 70 noLoops xs = some r := by
  intro xs r h
  unfold impl_ValidPipeline_1_S at h
  split at h
  · simp only [Option.some.injEq, Prod.mk.injEq] at h
    obtain ⟨h1, rfl⟩ := h
    exact fun_told (impl_ValidPipeline_1_e _ _ _) (impl_ValidPipeline_1_l _ _ _) rfl
  · cases h
noncomputable def D11 : Dt := also D10 70 impl_ValidPipeline_1_S
theorem d11 : DOk Go.Proofs.Try.prog tab D11 := d10.also mixed_ok tab_ok names_ok noLoops_ok impl_ValidPipeline_1_s
/-! slices_IndexFunc_impl_Filter_impl_Filter -/
abbrev slices_IndexFunc_impl_Filter_impl_Filter_2_σ := List (List TC) × Int × Int
abbrev slices_IndexFunc_impl_Filter_impl_Filter_2_ω := (Int) ⊕ (Unit)
noncomputable def slices_IndexFunc_impl_Filter_impl_Filter_k2_1 (A : List (List TC)) (m : Int) (i : Int) : Bool := A.all okFilR
noncomputable def slices_IndexFunc_impl_Filter_impl_Filter_o2_2 (A : List (List TC)) (m : Int) (i : Int) : Bool := is (i = 0 ∧ Typed tab (.slice 27) (.l A) ∧ m = (A.length : Int))
noncomputable def slices_IndexFunc_impl_Filter_impl_Filter_u2_2 (A : List (List TC)) (m : Int) (i : Int) : Unit := ()
noncomputable def slices_IndexFunc_impl_Filter_impl_Filter_o2_3 (A : List (List TC)) (m : Int) (i : Int) : Bool := is (i = 0 ∧ Typed tab (.slice 27) (.l A) ∧ m = (A.length : Int))
noncomputable def slices_IndexFunc_impl_Filter_impl_Filter_u2_3 (A : List (List TC)) (m : Int) (i : Int) : Int := (Int.ofNat (A.findIdx fun x => !okFilR x))
noncomputable def slices_IndexFunc_impl_Filter_impl_Filter_2_fin (A : List (List TC)) (m : Int) (i : Int) : Told slices_IndexFunc_impl_Filter_impl_Filter_2_ω := (.br (slices_IndexFunc_impl_Filter_impl_Filter_k2_1 A m i) (.leaf (slices_IndexFunc_impl_Filter_impl_Filter_o2_2 A m i) (.inr (slices_IndexFunc_impl_Filter_impl_Filter_u2_2 A m i))) (.leaf (slices_IndexFunc_impl_Filter_impl_Filter_o2_3 A m i) (.inl (slices_IndexFunc_impl_Filter_impl_Filter_u2_3 A m i))))
noncomputable def slices_IndexFunc_impl_Filter_impl_Filter_2_step (A : List (List TC)) (m : Int) (i : Int) : Tr (slices_IndexFunc_impl_Filter_impl_Filter_2_σ ⊕ slices_IndexFunc_impl_Filter_impl_Filter_2_ω) := (.ite ((decide (i < m)) = true) (.ite ((0 : Int) ≤ i ∧ i < (A.length : Int)) (.ite ((!(impl_ValidFilter_v ((nth (row A i) 0).int) ((nth (row A i) 1).int) ((nth (row A i) 2).bool))) = true) (.ok (.inr (.inl i)))
    (.ok (.inl (A, m, (IntKind.wrap .i64 (i + (1 : Int)))))))
   .no)
  (.ok (.inr (.inr ()))))
def slices_IndexFunc_impl_Filter_impl_Filter_2_sl (x : slices_IndexFunc_impl_Filter_impl_Filter_2_σ) : List Slot := [⟨.val false [⟨.slice 27, .sh, .l (x.1)⟩], ⟨0, 0⟩⟩, ⟨.val false [⟨.func, .sh, .f 70 []⟩], ⟨0, 0⟩⟩, ⟨.val false [⟨.int .i64, .sh, .i (x.2.1)⟩], ⟨0, 0⟩⟩, ⟨.val false [⟨.int .i64, .sh, .i (x.2.2)⟩], ⟨0, 0⟩⟩]
def slices_IndexFunc_impl_Filter_impl_Filter_2_out : slices_IndexFunc_impl_Filter_impl_Filter_2_ω → Ex × List Slot := (Sum.elim (fun x => (.ret, [⟨.val false [⟨.int .i64, .sh, .i x⟩], ⟨0, 0⟩⟩])) (fun x => (.exit 0, [Slot.none])))
noncomputable def slices_IndexFunc_impl_Filter_impl_Filter_lo2 : List Slot → Option (Told (Ex × List Slot)) := fun s => match s with
  | [⟨.val false [⟨.slice 27, .sh, .l A⟩], ⟨0, 0⟩⟩, ⟨.val false [⟨.func, .sh, .f 70 []⟩], ⟨0, 0⟩⟩, ⟨.val false [⟨.int .i64, .sh, .i m⟩], ⟨0, 0⟩⟩, ⟨.val false [⟨.int .i64, .sh, .i i⟩], ⟨0, 0⟩⟩] => some (((slices_IndexFunc_impl_Filter_impl_Filter_2_fin A m i)).map slices_IndexFunc_impl_Filter_impl_Filter_2_out)
  | _ => .none
noncomputable def slices_IndexFunc_impl_Filter_impl_Filter_lo : LoopTeller := fun r s => bif Nat.beq r 2 then slices_IndexFunc_impl_Filter_impl_Filter_lo2 s else .none
theorem slices_IndexFunc_impl_Filter_impl_Filter_2_r (A : List (List TC)) (m : Int) (i : Int) (n : Nat) : rounds (rnd tab FT D11 live 101 slices_IndexFunc_impl_Filter_impl_Filter_lo 0 2) leave (n + 1) (slices_IndexFunc_impl_Filter_impl_Filter_2_sl (A, m, i)) = ((slices_IndexFunc_impl_Filter_impl_Filter_2_step A m i)).run (goOn (fun s => rounds (rnd tab FT D11 live 101 slices_IndexFunc_impl_Filter_impl_Filter_lo 0 2) leave n (slices_IndexFunc_impl_Filter_impl_Filter_2_sl s)) fun w => some (slices_IndexFunc_impl_Filter_impl_Filter_2_out w)) := by kernel_rfl
noncomputable def slices_IndexFunc_impl_Filter_impl_Filter_2_st : slices_IndexFunc_impl_Filter_impl_Filter_2_σ → Tr (slices_IndexFunc_impl_Filter_impl_Filter_2_σ ⊕ slices_IndexFunc_impl_Filter_impl_Filter_2_ω) := fun x => (slices_IndexFunc_impl_Filter_impl_Filter_2_step (x.1) (x.2.1) (x.2.2))
theorem slices_IndexFunc_impl_Filter_impl_Filter_2_h (A : List (List TC)) (m : Int) (i : Int) (w : slices_IndexFunc_impl_Filter_impl_Filter_2_ω) : ((slices_IndexFunc_impl_Filter_impl_Filter_2_fin A m i)).val = some w → ∃ n, loopN slices_IndexFunc_impl_Filter_impl_Filter_2_st n (A, m, i) = some w := by
  intro h
  have key : Typed tab (.slice 27) (.l A) → loopN slices_IndexFunc_impl_Filter_impl_Filter_2_st (A.length + 1) (A, (A.length : Int), (0 : Int)) = some (if A.all okFilR = true then (.inr ()) else (.inl (Int.ofNat (A.findIdx fun x => !okFilR x)))) := by
    intro ht
    have hlen : A.length ≤ 140737488351232 := by have := typed_room ht; simp only [show (tab 27).bytes = 24 from rfl] at this; omega
    have key := loopN_find (step := slices_IndexFunc_impl_Filter_impl_Filter_2_st) A [] okFilR (fun i => (A, (A.length : Int), (i : Int))) (.inr ()) (fun i => (.inl (i : Int))) (fun i hi => ?_) ?_ A.length 0 (by omega)
    · first | (rw [Nat.zero_add] at key; exact key) | exact key
    · show (slices_IndexFunc_impl_Filter_impl_Filter_2_step A (A.length : Int) (i : Int)).val = _
      unfold slices_IndexFunc_impl_Filter_impl_Filter_2_step
      refine Tr.t (by simp; omega) ?_
      refine Tr.t (by constructor <;> omega) ?_
      skip
      skip
      rw [wrap64 (by omega) (by omega), Tr.val_br]
      show (if (!(okFilR (A.getD i []))) = true then _ else _) = _
      cases okFilR (A.getD i []) <;> rfl
    · show (slices_IndexFunc_impl_Filter_impl_Filter_2_step A (A.length : Int) (A.length : Int)).val = _
      refine Tr.n (by simp) ?_
      rfl
  simp only [slices_IndexFunc_impl_Filter_impl_Filter_2_fin, Told.val] at h
  cases hk : A.all okFilR with
  | true =>
    rw [if_pos (show slices_IndexFunc_impl_Filter_impl_Filter_k2_1 A m i = true from hk)] at h
    split at h
    · rename_i ho
      obtain ⟨rfl, ht, rfl⟩ := is_iff.1 ho
      cases h
      refine ⟨_, (key ht).trans ?_⟩
      rw [hk]; rfl
    · cases h
  | false =>
    rw [if_neg (show ¬slices_IndexFunc_impl_Filter_impl_Filter_k2_1 A m i = true from by rw [show slices_IndexFunc_impl_Filter_impl_Filter_k2_1 A m i = (A.all okFilR) from rfl, hk]; simp)] at h
    split at h
    · rename_i ho
      obtain ⟨rfl, ht, rfl⟩ := is_iff.1 ho
      cases h
      refine ⟨_, (key ht).trans ?_⟩
      rw [hk]; rfl
    · cases h
theorem slices_IndexFunc_impl_Filter_impl_Filter_is2 : LoopIs tab FT D11 live 101 slices_IndexFunc_impl_Filter_impl_Filter_lo 0 2 := by
  refine loop_told (sl := slices_IndexFunc_impl_Filter_impl_Filter_2_sl) (step := slices_IndexFunc_impl_Filter_impl_Filter_2_st) (out := slices_IndexFunc_impl_Filter_impl_Filter_2_out) (lor := slices_IndexFunc_impl_Filter_impl_Filter_lo2) (fin := fun x => (slices_IndexFunc_impl_Filter_impl_Filter_2_fin (x.1) (x.2.1) (x.2.2))) (fun _ => rfl) ?_ (fun x n => slices_IndexFunc_impl_Filter_impl_Filter_2_r x.1 x.2.1 x.2.2 n) (fun x w => slices_IndexFunc_impl_Filter_impl_Filter_2_h x.1 x.2.1 x.2.2 w)
  intro s t h
  unfold slices_IndexFunc_impl_Filter_impl_Filter_lo2 at h
  split at h
  · cases h; exact ⟨(_, _, _), rfl, rfl⟩
  · cases h
noncomputable def slices_IndexFunc_impl_Filter_impl_Filter_t (A : List (List TC)) : Tr (Int) := (.ite ((slices_IndexFunc_impl_Filter_impl_Filter_k2_1 A (A.length : Int) (0 : Int)) = true) (.ite ((slices_IndexFunc_impl_Filter_impl_Filter_o2_2 A (A.length : Int) (0 : Int)) = true) (.ok (-1 : Int))
   .no)
  (.ite ((slices_IndexFunc_impl_Filter_impl_Filter_o2_3 A (A.length : Int) (0 : Int)) = true) (.ok (slices_IndexFunc_impl_Filter_impl_Filter_u2_3 A (A.length : Int) (0 : Int)))
   .no))
def slices_IndexFunc_impl_Filter_impl_Filter_mk (p : Int) : Res := [(false, [⟨.int .i64, .sh, .i p⟩])]
noncomputable def slices_IndexFunc_impl_Filter_impl_Filter_c (A : List (List TC)) : Bool := is (Typed tab (.slice 27) (.l A))
noncomputable def slices_IndexFunc_impl_Filter_impl_Filter_v (A : List (List TC)) : Int := if (A.all okFilR) = true then -1 else (Int.ofNat (A.findIdx fun x => !okFilR x))
theorem slices_IndexFunc_impl_Filter_impl_Filter_l (A : List (List TC)) : (slices_IndexFunc_impl_Filter_impl_Filter_c A) = true → (slices_IndexFunc_impl_Filter_impl_Filter_t A).val = some (slices_IndexFunc_impl_Filter_impl_Filter_v A) := by
  intro h
  have ht := is_iff.1 h
  unfold slices_IndexFunc_impl_Filter_impl_Filter_t
  cases hk : A.all okFilR with
  | true =>
    refine Tr.t (show A.all okFilR = true from hk) ?_
    refine Tr.t (is_true (by and_intros <;> (first | rfl | assumption | exact (is_true (by and_intros <;> (first | rfl | assumption | exact (is_true (by and_intros <;> (first | rfl | assumption | exact (is_true (by and_intros <;> (first | rfl | assumption | exact (is_true (by and_intros <;> (first | rfl | assumption))))))))))))))) ?_
    show _ = some (slices_IndexFunc_impl_Filter_impl_Filter_v A); unfold slices_IndexFunc_impl_Filter_impl_Filter_v; rw [if_pos hk]; rfl
  | false =>
    refine Tr.n (show ¬A.all okFilR = true from by rw [hk]; simp) ?_
    refine Tr.t (is_true (by and_intros <;> (first | rfl | assumption | exact (is_true (by and_intros <;> (first | rfl | assumption | exact (is_true (by and_intros <;> (first | rfl | assumption | exact (is_true (by and_intros <;> (first | rfl | assumption | exact (is_true (by and_intros <;> (first | rfl | assumption))))))))))))))) ?_
    show _ = some (slices_IndexFunc_impl_Filter_impl_Filter_v A); unfold slices_IndexFunc_impl_Filter_impl_Filter_v; rw [if_neg (by rw [hk]; simp)]; rfl
noncomputable def slices_IndexFunc_impl_Filter_impl_Filter_S : List Arg → Option (Bool × Res) := fun xs => match xs with
  | [(false, [(.slice 27, .l A)]), (false, [(.func, .f 70 [])])] => some ((slices_IndexFunc_impl_Filter_impl_Filter_c A), slices_IndexFunc_impl_Filter_impl_Filter_mk (slices_IndexFunc_impl_Filter_impl_Filter_v A))
  | _ => .none
theorem slices_IndexFunc_impl_Filter_impl_Filter_e (A : List (List TC)) : runF tab FT D11 live 101 slices_IndexFunc_impl_Filter_impl_Filter_lo [(false, [(.slice 27, .l A)]), (false, [(.func, .f 70 [])])] = (slices_IndexFunc_impl_Filter_impl_Filter_t A).run fun p => some (slices_IndexFunc_impl_Filter_impl_Filter_mk p) := by kernel_rfl
theorem slices_IndexFunc_impl_Filter_impl_Filter_s : ∀ xs r, slices_IndexFunc_impl_Filter_impl_Filter_S xs = some (true, r) → runF tab FT D11 live 101 slices_IndexFunc_impl_Filter_impl_Filter_lo xs = some r := by
  intro xs r h
  unfold slices_IndexFunc_impl_Filter_impl_Filter_S at h
  split at h
  · simp only [Option.some.injEq, Prod.mk.injEq] at h
    obtain ⟨h1, rfl⟩ := h
    exact fun_told (slices_IndexFunc_impl_Filter_impl_Filter_e _) (slices_IndexFunc_impl_Filter_impl_Filter_l _) h1
  · cases h
noncomputable def D12 : Dt := also D11 101 slices_IndexFunc_impl_Filter_impl_Filter_S
theorem d12 : DOk Go.Proofs.Try.prog tab D12 := d11.also mixed_ok tab_ok names_ok (fnLoops_one (by kernel_rfl) slices_IndexFunc_impl_Filter_impl_Filter_is2) slices_IndexFunc_impl_Filter_impl_Filter_s
/-! slices_ContainsFunc_impl_Filter_impl_Filter -/
noncomputable def slices_ContainsFunc_impl_Filter_impl_Filter_t (A : List (List TC)) : Tr (Bool) := (.ite ((slices_IndexFunc_impl_Filter_impl_Filter_c A) = true) (.ok (decide ((slices_IndexFunc_impl_Filter_impl_Filter_v A) ≥ (0 : Int))))
  .no)
def slices_ContainsFunc_impl_Filter_impl_Filter_mk (p : Bool) : Res := [(false, [⟨.bool, .sh, .b p⟩])]
noncomputable def slices_ContainsFunc_impl_Filter_impl_Filter_c (A : List (List TC)) : Bool := is (Typed tab (.slice 27) (.l A))
noncomputable def slices_ContainsFunc_impl_Filter_impl_Filter_v (A : List (List TC)) : Bool := !(A.all okFilR)
theorem slices_ContainsFunc_impl_Filter_impl_Filter_l (A : List (List TC)) : (slices_ContainsFunc_impl_Filter_impl_Filter_c A) = true → (slices_ContainsFunc_impl_Filter_impl_Filter_t A).val = some (slices_ContainsFunc_impl_Filter_impl_Filter_v A) := by
  intro h
  have ht := is_iff.1 h
  unfold slices_ContainsFunc_impl_Filter_impl_Filter_t
  refine Tr.t (is_true (by and_intros <;> (first | rfl | assumption | exact (is_true (by and_intros <;> (first | rfl | assumption | exact (is_true (by and_intros <;> (first | rfl | assumption | exact (is_true (by and_intros <;> (first | rfl | assumption | exact (is_true (by and_intros <;> (first | rfl | assumption))))))))))))))) ?_
  show some (decide (slices_IndexFunc_impl_Filter_impl_Filter_v A ≥ 0)) = some (!(A.all okFilR))
  unfold slices_IndexFunc_impl_Filter_impl_Filter_v
  cases hk : A.all okFilR <;> simp
noncomputable def slices_ContainsFunc_impl_Filter_impl_Filter_S : List Arg → Option (Bool × Res) := fun xs => match xs with
  | [(false, [(.slice 27, .l A)]), (false, [(.func, .f 70 [])])] => some ((slices_ContainsFunc_impl_Filter_impl_Filter_c A), slices_ContainsFunc_impl_Filter_impl_Filter_mk (slices_ContainsFunc_impl_Filter_impl_Filter_v A))
  | _ => .none
theorem slices_ContainsFunc_impl_Filter_impl_Filter_e (A : List (List TC)) : runF tab FT D12 live 69 noLoops [(false, [(.slice 27, .l A)]), (false, [(.func, .f 70 [])])] = (slices_ContainsFunc_impl_Filter_impl_Filter_t A).run fun p => some (slices_ContainsFunc_impl_Filter_impl_Filter_mk p) := by kernel_rfl
theorem slices_ContainsFunc_impl_Filter_impl_Filter_s : ∀ xs r, slices_ContainsFunc_impl_Filter_impl_Filter_S xs = some (true, r) → runF tab FT D12 live 69 noLoops xs = some r := by
  intro xs r h
  unfold slices_ContainsFunc_impl_Filter_impl_Filter_S at h
  split at h
  · simp only [Option.some.injEq, Prod.mk.injEq] at h
    obtain ⟨h1, rfl⟩ := h
    exact fun_told (slices_ContainsFunc_impl_Filter_impl_Filter_e _) (slices_ContainsFunc_impl_Filter_impl_Filter_l _) h1
  · cases h
noncomputable def D13 : Dt := also D12 69 slices_ContainsFunc_impl_Filter_impl_Filter_S
theorem d13 : DOk Go.Proofs.Try.prog tab D13 := d12.also mixed_ok tab_ok names_ok noLoops_ok slices_ContainsFunc_impl_Filter_impl_Filter_s
/-! impl_ValidPipeline -/
noncomputable def impl_ValidPipeline_t (A : List (List TC)) : Tr (Bool) := (.ite ((decide ((A.length : Int) ≤ (4 : Int))) = true) (.ite ((slices_ContainsFunc_impl_Filter_impl_Filter_c A) = true) (.ok (!(slices_ContainsFunc_impl_Filter_impl_Filter_v A)))
   .no)
  (.ok false))
def impl_ValidPipeline_mk (p : Bool) : Res := [(false, [⟨.bool, .sh, .b p⟩])]
noncomputable def impl_ValidPipeline_c (A : List (List TC)) : Bool := is (Typed tab (.slice 27) (.l A))
noncomputable def impl_ValidPipeline_v (A : List (List TC)) : Bool := A.all okFilR && decide ((A.length : Int) ≤ 4)
theorem impl_ValidPipeline_l (A : List (List TC)) : (impl_ValidPipeline_c A) = true → (impl_ValidPipeline_t A).val = some (impl_ValidPipeline_v A) := by
  intro h
  have ht := is_iff.1 h
  unfold impl_ValidPipeline_t
  rw [Tr.val_br]
  split
  · rename_i h4
    refine Tr.t (is_true (by and_intros <;> (first | rfl | assumption | exact (is_true (by and_intros <;> (first | rfl | assumption | exact (is_true (by and_intros <;> (first | rfl | assumption | exact (is_true (by and_intros <;> (first | rfl | assumption | exact (is_true (by and_intros <;> (first | rfl | assumption))))))))))))))) ?_
    show some (!!(A.all okFilR)) = some (A.all okFilR && decide ((A.length : Int) ≤ 4))
    rw [h4]; simp
  · rename_i h4
    show some false = some (A.all okFilR && decide ((A.length : Int) ≤ 4))
    rw [show decide ((A.length : Int) ≤ 4) = false from by simpa using h4]; simp
noncomputable def impl_ValidPipeline_S : List Arg → Option (Bool × Res) := fun xs => match xs with
  | [(false, [(.slice 27, .l A)])] => some ((impl_ValidPipeline_c A), impl_ValidPipeline_mk (impl_ValidPipeline_v A))
  | _ => .none
theorem impl_ValidPipeline_e (A : List (List TC)) : runF tab FT D13 live 35 noLoops [(false, [(.slice 27, .l A)])] = (impl_ValidPipeline_t A).run fun p => some (impl_ValidPipeline_mk p) := by kernel_rfl
theorem impl_ValidPipeline_s : ∀ xs r, impl_ValidPipeline_S xs = some (true, r) → runF tab FT D13 live 35 noLoops xs = some r := by
  intro xs r h
  unfold impl_ValidPipeline_S at h
  split at h
  · simp only [Option.some.injEq, Prod.mk.injEq] at h
    obtain ⟨h1, rfl⟩ := h
    exact fun_told (impl_ValidPipeline_e _) (impl_ValidPipeline_l _) h1
  · cases h
noncomputable def D14 : Dt := also D13 35 impl_ValidPipeline_S
theorem d14 : DOk Go.Proofs.Try.prog tab D14 := d13.also mixed_ok tab_ok names_ok noLoops_ok impl_ValidPipeline_s
/-! laws_eqFilter -/
noncomputable def laws_eqFilter_t (x0 : Int) (x1 : Int) (x2 : Bool) (y0 : Int) (y1 : Int) (y2 : Bool) : Tr (Bool) := (.ite ((!(x0 == y0)) = true) (.ok false)
  (.ite ((!(x1 == y1)) = true) (.ok false)
   (.ite ((!(x2 == y2)) = true) (.ok false)
    (.ok true))))
def laws_eqFilter_mk (p : Bool) : Res := [(false, [⟨.bool, .sh, .b p⟩])]
noncomputable def laws_eqFilter_c (x0 : Int) (x1 : Int) (x2 : Bool) (y0 : Int) (y1 : Int) (y2 : Bool) : Bool := is (x0 = y0 ∧ x1 = y1 ∧ x2 = y2)
noncomputable def laws_eqFilter_v (x0 : Int) (x1 : Int) (x2 : Bool) (y0 : Int) (y1 : Int) (y2 : Bool) : Bool := true
theorem laws_eqFilter_l (x0 : Int) (x1 : Int) (x2 : Bool) (y0 : Int) (y1 : Int) (y2 : Bool) : (laws_eqFilter_c x0 x1 x2 y0 y1 y2) = true → (laws_eqFilter_t x0 x1 x2 y0 y1 y2).val = some (laws_eqFilter_v x0 x1 x2 y0 y1 y2) := by
  intro h
  obtain ⟨rfl, rfl, rfl⟩ := is_iff.1 h
  unfold laws_eqFilter_t
  refine Tr.n (by simp) ?_
  refine Tr.n (by simp) ?_
  refine Tr.n (by simp) ?_
  rfl
noncomputable def laws_eqFilter_S : List Arg → Option (Bool × Res) := fun xs => match xs with
  | [(true, [(.int .i64, .i x0), (.int .i64, .i x1), (.bool, .b x2)]), (true, [(.int .i64, .i y0), (.int .i64, .i y1), (.bool, .b y2)])] => some ((laws_eqFilter_c x0 x1 x2 y0 y1 y2), laws_eqFilter_mk (laws_eqFilter_v x0 x1 x2 y0 y1 y2))
  | _ => .none
theorem laws_eqFilter_e (x0 : Int) (x1 : Int) (x2 : Bool) (y0 : Int) (y1 : Int) (y2 : Bool) : runF tab FT D14 live 64 noLoops [(true, [(.int .i64, .i x0), (.int .i64, .i x1), (.bool, .b x2)]), (true, [(.int .i64, .i y0), (.int .i64, .i y1), (.bool, .b y2)])] = (laws_eqFilter_t x0 x1 x2 y0 y1 y2).run fun p => some (laws_eqFilter_mk p) := by kernel_rfl
theorem laws_eqFilter_s : ∀ xs r, laws_eqFilter_S xs = some (true, r) → runF tab FT D14 live 64 noLoops xs = some r := by
  intro xs r h
  unfold laws_eqFilter_S at h
  split at h
  · simp only [Option.some.injEq, Prod.mk.injEq] at h
    obtain ⟨h1, rfl⟩ := h
    exact fun_told (laws_eqFilter_e _ _ _ _ _ _) (laws_eqFilter_l _ _ _ _ _ _) h1
  · cases h
noncomputable def D15 : Dt := also D14 64 laws_eqFilter_S
theorem d15 : DOk Go.Proofs.Try.prog tab D15 := d14.also mixed_ok tab_ok names_ok noLoops_ok laws_eqFilter_s
/-! laws_eqFilterS -/
abbrev laws_eqFilterS_4_σ := List (List TC) × List (List TC) × Int
abbrev laws_eqFilterS_4_ω := (Unit) ⊕ (Unit)
noncomputable def laws_eqFilterS_o4_1 (A : List (List TC)) (C : List (List TC)) (i : Int) : Bool := is (A = C ∧ i = 0 ∧ Typed tab (.slice 27) (.l A))
noncomputable def laws_eqFilterS_u4_1 (A : List (List TC)) (C : List (List TC)) (i : Int) : Unit := ()
noncomputable def laws_eqFilterS_4_fin (A : List (List TC)) (C : List (List TC)) (i : Int) : Told laws_eqFilterS_4_ω := (.leaf (laws_eqFilterS_o4_1 A C i) (.inr (laws_eqFilterS_u4_1 A C i)))
noncomputable def laws_eqFilterS_4_step (A : List (List TC)) (C : List (List TC)) (i : Int) : Tr (laws_eqFilterS_4_σ ⊕ laws_eqFilterS_4_ω) := (.ite ((decide (i < (A.length : Int))) = true) (.ite ((0 : Int) ≤ i ∧ i < (A.length : Int)) (.ite ((0 : Int) ≤ i ∧ i < (C.length : Int)) (.ite ((laws_eqFilter_c ((nth (row A i) 0).int) ((nth (row A i) 1).int) ((nth (row A i) 2).bool) ((nth (row C i) 0).int) ((nth (row C i) 1).int) ((nth (row C i) 2).bool)) = true) (.ite ((!(laws_eqFilter_v ((nth (row A i) 0).int) ((nth (row A i) 1).int) ((nth (row A i) 2).bool) ((nth (row C i) 0).int) ((nth (row C i) 1).int) ((nth (row C i) 2).bool))) = true) (.ok (.inr (.inl ())))
      (.ok (.inl (A, C, (IntKind.wrap .i64 (i + (1 : Int)))))))
     .no)
    .no)
   .no)
  (.ok (.inr (.inr ()))))
def laws_eqFilterS_4_sl (x : laws_eqFilterS_4_σ) : List Slot := [⟨.val false [⟨.slice 27, .sh, .l (x.1)⟩], ⟨0, 0⟩⟩, ⟨.val false [⟨.slice 27, .sh, .l (x.2.1)⟩], ⟨0, 0⟩⟩, ⟨.val false [⟨.int .i64, .sh, .i (x.2.2)⟩], ⟨0, 0⟩⟩]
def laws_eqFilterS_4_out : laws_eqFilterS_4_ω → Ex × List Slot := (Sum.elim (fun x => (.ret, [⟨.val false [⟨.bool, .sh, .b false⟩], ⟨0, 0⟩⟩])) (fun x => (.exit 0, [Slot.none])))
noncomputable def laws_eqFilterS_lo4 : List Slot → Option (Told (Ex × List Slot)) := fun s => match s with
  | [⟨.val false [⟨.slice 27, .sh, .l A⟩], ⟨0, 0⟩⟩, ⟨.val false [⟨.slice 27, .sh, .l C⟩], ⟨0, 0⟩⟩, ⟨.val false [⟨.int .i64, .sh, .i i⟩], ⟨0, 0⟩⟩] => some (((laws_eqFilterS_4_fin A C i)).map laws_eqFilterS_4_out)
  | _ => .none
noncomputable def laws_eqFilterS_lo : LoopTeller := fun r s => bif Nat.beq r 4 then laws_eqFilterS_lo4 s else .none
theorem laws_eqFilterS_4_r (A : List (List TC)) (C : List (List TC)) (i : Int) (n : Nat) : rounds (rnd tab FT D15 live 28 laws_eqFilterS_lo 0 4) leave (n + 1) (laws_eqFilterS_4_sl (A, C, i)) = ((laws_eqFilterS_4_step A C i)).run (goOn (fun s => rounds (rnd tab FT D15 live 28 laws_eqFilterS_lo 0 4) leave n (laws_eqFilterS_4_sl s)) fun w => some (laws_eqFilterS_4_out w)) := by kernel_rfl
noncomputable def laws_eqFilterS_4_st : laws_eqFilterS_4_σ → Tr (laws_eqFilterS_4_σ ⊕ laws_eqFilterS_4_ω) := fun x => (laws_eqFilterS_4_step (x.1) (x.2.1) (x.2.2))
theorem laws_eqFilterS_4_h (A : List (List TC)) (C : List (List TC)) (i : Int) (w : laws_eqFilterS_4_ω) : ((laws_eqFilterS_4_fin A C i)).val = some w → ∃ n, loopN laws_eqFilterS_4_st n (A, C, i) = some w := by
  intro h
  simp only [laws_eqFilterS_4_fin, Told.val] at h
  split at h
  · rename_i ho
    obtain ⟨rfl, rfl, ht⟩ := is_iff.1 ho
    cases h
    have hlen : A.length ≤ 140737488351232 := by have := typed_room ht; simp only [show (tab 27).bytes = 24 from rfl] at this; omega
    refine ⟨_, loopN_run (N := A.length) (fun i => (A, A, (i : Int))) (fun i hi => ?_) ?_ A.length 0 (by omega)⟩
    · skip
      show (laws_eqFilterS_4_step A A (i : Int)).val = _
      unfold laws_eqFilterS_4_step
      refine Tr.t (by simp; omega) ?_
      refine Tr.t (by constructor <;> omega) ?_
      refine Tr.t (by constructor <;> omega) ?_
      refine Tr.t (is_true (by and_intros <;> (first | rfl | assumption | exact (is_true (by and_intros <;> (first | rfl | assumption | exact (is_true (by and_intros <;> (first | rfl | assumption | exact (is_true (by and_intros <;> (first | rfl | assumption | exact (is_true (by and_intros <;> (first | rfl | assumption))))))))))))))) ?_
      refine Tr.n (by simp [laws_eqFilter_v]) ?_
      rw [Tr.val_ok, wrap64 (by omega) (by omega)]; rfl
    · show (laws_eqFilterS_4_step A A (A.length : Int)).val = _
      refine Tr.n (by simp) ?_
      rfl
  · cases h
theorem laws_eqFilterS_is4 : LoopIs tab FT D15 live 28 laws_eqFilterS_lo 0 4 := by
  refine loop_told (sl := laws_eqFilterS_4_sl) (step := laws_eqFilterS_4_st) (out := laws_eqFilterS_4_out) (lor := laws_eqFilterS_lo4) (fin := fun x => (laws_eqFilterS_4_fin (x.1) (x.2.1) (x.2.2))) (fun _ => rfl) ?_ (fun x n => laws_eqFilterS_4_r x.1 x.2.1 x.2.2 n) (fun x w => laws_eqFilterS_4_h x.1 x.2.1 x.2.2 w)
  intro s t h
  unfold laws_eqFilterS_lo4 at h
  split at h
  · cases h; exact ⟨(_, _, _), rfl, rfl⟩
  · cases h
noncomputable def laws_eqFilterS_t (A : List (List TC)) (C : List (List TC)) : Tr (Bool) := (.ite ((!((A.length : Int) == (C.length : Int))) = true) (.ok false)
  (.ite ((laws_eqFilterS_o4_1 A C (0 : Int)) = true) (.ok true)
   .no))
def laws_eqFilterS_mk (p : Bool) : Res := [(false, [⟨.bool, .sh, .b p⟩])]
noncomputable def laws_eqFilterS_c (A : List (List TC)) (C : List (List TC)) : Bool := is (A = C ∧ Typed tab (.slice 27) (.l A))
noncomputable def laws_eqFilterS_v (A : List (List TC)) (C : List (List TC)) : Bool := true
theorem laws_eqFilterS_l (A : List (List TC)) (C : List (List TC)) : (laws_eqFilterS_c A C) = true → (laws_eqFilterS_t A C).val = some (laws_eqFilterS_v A C) := by
  intro h
  obtain ⟨rfl, ht⟩ := is_iff.1 h
  unfold laws_eqFilterS_t
  refine Tr.n (by simp) ?_
  refine Tr.t (is_true (by and_intros <;> (first | rfl | assumption | exact (is_true (by and_intros <;> (first | rfl | assumption | exact (is_true (by and_intros <;> (first | rfl | assumption | exact (is_true (by and_intros <;> (first | rfl | assumption | exact (is_true (by and_intros <;> (first | rfl | assumption))))))))))))))) ?_
  rfl
noncomputable def laws_eqFilterS_S : List Arg → Option (Bool × Res) := fun xs => match xs with
  | [(false, [(.slice 27, .l A)]), (false, [(.slice 27, .l C)])] => some ((laws_eqFilterS_c A C), laws_eqFilterS_mk (laws_eqFilterS_v A C))
  | _ => .none
theorem laws_eqFilterS_e (A : List (List TC)) (C : List (List TC)) : runF tab FT D15 live 28 laws_eqFilterS_lo [(false, [(.slice 27, .l A)]), (false, [(.slice 27, .l C)])] = (laws_eqFilterS_t A C).run fun p => some (laws_eqFilterS_mk p) := by kernel_rfl
theorem laws_eqFilterS_s : ∀ xs r, laws_eqFilterS_S xs = some (true, r) → runF tab FT D15 live 28 laws_eqFilterS_lo xs = some r := by
  intro xs r h
  unfold laws_eqFilterS_S at h
  split at h
  · simp only [Option.some.injEq, Prod.mk.injEq] at h
    obtain ⟨h1, rfl⟩ := h
    exact fun_told (laws_eqFilterS_e _ _) (laws_eqFilterS_l _ _) h1
  · cases h
noncomputable def D16 : Dt := also D15 28 laws_eqFilterS_S
theorem d16 : DOk Go.Proofs.Try.prog tab D16 := d15.also mixed_ok tab_ok names_ok (fnLoops_one (by kernel_rfl) laws_eqFilterS_is4) laws_eqFilterS_s
/-! the law -/
noncomputable def laws_FnExactValidPipeline_t (x0 : List (List TC)) : Tr Bool := (.ite ((decide ((laws_szFilterS_v x0 (1048576 : Int)) < (0 : Int))) = true) (.ok true)
  (.ite ((laws_toFilterS_c x0) = true) (.ite ((spec_ValidPipeline_c (laws_toFilterS_v x0)) = true) (.ite ((laws_toFilterS_c x0) = true) (.ite ((impl_ValidPipeline_c (laws_toFilterS_v x0)) = true) (.ite ((!((impl_ValidPipeline_v (laws_toFilterS_v x0)) == (spec_ValidPipeline_v (laws_toFilterS_v x0)))) = true) (.ok false)
       (.ite ((laws_toFilterS_c x0) = true) (.ite ((laws_eqFilterS_c (laws_toFilterS_v x0) (laws_toFilterS_v x0)) = true) (.ite ((!(laws_eqFilterS_v (laws_toFilterS_v x0) (laws_toFilterS_v x0))) = true) (.ok false)
          (.ok true))
         .no)
        .no))
      .no)
     .no)
    .no)
   .no))
theorem laws_FnExactValidPipeline_e (x0 : List (List TC)) : runF tab FT D16 live 9 noLoops [(false, [(.slice 25, .l x0)])] = (laws_FnExactValidPipeline_t x0).run fun p => some [(false, [⟨.bool, .sh, .b p⟩])] := by kernel_rfl
theorem laws_FnExactValidPipeline_p (x0 : List (List TC)) (h0 : Typed tab (.slice 25) (.l x0)) : (laws_FnExactValidPipeline_t x0).val = some true := by
  have t0_27 := laws_toFilterS_ty h0
  unfold laws_FnExactValidPipeline_t
  refine Tr.y ?_
  refine Tr.t (by first | exact (is_true (by and_intros <;> (first | rfl | assumption | exact (is_true (by and_intros <;> (first | rfl | assumption | exact (is_true (by and_intros <;> (first | rfl | assumption | exact (is_true (by and_intros <;> (first | rfl | assumption | exact (is_true (by and_intros <;> (first | rfl | assumption))))))))))))))) | simp [*]) ?_
  refine Tr.t (by first | exact (is_true (by and_intros <;> (first | rfl | assumption | exact (is_true (by and_intros <;> (first | rfl | assumption | exact (is_true (by and_intros <;> (first | rfl | assumption | exact (is_true (by and_intros <;> (first | rfl | assumption | exact (is_true (by and_intros <;> (first | rfl | assumption))))))))))))))) | simp [*]) ?_
  refine Tr.t (by first | exact (is_true (by and_intros <;> (first | rfl | assumption | exact (is_true (by and_intros <;> (first | rfl | assumption | exact (is_true (by and_intros <;> (first | rfl | assumption | exact (is_true (by and_intros <;> (first | rfl | assumption | exact (is_true (by and_intros <;> (first | rfl | assumption))))))))))))))) | simp [*]) ?_
  refine Tr.t (by first | exact (is_true (by and_intros <;> (first | rfl | assumption | exact (is_true (by and_intros <;> (first | rfl | assumption | exact (is_true (by and_intros <;> (first | rfl | assumption | exact (is_true (by and_intros <;> (first | rfl | assumption | exact (is_true (by and_intros <;> (first | rfl | assumption))))))))))))))) | simp [*]) ?_
  refine Tr.n (by simp [laws_szFilterS_v, laws_toFilter_v, laws_toFilterS_v, spec_l00In_v, spec_l18Ok_v, spec_l19Ok_v, spec_ValidPipeline_v, impl_within_v, impl_isWidth_v, impl_ValidFilter_v, impl_ValidPipeline_1_v, slices_IndexFunc_impl_Filter_impl_Filter_v, slices_ContainsFunc_impl_Filter_impl_Filter_v, impl_ValidPipeline_v, laws_eqFilter_v, laws_eqFilterS_v]) ?_
  refine Tr.t (by first | exact (is_true (by and_intros <;> (first | rfl | assumption | exact (is_true (by and_intros <;> (first | rfl | assumption | exact (is_true (by and_intros <;> (first | rfl | assumption | exact (is_true (by and_intros <;> (first | rfl | assumption | exact (is_true (by and_intros <;> (first | rfl | assumption))))))))))))))) | simp [*]) ?_
  refine Tr.t (by first | exact (is_true (by and_intros <;> (first | rfl | assumption | exact (is_true (by and_intros <;> (first | rfl | assumption | exact (is_true (by and_intros <;> (first | rfl | assumption | exact (is_true (by and_intros <;> (first | rfl | assumption | exact (is_true (by and_intros <;> (first | rfl | assumption))))))))))))))) | simp [*]) ?_
  refine Tr.n (by simp [laws_szFilterS_v, laws_toFilter_v, laws_toFilterS_v, spec_l00In_v, spec_l18Ok_v, spec_l19Ok_v, spec_ValidPipeline_v, impl_within_v, impl_isWidth_v, impl_ValidFilter_v, impl_ValidPipeline_1_v, slices_IndexFunc_impl_Filter_impl_Filter_v, slices_ContainsFunc_impl_Filter_impl_Filter_v, impl_ValidPipeline_v, laws_eqFilter_v, laws_eqFilterS_v]) ?_
  rfl
theorem laws_FnExactValidPipeline_pure : ∀ xs, ArgsTyped tab [32] xs → runF tab FT D16 live 9 noLoops xs = yes := by
  intro xs h
  cases h with | cons l0 g0 h =>
  obtain ⟨z0_0, rfl⟩ := len_1 l0
  have q0 := g0 0 (by decide)
  have q0 : Typed tab (.slice 25) z0_0 := q0
  obtain ⟨y0, rfl⟩ := typed_slice q0
  cases h
  refine (laws_FnExactValidPipeline_e y0).trans ?_
  rw [Tr.run_eq, laws_FnExactValidPipeline_p y0 q0]
  rfl
end Go.Proofs.Ytnlpkmkkidpfhaa.V
