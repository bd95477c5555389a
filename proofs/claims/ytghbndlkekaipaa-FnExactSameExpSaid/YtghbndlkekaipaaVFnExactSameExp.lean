/- What the functions of FnExactSameExp answer. No condition. -/
import Derived.Test.YtghbndlkekaipaaVFacts
namespace Go.Proofs.Ytghbndlkekaipaa.V
open Go
set_option maxRecDepth 100000
set_option linter.unusedVariables false
set_option linter.unusedSectionVars false
set_option linter.unusedSimpArgs false
def isoL : List (Nat × Nat) := [(25, 31), (45, 55), (47, 57), (49, 59), (63, 69), (66, 72), (77, 82), (135, 93), (151, 122), (161, 126), (163, 128), (189, 147), (215, 193), (31, 25), (55, 45), (57, 47), (59, 49), (69, 63), (72, 66), (82, 77), (93, 135), (122, 151), (126, 161), (128, 163), (147, 189), (193, 215)]
theorem iso_ok : isoOk tab isoL = true := by kernel_rfl
noncomputable def sameX (k n : Int) (tx : List UInt8) (KI RA : List (List TC)) (k2 n2 : Int) (tx2 : List UInt8) (KI2 RA2 : List (List TC)) : Bool :=
  (k == k2) && ((n == n2) && ((tx == tx2) && (eqL RA RA2 && eqL KI KI2)))
/-! laws_szExp calls itself -/
section
class laws_szExp_O where R : (Int) → (Int) → (List UInt8) → (List (List TC)) → (List (List TC)) → (Int) → Bool × (Int)
variable [i_laws_szExp : laws_szExp_O]
def laws_szExp_rc (x0 : Int) (x1 : Int) (x2 : List UInt8) (x3 : List (List TC)) (x4 : List (List TC)) (x5 : Int) : Bool := ((laws_szExp_O.R x0 x1 x2 x3 x4 x5)).1
def laws_szExp_rv (x0 : Int) (x1 : Int) (x2 : List UInt8) (x3 : List (List TC)) (x4 : List (List TC)) (x5 : Int) : Int := ((laws_szExp_O.R x0 x1 x2 x3 x4 x5)).2
def laws_szExp_rmk (p : Int) : Res := [(false, [⟨.int .i64, .sh, TC.i p⟩])]
noncomputable def laws_szExp_rS : List Arg → Option (Bool × Res) := fun xs => match xs with
  | [(true, [(.int .i64, TC.i x0), (.int .i64, TC.i x1), (.str, TC.s x2), (.slice 25, TC.l x3), (.slice 135, TC.l x4)]), (false, [(.int .i64, TC.i x5)])] => some ((laws_szExp_rc x0 x1 x2 x3 x4 x5), laws_szExp_rmk (laws_szExp_rv x0 x1 x2 x3 x4 x5))
  | _ => .none
noncomputable def D1 : Dt := also D0 9 laws_szExp_rS
class laws_szExp_G : Prop where ok : DOk Go.Proofs.Try.prog tab D1
variable [g_laws_szExp : laws_szExp_G]
theorem d1 : DOk Go.Proofs.Try.prog tab D1 := laws_szExp_G.ok
/-! laws_szExpS -/
abbrev laws_szExpS_5_σ := List (List TC) × Int × Int
abbrev laws_szExpS_5_ω := (Int) ⊕ (Int)
noncomputable def laws_szExpS_5_step (A : List (List TC)) (left : Int) (i : Int) : Tr (laws_szExpS_5_σ ⊕ laws_szExpS_5_ω) := (.ite ((decide (i < (A.length : Int))) = true) (.ite ((0 : Int) ≤ i ∧ i < (A.length : Int)) (.ite ((laws_szExp_rc ((nth (row A i) 0).int) ((nth (row A i) 1).int) ((nth (row A i) 2).str) ((nth (row A i) 3).list) ((nth (row A i) 4).list) left) = true) (.ite ((decide ((laws_szExp_rv ((nth (row A i) 0).int) ((nth (row A i) 1).int) ((nth (row A i) 2).str) ((nth (row A i) 3).list) ((nth (row A i) 4).list) left) < (0 : Int))) = true) (.ok (.inr (.inl (laws_szExp_rv ((nth (row A i) 0).int) ((nth (row A i) 1).int) ((nth (row A i) 2).str) ((nth (row A i) 3).list) ((nth (row A i) 4).list) left))))
     (.ok (.inl (A, (laws_szExp_rv ((nth (row A i) 0).int) ((nth (row A i) 1).int) ((nth (row A i) 2).str) ((nth (row A i) 3).list) ((nth (row A i) 4).list) left), (IntKind.wrap .i64 (i + (1 : Int)))))))
    .no)
   .no)
  (.ok (.inr (.inr left))))
noncomputable def laws_szExpS_5_st : laws_szExpS_5_σ → Tr (laws_szExpS_5_σ ⊕ laws_szExpS_5_ω) := fun x => (laws_szExpS_5_step (x.1) (x.2.1) (x.2.2))
noncomputable def laws_szExpS_k5_1 (A : List (List TC)) (left : Int) (i : Int) : Bool := isL (loopN laws_szExpS_5_st (A.length + 1) (A, left, i))
noncomputable def laws_szExpS_o5_2 (A : List (List TC)) (left : Int) (i : Int) : Bool := is (i = 0 ∧ Typed tab (.slice 25) (.l A) ∧ (∀ x : List TC, x ∈ A → ∀ left : Int, (laws_szExp_rc ((nth x 0).int) ((nth x 1).int) ((nth x 2).str) ((nth x 3).list) ((nth x 4).list) left) = true))
noncomputable def laws_szExpS_u5_2 (A : List (List TC)) (left : Int) (i : Int) : Int := getL (loopN laws_szExpS_5_st (A.length + 1) (A, left, i))
noncomputable def laws_szExpS_o5_3 (A : List (List TC)) (left : Int) (i : Int) : Bool := is (i = 0 ∧ Typed tab (.slice 25) (.l A) ∧ (∀ x : List TC, x ∈ A → ∀ left : Int, (laws_szExp_rc ((nth x 0).int) ((nth x 1).int) ((nth x 2).str) ((nth x 3).list) ((nth x 4).list) left) = true))
noncomputable def laws_szExpS_u5_3 (A : List (List TC)) (left : Int) (i : Int) : Int := getR (loopN laws_szExpS_5_st (A.length + 1) (A, left, i))
noncomputable def laws_szExpS_5_fin (A : List (List TC)) (left : Int) (i : Int) : Told laws_szExpS_5_ω := (.br (laws_szExpS_k5_1 A left i) (.leaf (laws_szExpS_o5_2 A left i) (.inl (laws_szExpS_u5_2 A left i))) (.leaf (laws_szExpS_o5_3 A left i) (.inr (laws_szExpS_u5_3 A left i))))
def laws_szExpS_5_sl (x : laws_szExpS_5_σ) : List Slot := [⟨.val false [⟨.slice 25, .sh, TC.l (x.1)⟩], ⟨0, 0⟩⟩, ⟨.val false [⟨.int .i64, .sh, TC.i (x.2.1)⟩], ⟨0, 0⟩⟩, ⟨.val false [⟨.int .i64, .sh, TC.i (x.2.2)⟩], ⟨0, 0⟩⟩]
def laws_szExpS_5_out : laws_szExpS_5_ω → Ex × List Slot := (Sum.elim (fun x => (.ret, [⟨.val false [⟨.int .i64, .sh, TC.i x⟩], ⟨0, 0⟩⟩, ⟨.val false [⟨.int .i64, .sh, TC.i (-1 : Int)⟩], ⟨0, 0⟩⟩])) (fun x => (.exit 0, [⟨.val false [⟨.int .i64, .sh, TC.i x⟩], ⟨0, 0⟩⟩, Slot.none])))
noncomputable def laws_szExpS_lo5 : List Slot → Option (Told (Ex × List Slot)) := fun s => match s with
  | [⟨.val false [⟨.slice 25, .sh, TC.l A⟩], ⟨0, 0⟩⟩, ⟨.val false [⟨.int .i64, .sh, TC.i left⟩], ⟨0, 0⟩⟩, ⟨.val false [⟨.int .i64, .sh, TC.i i⟩], ⟨0, 0⟩⟩] => some (((laws_szExpS_5_fin A left i)).map laws_szExpS_5_out)
  | _ => .none
noncomputable def laws_szExpS_lo : LoopTeller := fun r s => bif Nat.beq r 5 then laws_szExpS_lo5 s else .none
theorem laws_szExpS_5_r (A : List (List TC)) (left : Int) (i : Int) (fuel : Nat) : rounds (rnd tab FT D1 live 37 laws_szExpS_lo 0 5) leave (fuel + 1) (laws_szExpS_5_sl (A, left, i)) = ((laws_szExpS_5_step A left i)).run (goOn (fun s => rounds (rnd tab FT D1 live 37 laws_szExpS_lo 0 5) leave fuel (laws_szExpS_5_sl s)) fun w => some (laws_szExpS_5_out w)) := by kernel_rfl
theorem laws_szExpS_5_h (A : List (List TC)) (left : Int) (i : Int) (ow : laws_szExpS_5_ω) : ((laws_szExpS_5_fin A left i)).val = some ow → ∃ fuel, loopN laws_szExpS_5_st fuel (A, left, i) = some ow := by
  refine auto_two (N := A.length + 1) rfl rfl rfl ?_
  intro ho
  have ho : is (i = 0 ∧ Typed tab (.slice 25) (.l A) ∧ (∀ x : List TC, x ∈ A → ∀ left : Int, (laws_szExp_rc ((nth x 0).int) ((nth x 1).int) ((nth x 2).str) ((nth x 3).list) ((nth x 4).list) left) = true)) = true := ho.elim id id
  obtain ⟨rfl, ht, hr0⟩ := is_iff.1 ho
  have hlen : A.length ≤ 140737488351232 := by have := typed_room ht; simp only [show (tab 25).bytes = 80 from rfl] at this; omega
  refine loopN_ends (step := laws_szExpS_5_st) (N := A.length) (fun i a => (A, a, (i : Int))) (fun i a hi => ?_) (fun a => ?_) A.length 0 left (by omega)
  · show (∃ a', (laws_szExpS_5_step A a (i : Int)).val = _) ∨ ∃ w, (laws_szExpS_5_step A a (i : Int)).val = _
    have c2 : Typed tab (.str) (.s (nth (A.getD i []) 2).str) := typed_s (typed_cell ht (A.getD i []) (mem_getD hi) 2 (by decide))
    have c3 : Typed tab (.slice 25) (.l (nth (A.getD i []) 3).list) := typed_list (typed_cell ht (A.getD i []) (mem_getD hi) 3 (by decide))
    have c4 : Typed tab (.slice 135) (.l (nth (A.getD i []) 4).list) := typed_list (typed_cell ht (A.getD i []) (mem_getD hi) 4 (by decide))
    cases hneg : ((decide ((laws_szExp_rv ((nth (row A i) 0).int) ((nth (row A i) 1).int) ((nth (row A i) 2).str) ((nth (row A i) 3).list) ((nth (row A i) 4).list) a) < (0 : Int))))
    · apply Or.inl
      apply Exists.intro
      · unfold laws_szExpS_5_step
        refine Tr.t (by simp; omega) ?_
        refine Tr.t (by first | omega | (constructor <;> omega)) ?_
        refine Tr.t (hr0 (A.getD i []) (mem_getD hi) a) ?_
        refine Tr.n (by rw [hneg]; simp) ?_
        rw [Tr.val_ok, wrap64 (i := (i : Int) + 1) (by omega) (by omega)]; rfl
    · apply Or.inr
      apply Exists.intro
      · unfold laws_szExpS_5_step
        refine Tr.t (by simp; omega) ?_
        refine Tr.t (by first | omega | (constructor <;> omega)) ?_
        refine Tr.t (hr0 (A.getD i []) (mem_getD hi) a) ?_
        refine Tr.t hneg ?_
        rfl
  · apply Exists.intro
    · show (laws_szExpS_5_step A a (A.length : Int)).val = _
      refine Tr.n (by simp) ?_
      rfl
theorem laws_szExpS_is5 : LoopIs tab FT D1 live 37 laws_szExpS_lo 0 5 := by
  refine loop_told (sl := laws_szExpS_5_sl) (step := laws_szExpS_5_st) (out := laws_szExpS_5_out) (lor := laws_szExpS_lo5) (fin := fun x => (laws_szExpS_5_fin (x.1) (x.2.1) (x.2.2))) (fun _ => rfl) ?_ (fun x n => laws_szExpS_5_r x.1 x.2.1 x.2.2 n) (fun x ow => laws_szExpS_5_h x.1 x.2.1 x.2.2 ow)
  intro s t h
  unfold laws_szExpS_lo5 at h
  split at h
  · cases h; exact ⟨(_, _, _), rfl, rfl⟩
  · cases h
noncomputable def laws_szExpS_t (A : List (List TC)) (left : Int) : Tr (Int) := (.ite ((decide ((IntKind.wrap .i64 (left - (A.length : Int))) < (0 : Int))) = true) (.ok (-1 : Int))
  (.ite ((laws_szExpS_k5_1 A (IntKind.wrap .i64 (left - (A.length : Int))) (0 : Int)) = true) (.ite ((laws_szExpS_o5_2 A (IntKind.wrap .i64 (left - (A.length : Int))) (0 : Int)) = true) (.ok (-1 : Int))
    .no)
   (.ite ((laws_szExpS_o5_3 A (IntKind.wrap .i64 (left - (A.length : Int))) (0 : Int)) = true) (.ok (laws_szExpS_u5_3 A (IntKind.wrap .i64 (left - (A.length : Int))) (0 : Int)))
    .no)))
def laws_szExpS_mk (p : Int) : Res := [(false, [⟨.int .i64, .sh, TC.i p⟩])]
noncomputable def laws_szExpS_c (A : List (List TC)) (left : Int) : Bool := (bif (decide ((IntKind.wrap .i64 (left - (A.length : Int))) < (0 : Int))) then true else (bif (laws_szExpS_k5_1 A (IntKind.wrap .i64 (left - (A.length : Int))) (0 : Int)) then ((laws_szExpS_o5_2 A (IntKind.wrap .i64 (left - (A.length : Int))) (0 : Int)) && true) else ((laws_szExpS_o5_3 A (IntKind.wrap .i64 (left - (A.length : Int))) (0 : Int)) && true)))
noncomputable def laws_szExpS_v (A : List (List TC)) (left : Int) : Int := (bif (decide ((IntKind.wrap .i64 (left - (A.length : Int))) < (0 : Int))) then (-1 : Int) else (bif (laws_szExpS_k5_1 A (IntKind.wrap .i64 (left - (A.length : Int))) (0 : Int)) then (-1 : Int) else (laws_szExpS_u5_3 A (IntKind.wrap .i64 (left - (A.length : Int))) (0 : Int))))
theorem laws_szExpS_l (A : List (List TC)) (left : Int) : (laws_szExpS_c A left) = true → (laws_szExpS_t A left).val = some (laws_szExpS_v A left) := by
  unfold laws_szExpS_t laws_szExpS_v laws_szExpS_c
  exact fun h => (Tr.ss h (fun h => rfl) (fun h => (Tr.ss h (fun h => (Tr.gb h fun h => rfl)) (fun h => (Tr.gb h fun h => rfl)))))
noncomputable def laws_szExpS_S : List Arg → Option (Bool × Res) := fun xs => match xs with
  | [(false, [(.slice 25, TC.l A)]), (false, [(.int .i64, TC.i left)])] => some ((laws_szExpS_c A left), laws_szExpS_mk (laws_szExpS_v A left))
  | _ => .none
theorem laws_szExpS_e (A : List (List TC)) (left : Int) : runF tab FT D1 live 37 laws_szExpS_lo [(false, [(.slice 25, TC.l A)]), (false, [(.int .i64, TC.i left)])] = (laws_szExpS_t A left).run fun p => some (laws_szExpS_mk p) := by kernel_rfl
theorem laws_szExpS_s : ∀ xs r, laws_szExpS_S xs = some (true, r) → runF tab FT D1 live 37 laws_szExpS_lo xs = some r := by
  intro xs r h
  unfold laws_szExpS_S at h
  split at h
  · simp only [Option.some.injEq, Prod.mk.injEq] at h
    obtain ⟨h1, rfl⟩ := h
    exact fun_told (laws_szExpS_e _ _) (laws_szExpS_l _ _) h1
  · cases h
noncomputable def D2 : Dt := also D1 37 laws_szExpS_S
theorem d2 : DOk Go.Proofs.Try.prog tab D2 := d1.also mixed_ok tab_ok names_ok (fnLoops_one (by kernel_rfl) laws_szExpS_is5) laws_szExpS_s
theorem laws_szExpS_cc {A : List (List TC)} {left : Int} (ht : Typed tab (.slice 25) (.l A)) (hr0 : (∀ x : List TC, x ∈ A → ∀ left : Int, (laws_szExp_rc ((nth x 0).int) ((nth x 1).int) ((nth x 2).str) ((nth x 3).list) ((nth x 4).list) left) = true)) : (laws_szExpS_c A left) = true := by
  unfold laws_szExpS_c
  refine bifT (fun b1 => ?_) (fun b1 => ?_)
  · skip
    rfl
  · skip
    refine bifT (fun b2 => ?_) (fun b2 => ?_)
    · skip
      refine andT (by exact is_true ⟨rfl, ht, hr0⟩) ?_
      rfl
    · skip
      refine andT (by exact is_true ⟨rfl, ht, hr0⟩) ?_
      rfl
/-! laws_szRangeS -/
noncomputable def laws_szRangeS_t (a0 : List (List TC)) (a1 : Int) : Tr (Int) := (.ite ((decide ((IntKind.wrap .i64 (a1 - (a0.length : Int))) < (0 : Int))) = true) (.ok (-1 : Int))
  (.ok (IntKind.wrap .i64 (a1 - (a0.length : Int)))))
def laws_szRangeS_mk (p : Int) : Res := [(false, [⟨.int .i64, .sh, TC.i p⟩])]
noncomputable def laws_szRangeS_c (a0 : List (List TC)) (a1 : Int) : Bool := true
noncomputable def laws_szRangeS_v (a0 : List (List TC)) (a1 : Int) : Int := (bif (decide ((IntKind.wrap .i64 (a1 - (a0.length : Int))) < (0 : Int))) then (-1 : Int) else (IntKind.wrap .i64 (a1 - (a0.length : Int))))
theorem laws_szRangeS_l (a0 : List (List TC)) (a1 : Int) : (laws_szRangeS_c a0 a1) = true → (laws_szRangeS_t a0 a1).val = some (laws_szRangeS_v a0 a1) := by
  intro h
  skip
  unfold laws_szRangeS_t laws_szRangeS_v
  exact (Tr.s rfl rfl)
noncomputable def laws_szRangeS_S : List Arg → Option (Bool × Res) := fun xs => match xs with
  | [(false, [(.slice 135, TC.l a0)]), (false, [(.int .i64, TC.i a1)])] => some (true, laws_szRangeS_mk (laws_szRangeS_v a0 a1))
  | _ => .none
theorem laws_szRangeS_e (a0 : List (List TC)) (a1 : Int) : runF tab FT D2 live 38 noLoops [(false, [(.slice 135, TC.l a0)]), (false, [(.int .i64, TC.i a1)])] = (laws_szRangeS_t a0 a1).run fun p => some (laws_szRangeS_mk p) := by kernel_rfl
theorem laws_szRangeS_s : ∀ xs r, laws_szRangeS_S xs = some (true, r) → runF tab FT D2 live 38 noLoops xs = some r := by
  intro xs r h
  unfold laws_szRangeS_S at h
  split at h
  · simp only [Option.some.injEq, Prod.mk.injEq] at h
    obtain ⟨h1, rfl⟩ := h
    exact fun_told (laws_szRangeS_e _ _) (laws_szRangeS_l _ _) rfl
  · cases h
noncomputable def D3 : Dt := also D2 38 laws_szRangeS_S
theorem d3 : DOk Go.Proofs.Try.prog tab D3 := d2.also mixed_ok tab_ok names_ok noLoops_ok laws_szRangeS_s
/-! laws_szExp -/
noncomputable def laws_szExp_t (x0 : Int) (x1 : Int) (x2 : List UInt8) (x3 : List (List TC)) (x4 : List (List TC)) (x5 : Int) : Tr (Int) := (.ite ((decide ((IntKind.wrap .i64 (x5 - (x2.length : Int))) < (0 : Int))) = true) (.ok (-1 : Int))
  (.ite ((laws_szExpS_c x3 (IntKind.wrap .i64 (x5 - (x2.length : Int)))) = true) (.ite ((decide ((laws_szExpS_v x3 (IntKind.wrap .i64 (x5 - (x2.length : Int)))) < (0 : Int))) = true) (.ok (-1 : Int))
    (.ite ((decide ((laws_szRangeS_v x4 (laws_szExpS_v x3 (IntKind.wrap .i64 (x5 - (x2.length : Int))))) < (0 : Int))) = true) (.ok (-1 : Int))
     (.ok (laws_szRangeS_v x4 (laws_szExpS_v x3 (IntKind.wrap .i64 (x5 - (x2.length : Int))))))))
   .no))
def laws_szExp_mk (p : Int) : Res := [(false, [⟨.int .i64, .sh, TC.i p⟩])]
noncomputable def laws_szExp_c (x0 : Int) (x1 : Int) (x2 : List UInt8) (x3 : List (List TC)) (x4 : List (List TC)) (x5 : Int) : Bool := (bif (decide ((IntKind.wrap .i64 (x5 - (x2.length : Int))) < (0 : Int))) then true else ((laws_szExpS_c x3 (IntKind.wrap .i64 (x5 - (x2.length : Int)))) && (bif (decide ((laws_szExpS_v x3 (IntKind.wrap .i64 (x5 - (x2.length : Int)))) < (0 : Int))) then true else (bif (decide ((laws_szRangeS_v x4 (laws_szExpS_v x3 (IntKind.wrap .i64 (x5 - (x2.length : Int))))) < (0 : Int))) then true else true))))
noncomputable def laws_szExp_v (x0 : Int) (x1 : Int) (x2 : List UInt8) (x3 : List (List TC)) (x4 : List (List TC)) (x5 : Int) : Int := (bif (decide ((IntKind.wrap .i64 (x5 - (x2.length : Int))) < (0 : Int))) then (-1 : Int) else (bif (decide ((laws_szExpS_v x3 (IntKind.wrap .i64 (x5 - (x2.length : Int)))) < (0 : Int))) then (-1 : Int) else (bif (decide ((laws_szRangeS_v x4 (laws_szExpS_v x3 (IntKind.wrap .i64 (x5 - (x2.length : Int))))) < (0 : Int))) then (-1 : Int) else (laws_szRangeS_v x4 (laws_szExpS_v x3 (IntKind.wrap .i64 (x5 - (x2.length : Int))))))))
theorem laws_szExp_l (x0 : Int) (x1 : Int) (x2 : List UInt8) (x3 : List (List TC)) (x4 : List (List TC)) (x5 : Int) : (laws_szExp_c x0 x1 x2 x3 x4 x5) = true → (laws_szExp_t x0 x1 x2 x3 x4 x5).val = some (laws_szExp_v x0 x1 x2 x3 x4 x5) := by
  unfold laws_szExp_t laws_szExp_v laws_szExp_c
  exact fun h => (Tr.ss h (fun h => rfl) (fun h => (Tr.gb h fun h => (Tr.ss h (fun h => rfl) (fun h => (Tr.ss h (fun h => rfl) (fun h => rfl)))))))
noncomputable def laws_szExp_S : List Arg → Option (Bool × Res) := fun xs => match xs with
  | [(true, [(.int .i64, TC.i x0), (.int .i64, TC.i x1), (.str, TC.s x2), (.slice 25, TC.l x3), (.slice 135, TC.l x4)]), (false, [(.int .i64, TC.i x5)])] => some ((laws_szExp_c x0 x1 x2 x3 x4 x5), laws_szExp_mk (laws_szExp_v x0 x1 x2 x3 x4 x5))
  | _ => .none
theorem laws_szExp_e (x0 : Int) (x1 : Int) (x2 : List UInt8) (x3 : List (List TC)) (x4 : List (List TC)) (x5 : Int) : runF tab FT D3 live 9 noLoops [(true, [(.int .i64, TC.i x0), (.int .i64, TC.i x1), (.str, TC.s x2), (.slice 25, TC.l x3), (.slice 135, TC.l x4)]), (false, [(.int .i64, TC.i x5)])] = (laws_szExp_t x0 x1 x2 x3 x4 x5).run fun p => some (laws_szExp_mk p) := by kernel_rfl
theorem laws_szExp_s : ∀ xs r, laws_szExp_S xs = some (true, r) → runF tab FT D3 live 9 noLoops xs = some r := by
  intro xs r h
  unfold laws_szExp_S at h
  split at h
  · simp only [Option.some.injEq, Prod.mk.injEq] at h
    obtain ⟨h1, rfl⟩ := h
    exact fun_told (laws_szExp_e _ _ _ _ _ _) (laws_szExp_l _ _ _ _ _ _) h1
  · cases h
noncomputable def laws_szExp_next : (Int) → (Int) → (List UInt8) → (List (List TC)) → (List (List TC)) → (Int) → Bool × (Int) := fun x0 x1 x2 x3 x4 x5 => ((laws_szExp_c x0 x1 x2 x3 x4 x5), (laws_szExp_v x0 x1 x2 x3 x4 x5))
theorem laws_szExp_nx (m : Nat) (hR : ∀ (x0 : Int) (x1 : Int) (x2 : List UInt8) (x3 : List (List TC)) (x4 : List (List TC)) (x5 : Int), rowsDep x3 < m ∧ Typed tab (.slice 25) (.l x3) ∧ Typed tab (.slice 135) (.l x4) → (laws_szExp_rc x0 x1 x2 x3 x4 x5) = true) (x0 : Int) (x1 : Int) (x2 : List UInt8) (x3 : List (List TC)) (x4 : List (List TC)) (x5 : Int) : rowsDep x3 < (m + 1) ∧ Typed tab (.slice 25) (.l x3) ∧ Typed tab (.slice 135) (.l x4) → (laws_szExp_c x0 x1 x2 x3 x4 x5) = true := by
  intro h
  obtain ⟨hM, t3, t4⟩ := h
  unfold laws_szExp_c
  refine bifT (fun b1 => ?_) (fun b1 => ?_)
  · skip
    rfl
  · skip
    refine andT (by exact laws_szExpS_cc t3 (fun x hx left => hR _ _ _ _ _ _ ⟨by have a := dep_cell hx 3; omega, typed_list ((typed_elem t3 hx).2 3 (by decide)), typed_list ((typed_elem t3 hx).2 4 (by decide))⟩)) ?_
    refine bifT (fun b2 => ?_) (fun b2 => ?_)
    · skip
      rfl
    · skip
      refine bifT (fun b3 => ?_) (fun b3 => ?_)
      · skip
        rfl
      · skip
        rfl
theorem laws_szExp_rs : ∀ xs r, laws_szExp_rS (i_laws_szExp := ⟨laws_szExp_next⟩) xs = some (true, r) → runF tab FT D3 live 9 noLoops xs = some r := by
  intro xs r h
  unfold laws_szExp_rS at h
  split at h
  · simp only [Option.some.injEq, Prod.mk.injEq] at h
    obtain ⟨h1, rfl⟩ := h
    exact fun_told (laws_szExp_e _ _ _ _ _ _) (laws_szExp_l _ _ _ _ _ _) h1
  · cases h
theorem laws_szExp_step : laws_szExp_G (i_laws_szExp := ⟨laws_szExp_next⟩) := by
  have h := DOk.also2 (S := laws_szExp_rS (i_laws_szExp := ⟨laws_szExp_next⟩)) mixed_ok tab_ok names_ok d0 d3 noLoops_ok laws_szExp_rs
  refine laws_szExp_G.mk (i_laws_szExp := ⟨laws_szExp_next⟩) ?_
  exact h
/-! laws_toExp calls itself -/
section
class laws_toExp_O where n : Nat
variable [i_laws_toExp : laws_toExp_O]
noncomputable def laws_toExp_rc (x0 : Int) (x1 : Int) (x2 : List UInt8) (x3 : List (List TC)) (x4 : List (List TC)) : Bool := is (rowsDep x3 < laws_toExp_O.n ∧ Typed tab (.slice 25) (.l x3) ∧ Typed tab (.slice 135) (.l x4))
noncomputable def laws_toExp_rv (x0 : Int) (x1 : Int) (x2 : List UInt8) (x3 : List (List TC)) (x4 : List (List TC)) : Int × Int × List UInt8 × List (List TC) × List (List TC) := (x0, x1, x2, x3, x4)
def laws_toExp_rmk (p : Int × Int × List UInt8 × List (List TC) × List (List TC)) : Res := [(true, [⟨.int .i64, .sh, TC.i (p.1)⟩, ⟨.int .i64, .sh, TC.i (p.2.1)⟩, ⟨.str, .sh, TC.s (p.2.2.1)⟩, ⟨.slice 31, .own true, TC.l (p.2.2.2.1)⟩, ⟨.slice 93, .own true, TC.l (p.2.2.2.2)⟩])]
noncomputable def laws_toExp_rS : List Arg → Option (Bool × Res) := fun xs => match xs with
  | [(true, [(.int .i64, TC.i x0), (.int .i64, TC.i x1), (.str, TC.s x2), (.slice 25, TC.l x3), (.slice 135, TC.l x4)])] => some ((laws_toExp_rc x0 x1 x2 x3 x4), laws_toExp_rmk (laws_toExp_rv x0 x1 x2 x3 x4))
  | _ => .none
noncomputable def D4 : Dt := also D3 11 laws_toExp_rS
class laws_toExp_G : Prop where ok : DOk Go.Proofs.Try.prog tab D4
variable [g_laws_toExp : laws_toExp_G]
theorem d4 : DOk Go.Proofs.Try.prog tab D4 := laws_toExp_G.ok
/-! laws_toExpS -/
noncomputable def laws_toExpS_g (x : List TC) : List TC := [TC.i ((laws_toExp_rv ((nth x 0).int) ((nth x 1).int) ((nth x 2).str) ((nth x 3).list) ((nth x 4).list)).1), TC.i ((laws_toExp_rv ((nth x 0).int) ((nth x 1).int) ((nth x 2).str) ((nth x 3).list) ((nth x 4).list)).2.1), TC.s ((laws_toExp_rv ((nth x 0).int) ((nth x 1).int) ((nth x 2).str) ((nth x 3).list) ((nth x 4).list)).2.2.1), TC.l ((laws_toExp_rv ((nth x 0).int) ((nth x 1).int) ((nth x 2).str) ((nth x 3).list) ((nth x 4).list)).2.2.2.1), TC.l ((laws_toExp_rv ((nth x 0).int) ((nth x 1).int) ((nth x 2).str) ((nth x 3).list) ((nth x 4).list)).2.2.2.2)]
def laws_toExpS_z : List TC := [TC.i (0 : Int), TC.i (0 : Int), TC.s [], TC.l [], TC.l []]
theorem laws_toExpS_id {A : List (List TC)} (h : Typed tab (.slice 25) (.l A)) : A.map laws_toExpS_g = A := map_same fun x hx => by
  obtain ⟨hl, hk⟩ := typed_elem h hx
  have e0 : TC.i ((nth x 0).int) = nth x 0 := typed_int_eq (hk 0 (by decide))
  have e1 : TC.i ((nth x 1).int) = nth x 1 := typed_int_eq (hk 1 (by decide))
  have e2 : TC.s ((nth x 2).str) = nth x 2 := typed_str_eq (hk 2 (by decide))
  have e3 : TC.l ((nth x 3).list) = nth x 3 := typed_list_eq (hk 3 (by decide))
  have e4 : TC.l ((nth x 4).list) = nth x 4 := typed_list_eq (hk 4 (by decide))
  show [TC.i ((nth x 0).int), TC.i ((nth x 1).int), TC.s ((nth x 2).str), TC.l ((nth x 3).list), TC.l ((nth x 4).list)] = _
  rw [e0, e1, e2, e3, e4]
  exact (row_eta hl).symm
abbrev laws_toExpS_3_σ := List (List TC) × List (List TC) × Int
abbrev laws_toExpS_3_ω := (List (List TC))
noncomputable def laws_toExpS_3_step (A : List (List TC)) (X : List (List TC)) (i : Int) : Tr (laws_toExpS_3_σ ⊕ laws_toExpS_3_ω) := (.ite ((decide (i < (A.length : Int))) = true) (.ite ((0 : Int) ≤ i ∧ i < (A.length : Int)) (.ite ((laws_toExp_rc ((nth (row A i) 0).int) ((nth (row A i) 1).int) ((nth (row A i) 2).str) ((nth (row A i) 3).list) ((nth (row A i) 4).list)) = true) (.ite ((0 : Int) ≤ i ∧ i < (X.length : Int)) (.ok (.inl (A, (X.set (i).toNat (splice (row X i) 0 [TC.i ((laws_toExp_rv ((nth (row A i) 0).int) ((nth (row A i) 1).int) ((nth (row A i) 2).str) ((nth (row A i) 3).list) ((nth (row A i) 4).list)).1), TC.i ((laws_toExp_rv ((nth (row A i) 0).int) ((nth (row A i) 1).int) ((nth (row A i) 2).str) ((nth (row A i) 3).list) ((nth (row A i) 4).list)).2.1), TC.s ((laws_toExp_rv ((nth (row A i) 0).int) ((nth (row A i) 1).int) ((nth (row A i) 2).str) ((nth (row A i) 3).list) ((nth (row A i) 4).list)).2.2.1), TC.l ((laws_toExp_rv ((nth (row A i) 0).int) ((nth (row A i) 1).int) ((nth (row A i) 2).str) ((nth (row A i) 3).list) ((nth (row A i) 4).list)).2.2.2.1), TC.l ((laws_toExp_rv ((nth (row A i) 0).int) ((nth (row A i) 1).int) ((nth (row A i) 2).str) ((nth (row A i) 3).list) ((nth (row A i) 4).list)).2.2.2.2)])), (IntKind.wrap .i64 (i + (1 : Int))))))
     .no)
    .no)
   .no)
  (.ok (.inr X)))
noncomputable def laws_toExpS_3_st : laws_toExpS_3_σ → Tr (laws_toExpS_3_σ ⊕ laws_toExpS_3_ω) := fun x => (laws_toExpS_3_step (x.1) (x.2.1) (x.2.2))
noncomputable def laws_toExpS_o3_1 (A : List (List TC)) (X : List (List TC)) (i : Int) : Bool := is (Typed tab (.slice 25) (.l A) ∧ (∀ x : List TC, x ∈ A → (laws_toExp_rc ((nth x 0).int) ((nth x 1).int) ((nth x 2).str) ((nth x 3).list) ((nth x 4).list)) = true) ∧ X = List.replicate A.length laws_toExpS_z ∧ i = 0)
noncomputable def laws_toExpS_3_fin (A : List (List TC)) (X : List (List TC)) (i : Int) : Told laws_toExpS_3_ω := (.leaf (laws_toExpS_o3_1 A X i) A)
def laws_toExpS_3_sl (x : laws_toExpS_3_σ) : List Slot := [⟨.val false [⟨.slice 25, .sh, TC.l (x.1)⟩], ⟨0, 0⟩⟩, ⟨.val false [⟨.slice 31, .own true, TC.l (x.2.1)⟩], ⟨0, 0⟩⟩, ⟨.val false [⟨.int .i64, .sh, TC.i (x.2.2)⟩], ⟨0, 0⟩⟩]
def laws_toExpS_3_out : laws_toExpS_3_ω → Ex × List Slot := (fun x => (.exit 0, [Slot.none, ⟨.val false [⟨.slice 31, .own true, TC.l x⟩], ⟨0, 0⟩⟩]))
noncomputable def laws_toExpS_lo3 : List Slot → Option (Told (Ex × List Slot)) := fun s => match s with
  | [⟨.val false [⟨.slice 25, .sh, TC.l A⟩], ⟨0, 0⟩⟩, ⟨.val false [⟨.slice 31, .own true, TC.l X⟩], ⟨0, 0⟩⟩, ⟨.val false [⟨.int .i64, .sh, TC.i i⟩], ⟨0, 0⟩⟩] => some (((laws_toExpS_3_fin A X i)).map laws_toExpS_3_out)
  | _ => .none
noncomputable def laws_toExpS_lo : LoopTeller := fun r s => bif Nat.beq r 3 then laws_toExpS_lo3 s else .none
theorem laws_toExpS_3_r (A : List (List TC)) (X : List (List TC)) (i : Int) (fuel : Nat) : rounds (rnd tab FT D4 live 40 laws_toExpS_lo 0 3) leave (fuel + 1) (laws_toExpS_3_sl (A, X, i)) = ((laws_toExpS_3_step A X i)).run (goOn (fun s => rounds (rnd tab FT D4 live 40 laws_toExpS_lo 0 3) leave fuel (laws_toExpS_3_sl s)) fun w => some (laws_toExpS_3_out w)) := by kernel_rfl
theorem laws_toExpS_3_h (A : List (List TC)) (X : List (List TC)) (i : Int) (ow : laws_toExpS_3_ω) : ((laws_toExpS_3_fin A X i)).val = some ow → ∃ fuel, loopN laws_toExpS_3_st fuel (A, X, i) = some ow := by
  intro h
  refine auto_leaf (R := A) (fun ho => ?_) h
  obtain ⟨ht, hr0, rfl, rfl⟩ := is_iff.1 ho
  have hlen : A.length ≤ 140737488351232 := by have := typed_room ht; simp only [show (tab 25).bytes = 80 from rfl] at this; omega
  have key := loopN_copy (step := laws_toExpS_3_st) A (List.replicate A.length laws_toExpS_z) laws_toExpS_g (fun Y i => (A, Y, (i : Int))) (A.map laws_toExpS_g) (by simp) (fun x hx i _ => by rw [(List.mem_replicate.1 hx).2]; exact Nat.le_refl 5) (fun Y i hi hl => ?_) ?_ A.length 0 (by omega)
  · rw [copied_zero, laws_toExpS_id ht] at key
    exact ⟨_, key⟩
  · have c2 : Typed tab (.str) (.s (nth (A.getD i []) 2).str) := typed_s (typed_cell ht (A.getD i []) (mem_getD hi) 2 (by decide))
    have c3 : Typed tab (.slice 25) (.l (nth (A.getD i []) 3).list) := typed_list (typed_cell ht (A.getD i []) (mem_getD hi) 3 (by decide))
    have c4 : Typed tab (.slice 135) (.l (nth (A.getD i []) 4).list) := typed_list (typed_cell ht (A.getD i []) (mem_getD hi) 4 (by decide))
    show (laws_toExpS_3_step A Y (i : Int)).val = _
    unfold laws_toExpS_3_step
    refine Tr.t (by simp; omega) ?_
    refine Tr.t (by first | omega | (constructor <;> omega)) ?_
    refine Tr.t (hr0 (A.getD i []) (mem_getD hi)) ?_
    refine Tr.t (by first | omega | (constructor <;> omega)) ?_
    rw [Tr.val_ok, wrap64 (i := (i : Int) + 1) (by omega) (by omega)]; rfl
  · show (laws_toExpS_3_step A (A.map laws_toExpS_g) (A.length : Int)).val = _
    refine Tr.n (by simp) ?_
    rfl
theorem laws_toExpS_is3 : LoopIs tab FT D4 live 40 laws_toExpS_lo 0 3 := by
  refine loop_told (sl := laws_toExpS_3_sl) (step := laws_toExpS_3_st) (out := laws_toExpS_3_out) (lor := laws_toExpS_lo3) (fin := fun x => (laws_toExpS_3_fin (x.1) (x.2.1) (x.2.2))) (fun _ => rfl) ?_ (fun x n => laws_toExpS_3_r x.1 x.2.1 x.2.2 n) (fun x ow => laws_toExpS_3_h x.1 x.2.1 x.2.2 ow)
  intro s t h
  unfold laws_toExpS_lo3 at h
  split at h
  · cases h; exact ⟨(_, _, _), rfl, rfl⟩
  · cases h
noncomputable def laws_toExpS_t (A : List (List TC)) : Tr (List (List TC)) := (.ite (0 ≤ (A.length : Int) ∧ (A.length : Int) ≤ (A.length : Int) ∧ (A.length : Int) * 80 ≤ 140737488355328 ∧ (A.length : Int) ≤ 140737488355328) (.ite ((laws_toExpS_o3_1 A (List.replicate ((A.length : Int)).toNat [TC.i (0 : Int), TC.i (0 : Int), TC.s [], TC.l [], TC.l []]) (0 : Int)) = true) (.ok A)
   .no)
  .no)
def laws_toExpS_mk (p : List (List TC)) : Res := [(false, [⟨.slice 31, .own true, TC.l p⟩])]
noncomputable def laws_toExpS_c (A : List (List TC)) : Bool := is (Typed tab (.slice 25) (.l A) ∧ (∀ x : List TC, x ∈ A → (laws_toExp_rc ((nth x 0).int) ((nth x 1).int) ((nth x 2).str) ((nth x 3).list) ((nth x 4).list)) = true))
noncomputable def laws_toExpS_v (A : List (List TC)) : List (List TC) := A
theorem laws_toExpS_l (A : List (List TC)) : (laws_toExpS_c A) = true → (laws_toExpS_t A).val = some (laws_toExpS_v A) := by
  intro h
  obtain ⟨ht, hr0⟩ := is_iff.1 h
  have hb := typed_room ht
  simp only [show (tab 25).bytes = 80 from rfl] at hb
  unfold laws_toExpS_t
  refine Tr.t (by omega) ?_
  refine Tr.t (is_true ⟨ht, hr0, by rfl, rfl⟩) ?_
  rfl
noncomputable def laws_toExpS_S : List Arg → Option (Bool × Res) := fun xs => match xs with
  | [(false, [(.slice 25, TC.l A)])] => some ((laws_toExpS_c A), laws_toExpS_mk (laws_toExpS_v A))
  | _ => .none
theorem laws_toExpS_e (A : List (List TC)) : runF tab FT D4 live 40 laws_toExpS_lo [(false, [(.slice 25, TC.l A)])] = (laws_toExpS_t A).run fun p => some (laws_toExpS_mk p) := by kernel_rfl
theorem laws_toExpS_s : ∀ xs r, laws_toExpS_S xs = some (true, r) → runF tab FT D4 live 40 laws_toExpS_lo xs = some r := by
  intro xs r h
  unfold laws_toExpS_S at h
  split at h
  · simp only [Option.some.injEq, Prod.mk.injEq] at h
    obtain ⟨h1, rfl⟩ := h
    exact fun_told (laws_toExpS_e _) (laws_toExpS_l _) h1
  · cases h
noncomputable def D5 : Dt := also D4 40 laws_toExpS_S
theorem d5 : DOk Go.Proofs.Try.prog tab D5 := d4.also mixed_ok tab_ok names_ok (fnLoops_one (by kernel_rfl) laws_toExpS_is3) laws_toExpS_s
theorem laws_toExpS_ty {A : List (List TC)} (h : Typed tab (.slice 25) (.l A)) : Typed tab (.slice 31) (.l A) := typed_iso iso_ok h (by decide)
/-! laws_toRange -/
noncomputable def laws_toRange_t (a0 : Int) (a1 : Int) (a2 : Bool) : Tr (Int × Int × Bool) := .ok (a0, a1, a2)
def laws_toRange_mk (p : Int × Int × Bool) : Res := [(true, [⟨.int .i64, .sh, TC.i (p.1)⟩, ⟨.int .i64, .sh, TC.i (p.2.1)⟩, ⟨.bool, .sh, TC.b (p.2.2)⟩])]
noncomputable def laws_toRange_c (a0 : Int) (a1 : Int) (a2 : Bool) : Bool := true
noncomputable def laws_toRange_v (a0 : Int) (a1 : Int) (a2 : Bool) : Int × Int × Bool := (a0, a1, a2)
theorem laws_toRange_l (a0 : Int) (a1 : Int) (a2 : Bool) : (laws_toRange_c a0 a1 a2) = true → (laws_toRange_t a0 a1 a2).val = some (laws_toRange_v a0 a1 a2) := by
  intro h
  skip
  unfold laws_toRange_t laws_toRange_v
  exact rfl
noncomputable def laws_toRange_S : List Arg → Option (Bool × Res) := fun xs => match xs with
  | [(true, [(.int .i64, TC.i a0), (.int .i64, TC.i a1), (.bool, TC.b a2)])] => some (true, laws_toRange_mk (laws_toRange_v a0 a1 a2))
  | _ => .none
theorem laws_toRange_e (a0 : Int) (a1 : Int) (a2 : Bool) : runF tab FT D5 live 87 noLoops [(true, [(.int .i64, TC.i a0), (.int .i64, TC.i a1), (.bool, TC.b a2)])] = (laws_toRange_t a0 a1 a2).run fun p => some (laws_toRange_mk p) := by kernel_rfl
theorem laws_toRange_s : ∀ xs r, laws_toRange_S xs = some (true, r) → runF tab FT D5 live 87 noLoops xs = some r := by
  intro xs r h
  unfold laws_toRange_S at h
  split at h
  · simp only [Option.some.injEq, Prod.mk.injEq] at h
    obtain ⟨h1, rfl⟩ := h
    exact fun_told (laws_toRange_e _ _ _) (laws_toRange_l _ _ _) rfl
  · cases h
noncomputable def D6 : Dt := also D5 87 laws_toRange_S
theorem d6 : DOk Go.Proofs.Try.prog tab D6 := d5.also mixed_ok tab_ok names_ok noLoops_ok laws_toRange_s
/-! laws_toRangeS -/
noncomputable def laws_toRangeS_g (x : List TC) : List TC := [TC.i ((nth x 0).int), TC.i ((nth x 1).int), TC.b ((nth x 2).bool)]
def laws_toRangeS_z : List TC := [TC.i (0 : Int), TC.i (0 : Int), TC.b false]
theorem laws_toRangeS_id {A : List (List TC)} (h : Typed tab (.slice 135) (.l A)) : A.map laws_toRangeS_g = A := map_same fun x hx => by
  obtain ⟨hl, hk⟩ := typed_elem h hx
  have e0 : TC.i ((nth x 0).int) = nth x 0 := typed_int_eq (hk 0 (by decide))
  have e1 : TC.i ((nth x 1).int) = nth x 1 := typed_int_eq (hk 1 (by decide))
  have e2 : TC.b ((nth x 2).bool) = nth x 2 := typed_bool_eq (hk 2 (by decide))
  show [TC.i ((nth x 0).int), TC.i ((nth x 1).int), TC.b ((nth x 2).bool)] = _
  rw [e0, e1, e2]
  exact (row_eta hl).symm
abbrev laws_toRangeS_3_σ := List (List TC) × List (List TC) × Int
abbrev laws_toRangeS_3_ω := (List (List TC))
noncomputable def laws_toRangeS_3_step (A : List (List TC)) (X : List (List TC)) (i : Int) : Tr (laws_toRangeS_3_σ ⊕ laws_toRangeS_3_ω) := (.ite ((decide (i < (A.length : Int))) = true) (.ite ((0 : Int) ≤ i ∧ i < (A.length : Int)) (.ite ((0 : Int) ≤ i ∧ i < (X.length : Int)) (.ok (.inl (A, (X.set (i).toNat (splice (row X i) 0 [TC.i ((nth (row A i) 0).int), TC.i ((nth (row A i) 1).int), TC.b ((nth (row A i) 2).bool)])), (IntKind.wrap .i64 (i + (1 : Int))))))
    .no)
   .no)
  (.ok (.inr X)))
noncomputable def laws_toRangeS_3_st : laws_toRangeS_3_σ → Tr (laws_toRangeS_3_σ ⊕ laws_toRangeS_3_ω) := fun x => (laws_toRangeS_3_step (x.1) (x.2.1) (x.2.2))
noncomputable def laws_toRangeS_o3_1 (A : List (List TC)) (X : List (List TC)) (i : Int) : Bool := is (Typed tab (.slice 135) (.l A) ∧ X = List.replicate A.length laws_toRangeS_z ∧ i = 0)
noncomputable def laws_toRangeS_3_fin (A : List (List TC)) (X : List (List TC)) (i : Int) : Told laws_toRangeS_3_ω := (.leaf (laws_toRangeS_o3_1 A X i) A)
def laws_toRangeS_3_sl (x : laws_toRangeS_3_σ) : List Slot := [⟨.val false [⟨.slice 135, .sh, TC.l (x.1)⟩], ⟨0, 0⟩⟩, ⟨.val false [⟨.slice 93, .own true, TC.l (x.2.1)⟩], ⟨0, 0⟩⟩, ⟨.val false [⟨.int .i64, .sh, TC.i (x.2.2)⟩], ⟨0, 0⟩⟩]
def laws_toRangeS_3_out : laws_toRangeS_3_ω → Ex × List Slot := (fun x => (.exit 0, [Slot.none, ⟨.val false [⟨.slice 93, .own true, TC.l x⟩], ⟨0, 0⟩⟩]))
noncomputable def laws_toRangeS_lo3 : List Slot → Option (Told (Ex × List Slot)) := fun s => match s with
  | [⟨.val false [⟨.slice 135, .sh, TC.l A⟩], ⟨0, 0⟩⟩, ⟨.val false [⟨.slice 93, .own true, TC.l X⟩], ⟨0, 0⟩⟩, ⟨.val false [⟨.int .i64, .sh, TC.i i⟩], ⟨0, 0⟩⟩] => some (((laws_toRangeS_3_fin A X i)).map laws_toRangeS_3_out)
  | _ => .none
noncomputable def laws_toRangeS_lo : LoopTeller := fun r s => bif Nat.beq r 3 then laws_toRangeS_lo3 s else .none
theorem laws_toRangeS_3_r (A : List (List TC)) (X : List (List TC)) (i : Int) (fuel : Nat) : rounds (rnd tab FT D6 live 41 laws_toRangeS_lo 0 3) leave (fuel + 1) (laws_toRangeS_3_sl (A, X, i)) = ((laws_toRangeS_3_step A X i)).run (goOn (fun s => rounds (rnd tab FT D6 live 41 laws_toRangeS_lo 0 3) leave fuel (laws_toRangeS_3_sl s)) fun w => some (laws_toRangeS_3_out w)) := by kernel_rfl
theorem laws_toRangeS_3_h (A : List (List TC)) (X : List (List TC)) (i : Int) (ow : laws_toRangeS_3_ω) : ((laws_toRangeS_3_fin A X i)).val = some ow → ∃ fuel, loopN laws_toRangeS_3_st fuel (A, X, i) = some ow := by
  intro h
  refine auto_leaf (R := A) (fun ho => ?_) h
  obtain ⟨ht, rfl, rfl⟩ := is_iff.1 ho
  have hlen : A.length ≤ 140737488351232 := by have := typed_room ht; simp only [show (tab 135).bytes = 24 from rfl] at this; omega
  have key := loopN_copy (step := laws_toRangeS_3_st) A (List.replicate A.length laws_toRangeS_z) laws_toRangeS_g (fun Y i => (A, Y, (i : Int))) (A.map laws_toRangeS_g) (by simp) (fun x hx i _ => by rw [(List.mem_replicate.1 hx).2]; exact Nat.le_refl 3) (fun Y i hi hl => ?_) ?_ A.length 0 (by omega)
  · rw [copied_zero, laws_toRangeS_id ht] at key
    exact ⟨_, key⟩
  · skip
    show (laws_toRangeS_3_step A Y (i : Int)).val = _
    unfold laws_toRangeS_3_step
    refine Tr.t (by simp; omega) ?_
    refine Tr.t (by first | omega | (constructor <;> omega)) ?_
    refine Tr.t (by first | omega | (constructor <;> omega)) ?_
    rw [Tr.val_ok, wrap64 (i := (i : Int) + 1) (by omega) (by omega)]; rfl
  · show (laws_toRangeS_3_step A (A.map laws_toRangeS_g) (A.length : Int)).val = _
    refine Tr.n (by simp) ?_
    rfl
theorem laws_toRangeS_is3 : LoopIs tab FT D6 live 41 laws_toRangeS_lo 0 3 := by
  refine loop_told (sl := laws_toRangeS_3_sl) (step := laws_toRangeS_3_st) (out := laws_toRangeS_3_out) (lor := laws_toRangeS_lo3) (fin := fun x => (laws_toRangeS_3_fin (x.1) (x.2.1) (x.2.2))) (fun _ => rfl) ?_ (fun x n => laws_toRangeS_3_r x.1 x.2.1 x.2.2 n) (fun x ow => laws_toRangeS_3_h x.1 x.2.1 x.2.2 ow)
  intro s t h
  unfold laws_toRangeS_lo3 at h
  split at h
  · cases h; exact ⟨(_, _, _), rfl, rfl⟩
  · cases h
noncomputable def laws_toRangeS_t (A : List (List TC)) : Tr (List (List TC)) := (.ite (0 ≤ (A.length : Int) ∧ (A.length : Int) ≤ (A.length : Int) ∧ (A.length : Int) * 24 ≤ 140737488355328 ∧ (A.length : Int) ≤ 140737488355328) (.ite ((laws_toRangeS_o3_1 A (List.replicate ((A.length : Int)).toNat [TC.i (0 : Int), TC.i (0 : Int), TC.b false]) (0 : Int)) = true) (.ok A)
   .no)
  .no)
def laws_toRangeS_mk (p : List (List TC)) : Res := [(false, [⟨.slice 93, .own true, TC.l p⟩])]
noncomputable def laws_toRangeS_c (A : List (List TC)) : Bool := is (Typed tab (.slice 135) (.l A))
noncomputable def laws_toRangeS_v (A : List (List TC)) : List (List TC) := A
theorem laws_toRangeS_l (A : List (List TC)) : (laws_toRangeS_c A) = true → (laws_toRangeS_t A).val = some (laws_toRangeS_v A) := by
  intro h
  have ht := is_iff.1 h
  have hb := typed_room ht
  simp only [show (tab 135).bytes = 24 from rfl] at hb
  unfold laws_toRangeS_t
  refine Tr.t (by omega) ?_
  refine Tr.t (is_true ⟨ht, by rfl, rfl⟩) ?_
  rfl
noncomputable def laws_toRangeS_S : List Arg → Option (Bool × Res) := fun xs => match xs with
  | [(false, [(.slice 135, TC.l A)])] => some ((laws_toRangeS_c A), laws_toRangeS_mk (laws_toRangeS_v A))
  | _ => .none
theorem laws_toRangeS_e (A : List (List TC)) : runF tab FT D6 live 41 laws_toRangeS_lo [(false, [(.slice 135, TC.l A)])] = (laws_toRangeS_t A).run fun p => some (laws_toRangeS_mk p) := by kernel_rfl
theorem laws_toRangeS_s : ∀ xs r, laws_toRangeS_S xs = some (true, r) → runF tab FT D6 live 41 laws_toRangeS_lo xs = some r := by
  intro xs r h
  unfold laws_toRangeS_S at h
  split at h
  · simp only [Option.some.injEq, Prod.mk.injEq] at h
    obtain ⟨h1, rfl⟩ := h
    exact fun_told (laws_toRangeS_e _) (laws_toRangeS_l _) h1
  · cases h
noncomputable def D7 : Dt := also D6 41 laws_toRangeS_S
theorem d7 : DOk Go.Proofs.Try.prog tab D7 := d6.also mixed_ok tab_ok names_ok (fnLoops_one (by kernel_rfl) laws_toRangeS_is3) laws_toRangeS_s
theorem laws_toRangeS_ty {A : List (List TC)} (h : Typed tab (.slice 135) (.l A)) : Typed tab (.slice 93) (.l A) := typed_iso iso_ok h (by decide)
/-! laws_toExp -/
noncomputable def laws_toExp_t (x0 : Int) (x1 : Int) (x2 : List UInt8) (x3 : List (List TC)) (x4 : List (List TC)) : Tr (Int × Int × List UInt8 × List (List TC) × List (List TC)) := (.ite ((laws_toExpS_c x3) = true) (.ite ((laws_toRangeS_c x4) = true) (.ok (x0, x1, x2, (laws_toExpS_v x3), (laws_toRangeS_v x4)))
   .no)
  .no)
def laws_toExp_mk (p : Int × Int × List UInt8 × List (List TC) × List (List TC)) : Res := [(true, [⟨.int .i64, .sh, TC.i (p.1)⟩, ⟨.int .i64, .sh, TC.i (p.2.1)⟩, ⟨.str, .sh, TC.s (p.2.2.1)⟩, ⟨.slice 31, .own true, TC.l (p.2.2.2.1)⟩, ⟨.slice 93, .own true, TC.l (p.2.2.2.2)⟩])]
noncomputable def laws_toExp_c (x0 : Int) (x1 : Int) (x2 : List UInt8) (x3 : List (List TC)) (x4 : List (List TC)) : Bool := ((laws_toExpS_c x3) && ((laws_toRangeS_c x4) && true))
noncomputable def laws_toExp_v (x0 : Int) (x1 : Int) (x2 : List UInt8) (x3 : List (List TC)) (x4 : List (List TC)) : Int × Int × List UInt8 × List (List TC) × List (List TC) := (x0, x1, x2, (laws_toExpS_v x3), (laws_toRangeS_v x4))
theorem laws_toExp_l (x0 : Int) (x1 : Int) (x2 : List UInt8) (x3 : List (List TC)) (x4 : List (List TC)) : (laws_toExp_c x0 x1 x2 x3 x4) = true → (laws_toExp_t x0 x1 x2 x3 x4).val = some (laws_toExp_v x0 x1 x2 x3 x4) := by
  unfold laws_toExp_t laws_toExp_v laws_toExp_c
  exact fun h => (Tr.gb h fun h => (Tr.gb h fun h => rfl))
noncomputable def laws_toExp_S : List Arg → Option (Bool × Res) := fun xs => match xs with
  | [(true, [(.int .i64, TC.i x0), (.int .i64, TC.i x1), (.str, TC.s x2), (.slice 25, TC.l x3), (.slice 135, TC.l x4)])] => some ((laws_toExp_c x0 x1 x2 x3 x4), laws_toExp_mk (laws_toExp_v x0 x1 x2 x3 x4))
  | _ => .none
theorem laws_toExp_e (x0 : Int) (x1 : Int) (x2 : List UInt8) (x3 : List (List TC)) (x4 : List (List TC)) : runF tab FT D7 live 11 noLoops [(true, [(.int .i64, TC.i x0), (.int .i64, TC.i x1), (.str, TC.s x2), (.slice 25, TC.l x3), (.slice 135, TC.l x4)])] = (laws_toExp_t x0 x1 x2 x3 x4).run fun p => some (laws_toExp_mk p) := by kernel_rfl
theorem laws_toExp_s : ∀ xs r, laws_toExp_S xs = some (true, r) → runF tab FT D7 live 11 noLoops xs = some r := by
  intro xs r h
  unfold laws_toExp_S at h
  split at h
  · simp only [Option.some.injEq, Prod.mk.injEq] at h
    obtain ⟨h1, rfl⟩ := h
    exact fun_told (laws_toExp_e _ _ _ _ _) (laws_toExp_l _ _ _ _ _) h1
  · cases h
theorem laws_toExp_nx (x0 : Int) (x1 : Int) (x2 : List UInt8) (x3 : List (List TC)) (x4 : List (List TC)) : is (rowsDep x3 < laws_toExp_O.n + 1 ∧ Typed tab (.slice 25) (.l x3) ∧ Typed tab (.slice 135) (.l x4)) = true → (laws_toExp_c x0 x1 x2 x3 x4) = true ∧ (laws_toExp_v x0 x1 x2 x3 x4) = (x0, x1, x2, x3, x4) := by
  intro h
  obtain ⟨hM, t3, t4⟩ := is_iff.1 h
  refine ⟨?_, rfl⟩
  unfold laws_toExp_c
  refine andT (by exact is_true ⟨t3, fun x hx => is_true ⟨by have a := dep_cell hx 3; omega, typed_list ((typed_elem t3 hx).2 3 (by decide)), typed_list ((typed_elem t3 hx).2 4 (by decide))⟩⟩) ?_
  refine andT (by exact is_true t4) ?_
  rfl
theorem laws_toExp_nxr (x0 : Int) (x1 : Int) (x2 : List UInt8) (x3 : List (List TC)) (x4 : List (List TC)) : laws_toExp_rc (i_laws_toExp := ⟨laws_toExp_O.n + 1⟩) x0 x1 x2 x3 x4 = true → (laws_toExp_c x0 x1 x2 x3 x4) = true ∧ (laws_toExp_v x0 x1 x2 x3 x4) = (laws_toExp_rv x0 x1 x2 x3 x4) := fun h => laws_toExp_nx x0 x1 x2 x3 x4 h
theorem laws_toExp_rs : ∀ xs r, laws_toExp_rS (i_laws_toExp := ⟨laws_toExp_O.n + 1⟩) xs = some (true, r) → runF tab FT D7 live 11 noLoops xs = some r := by
  intro xs r h
  unfold laws_toExp_rS at h
  split at h
  · simp only [Option.some.injEq, Prod.mk.injEq] at h
    obtain ⟨h1, rfl⟩ := h
    have hx := laws_toExp_nxr _ _ _ _ _ h1
    have ht := fun_told (laws_toExp_e _ _ _ _ _) (laws_toExp_l _ _ _ _ _) hx.1
    rw [hx.2] at ht
    exact ht
  · cases h
theorem laws_toExp_step : laws_toExp_G (i_laws_toExp := ⟨laws_toExp_O.n + 1⟩) := by
  have h := DOk.also2 (S := laws_toExp_rS (i_laws_toExp := ⟨laws_toExp_O.n + 1⟩)) mixed_ok tab_ok names_ok d3 d7 noLoops_ok laws_toExp_rs
  refine laws_toExp_G.mk (i_laws_toExp := ⟨laws_toExp_O.n + 1⟩) ?_
  exact h
/-! spec_l25Same calls itself -/
theorem form_31 {A : List (List TC)} (h : Typed tab (.slice 31) (.l A)) {x : List TC} (hx : x ∈ A) : x = [TC.i (nth x 0).int, TC.i (nth x 1).int, TC.s (nth x 2).str, TC.l (nth x 3).list, TC.l (nth x 4).list] := by
  obtain ⟨hl, hk⟩ := typed_elem h hx
  have e0 : TC.i (nth x 0).int = nth x 0 := typed_int_eq (hk 0 (by decide))
  have e1 : TC.i (nth x 1).int = nth x 1 := typed_int_eq (hk 1 (by decide))
  have e2 : TC.s (nth x 2).str = nth x 2 := typed_str_eq (hk 2 (by decide))
  have e3 : TC.l (nth x 3).list = nth x 3 := typed_list_eq (hk 3 (by decide))
  have e4 : TC.l (nth x 4).list = nth x 4 := typed_list_eq (hk 4 (by decide))
  rw [e0, e1, e2, e3, e4]
  exact row_eta hl
theorem form_93 {A : List (List TC)} (h : Typed tab (.slice 93) (.l A)) {x : List TC} (hx : x ∈ A) : x = [TC.i (nth x 0).int, TC.i (nth x 1).int, TC.b (nth x 2).bool] := by
  obtain ⟨hl, hk⟩ := typed_elem h hx
  have e0 : TC.i (nth x 0).int = nth x 0 := typed_int_eq (hk 0 (by decide))
  have e1 : TC.i (nth x 1).int = nth x 1 := typed_int_eq (hk 1 (by decide))
  have e2 : TC.b (nth x 2).bool = nth x 2 := typed_bool_eq (hk 2 (by decide))
  rw [e0, e1, e2]
  exact row_eta hl
section
class spec_l25Same_O where n : Nat
variable [i_spec_l25Same : spec_l25Same_O]
noncomputable def spec_l25Same_rc (u : List TC) (v : List TC) : Bool := is (rowsDep (nth u 3).list < spec_l25Same_O.n ∧ Typed tab (.slice 31) (.l (nth u 3).list) ∧ Typed tab (.slice 93) (.l (nth u 4).list) ∧ Typed tab (.slice 31) (.l (nth v 3).list) ∧ Typed tab (.slice 93) (.l (nth v 4).list))
noncomputable def spec_l25Same_rv (u : List TC) (v : List TC) : Bool := sameX (nth u 0).int (nth u 1).int (nth u 2).str (nth u 3).list (nth u 4).list (nth v 0).int (nth v 1).int (nth v 2).str (nth v 3).list (nth v 4).list
def spec_l25Same_rmk (p : Bool) : Res := [(false, [⟨.bool, .sh, TC.b p⟩])]
noncomputable def spec_l25Same_rS : List Arg → Option (Bool × Res) := fun xs => match xs with
  | [(false, [(.ptr 31, TC.p u)]), (false, [(.ptr 31, TC.p v)])] => some ((spec_l25Same_rc u v), spec_l25Same_rmk (spec_l25Same_rv u v))
  | _ => .none
noncomputable def D8 : Dt := also D7 39 spec_l25Same_rS
class spec_l25Same_G : Prop where ok : DOk Go.Proofs.Try.prog tab D8
variable [g_spec_l25Same : spec_l25Same_G]
theorem d8 : DOk Go.Proofs.Try.prog tab D8 := spec_l25Same_G.ok
/-! spec_l25Same -/
noncomputable def spec_l25Same_f9 (u : List TC) (v : List TC) (i : Int) : (Unit) ⊕ ((Unit) ⊕ (Unit)) := (bif (!(spec_l25Same_rv (row ((nth u 3).list) i) (row ((nth v 3).list) i))) then (.inr (.inl ())) else (.inl ()))
noncomputable def spec_l25Same_e9 (u : List TC) (v : List TC) : (Unit) ⊕ (Unit) := .inr ()
noncomputable def spec_l25Same_R9 (u : List TC) (v : List TC) (i : Int) : (Unit) ⊕ (Unit) := iter (fun i a => (spec_l25Same_f9 u v (i : Int))) (fun a => (spec_l25Same_e9 u v)) ((nth u 3).list.length) 0 ()
abbrev spec_l25Same_9_σ := List TC × List TC × Int
abbrev spec_l25Same_9_ω := (Unit) ⊕ (Unit)
noncomputable def spec_l25Same_9_step (u : List TC) (v : List TC) (i : Int) : Tr (spec_l25Same_9_σ ⊕ spec_l25Same_9_ω) := (.ite ((decide (i < (((nth u 3).list).length : Int))) = true) (.ite ((0 : Int) ≤ i ∧ i < (((nth u 3).list).length : Int)) (.ite ((0 : Int) ≤ i ∧ i < (((nth v 3).list).length : Int)) (.ite ((spec_l25Same_rc (row ((nth u 3).list) i) (row ((nth v 3).list) i)) = true) (.ite ((!(spec_l25Same_rv (row ((nth u 3).list) i) (row ((nth v 3).list) i))) = true) (.ok (.inr (.inl ())))
      (.ok (.inl (u, v, (IntKind.wrap .i64 (i + (1 : Int)))))))
     .no)
    .no)
   .no)
  (.ok (.inr (.inr ()))))
noncomputable def spec_l25Same_9_st : spec_l25Same_9_σ → Tr (spec_l25Same_9_σ ⊕ spec_l25Same_9_ω) := fun x => (spec_l25Same_9_step (x.1) (x.2.1) (x.2.2))
noncomputable def spec_l25Same_k9_1 (u : List TC) (v : List TC) (i : Int) : Bool := sumIs (spec_l25Same_R9 u v i)
noncomputable def spec_l25Same_o9_2 (u : List TC) (v : List TC) (i : Int) : Bool := is (i = 0 ∧ (nth u 3).list.length = (nth v 3).list.length ∧ (nth u 3).list.length ≤ 140737488355328 ∧ (∀ x y : List TC, x ∈ (nth u 3).list → y ∈ (nth v 3).list → spec_l25Same_rc x y = true))
noncomputable def spec_l25Same_o9_3 (u : List TC) (v : List TC) (i : Int) : Bool := is (i = 0 ∧ (nth u 3).list.length = (nth v 3).list.length ∧ (nth u 3).list.length ≤ 140737488355328 ∧ (∀ x y : List TC, x ∈ (nth u 3).list → y ∈ (nth v 3).list → spec_l25Same_rc x y = true))
noncomputable def spec_l25Same_9_fin (u : List TC) (v : List TC) (i : Int) : Told spec_l25Same_9_ω := (.br (spec_l25Same_k9_1 u v i) (.leaf (spec_l25Same_o9_2 u v i) (.inl ())) (.leaf (spec_l25Same_o9_3 u v i) (.inr ())))
def spec_l25Same_9_sl (x : spec_l25Same_9_σ) : List Slot := [⟨.val false [⟨.ptr 31, .sh, TC.p (x.1)⟩], ⟨0, 0⟩⟩, ⟨.val false [⟨.ptr 31, .sh, TC.p (x.2.1)⟩], ⟨0, 0⟩⟩, ⟨.val false [⟨.int .i64, .sh, TC.i (x.2.2)⟩], ⟨0, 0⟩⟩]
def spec_l25Same_9_out : spec_l25Same_9_ω → Ex × List Slot := (Sum.elim (fun x => (.ret, [⟨.val false [⟨.bool, .sh, TC.b false⟩], ⟨0, 0⟩⟩])) (fun x => (.exit 2, [Slot.none])))
noncomputable def spec_l25Same_lo9 : List Slot → Option (Told (Ex × List Slot)) := fun s => match s with
  | [⟨.val false [⟨.ptr 31, .sh, TC.p u⟩], ⟨0, 0⟩⟩, ⟨.val false [⟨.ptr 31, .sh, TC.p v⟩], ⟨0, 0⟩⟩, ⟨.val false [⟨.int .i64, .sh, TC.i i⟩], ⟨0, 0⟩⟩] => some (((spec_l25Same_9_fin u v i)).map spec_l25Same_9_out)
  | _ => .none
noncomputable def spec_l25Same_f4 (u : List TC) (v : List TC) (i : Int) : (Unit) ⊕ ((List TC × List TC) ⊕ (List TC × List TC)) := (bif (!(((nth (row ((nth u 4).list) i) 0).int == (nth (row ((nth v 4).list) i) 0).int) && (((nth (row ((nth u 4).list) i) 1).int == (nth (row ((nth v 4).list) i) 1).int) && (((nth (row ((nth u 4).list) i) 2).bool == (nth (row ((nth v 4).list) i) 2).bool) && true)))) then (.inr (.inl (u, v))) else (.inl ()))
noncomputable def spec_l25Same_e4 (u : List TC) (v : List TC) : (List TC × List TC) ⊕ (List TC × List TC) := .inr (u, v)
noncomputable def spec_l25Same_R4 (u : List TC) (v : List TC) (i : Int) : (List TC × List TC) ⊕ (List TC × List TC) := iter (fun i a => (spec_l25Same_f4 u v (i : Int))) (fun a => (spec_l25Same_e4 u v)) ((nth u 4).list.length) 0 ()
abbrev spec_l25Same_4_σ := List TC × List TC × Int
abbrev spec_l25Same_4_ω := (List TC × List TC) ⊕ (List TC × List TC)
noncomputable def spec_l25Same_4_step (u : List TC) (v : List TC) (i : Int) : Tr (spec_l25Same_4_σ ⊕ spec_l25Same_4_ω) := (.ite ((decide (i < (((nth u 4).list).length : Int))) = true) (.ite ((0 : Int) ≤ i ∧ i < (((nth u 4).list).length : Int)) (.ite ((0 : Int) ≤ i ∧ i < (((nth v 4).list).length : Int)) (.ite ((!(((nth (row ((nth u 4).list) i) 0).int == (nth (row ((nth v 4).list) i) 0).int) && (((nth (row ((nth u 4).list) i) 1).int == (nth (row ((nth v 4).list) i) 1).int) && (((nth (row ((nth u 4).list) i) 2).bool == (nth (row ((nth v 4).list) i) 2).bool) && true)))) = true) (.ok (.inr (.inl (u, v))))
     (.ok (.inl (u, v, (IntKind.wrap .i64 (i + (1 : Int)))))))
    .no)
   .no)
  (.ok (.inr (.inr (u, v)))))
noncomputable def spec_l25Same_4_st : spec_l25Same_4_σ → Tr (spec_l25Same_4_σ ⊕ spec_l25Same_4_ω) := fun x => (spec_l25Same_4_step (x.1) (x.2.1) (x.2.2))
noncomputable def spec_l25Same_k4_1 (u : List TC) (v : List TC) (i : Int) : Bool := sumIs (spec_l25Same_R4 u v i)
noncomputable def spec_l25Same_o4_2 (u : List TC) (v : List TC) (i : Int) : Bool := is (i = 0 ∧ (nth u 4).list.length = (nth v 4).list.length ∧ (nth u 4).list.length ≤ 140737488355328)
noncomputable def spec_l25Same_o4_3 (u : List TC) (v : List TC) (i : Int) : Bool := is (i = 0 ∧ (nth u 4).list.length = (nth v 4).list.length ∧ (nth u 4).list.length ≤ 140737488355328)
noncomputable def spec_l25Same_4_fin (u : List TC) (v : List TC) (i : Int) : Told spec_l25Same_4_ω := (.br (spec_l25Same_k4_1 u v i) (.leaf (spec_l25Same_o4_2 u v i) (.inl (u, v))) (.leaf (spec_l25Same_o4_3 u v i) (.inr (u, v))))
def spec_l25Same_4_sl (x : spec_l25Same_4_σ) : List Slot := [⟨.val false [⟨.ptr 31, .sh, TC.p (x.1)⟩], ⟨0, 0⟩⟩, ⟨.val false [⟨.ptr 31, .sh, TC.p (x.2.1)⟩], ⟨0, 0⟩⟩, ⟨.val false [⟨.int .i64, .sh, TC.i (x.2.2)⟩], ⟨0, 0⟩⟩]
def spec_l25Same_4_out : spec_l25Same_4_ω → Ex × List Slot := (Sum.elim (fun x => (.ret, [⟨.val false [⟨.ptr 31, .sh, TC.p (x.1)⟩], ⟨0, 0⟩⟩, ⟨.val false [⟨.ptr 31, .sh, TC.p (x.2)⟩], ⟨0, 0⟩⟩, ⟨.val false [⟨.bool, .sh, TC.b false⟩], ⟨0, 0⟩⟩])) (fun x => (.exit 0, [⟨.val false [⟨.ptr 31, .sh, TC.p (x.1)⟩], ⟨0, 0⟩⟩, ⟨.val false [⟨.ptr 31, .sh, TC.p (x.2)⟩], ⟨0, 0⟩⟩, Slot.none])))
noncomputable def spec_l25Same_lo4 : List Slot → Option (Told (Ex × List Slot)) := fun s => match s with
  | [⟨.val false [⟨.ptr 31, .sh, TC.p u⟩], ⟨0, 0⟩⟩, ⟨.val false [⟨.ptr 31, .sh, TC.p v⟩], ⟨0, 0⟩⟩, ⟨.val false [⟨.int .i64, .sh, TC.i i⟩], ⟨0, 0⟩⟩] => some (((spec_l25Same_4_fin u v i)).map spec_l25Same_4_out)
  | _ => .none
noncomputable def spec_l25Same_lo : LoopTeller := fun r s => bif Nat.beq r 4 then spec_l25Same_lo4 s else bif Nat.beq r 9 then spec_l25Same_lo9 s else .none
theorem spec_l25Same_9_r (u : List TC) (v : List TC) (i : Int) (fuel : Nat) : rounds (rnd tab FT D8 live 39 spec_l25Same_lo 1 9) leave (fuel + 1) (spec_l25Same_9_sl (u, v, i)) = ((spec_l25Same_9_step u v i)).run (goOn (fun s => rounds (rnd tab FT D8 live 39 spec_l25Same_lo 1 9) leave fuel (spec_l25Same_9_sl s)) fun w => some (spec_l25Same_9_out w)) := by kernel_rfl
theorem spec_l25Same_f9_eq (u v : List TC) (i : Int) : spec_l25Same_f9 u v i = bif spec_l25Same_rv (row (nth u 3).list i) (row (nth v 3).list i) then Sum.inl () else Sum.inr (Sum.inl ()) := by
  unfold spec_l25Same_f9 
  skip
  generalize spec_l25Same_rv (row (nth u 3).list i) (row (nth v 3).list i) = p0
  cases p0 <;> rfl
theorem spec_l25Same_R9_eq (u v : List TC)  : spec_l25Same_R9 u v 0 = bif allI (fun i : Nat => spec_l25Same_rv (row (nth u 3).list (i : Int)) (row (nth v 3).list (i : Int))) ((nth u 3).list.length) then Sum.inr () else (Sum.inl ()) := by
  unfold spec_l25Same_R9
  exact (iter_all (P := (fun i : Nat => spec_l25Same_rv (row (nth u 3).list (i : Int)) (row (nth v 3).list (i : Int)))) (g := fun _ a => a) (w := Sum.inl ()) fun j a _ => spec_l25Same_f9_eq u v _)
theorem spec_l25Same_9_h (u : List TC) (v : List TC) (i : Int) (ow : spec_l25Same_9_ω) : ((spec_l25Same_9_fin u v i)).val = some ow → ∃ fuel, loopN spec_l25Same_9_st fuel (u, v, i) = some ow := by
  refine auto_const (R := (spec_l25Same_R9 u v i)) rfl (iter_onR (f := (fun i a => (spec_l25Same_f9 u v (i : Int)))) (fin := (fun a => (spec_l25Same_e9 u v))) (Q := endsAs () ()) (fun i a => by unfold spec_l25Same_f9; exact (onR_bif rfl trivial)) (fun _ => rfl) _ _ _) ?_
  intro ho
  have ho : is (i = 0 ∧ (nth u 3).list.length = (nth v 3).list.length ∧ (nth u 3).list.length ≤ 140737488355328 ∧ (∀ x y : List TC, x ∈ (nth u 3).list → y ∈ (nth v 3).list → spec_l25Same_rc x y = true)) = true := ho.elim id id
  obtain ⟨rfl, hl, hm, hr⟩ := is_iff.1 ho
  skip
  refine ⟨((nth u 3).list.length) + 1, ?_⟩
  refine iter_loop (step := spec_l25Same_9_st) ((nth u 3).list.length) (fun i a => (spec_l25Same_f9 u v (i : Int))) (fun a => (spec_l25Same_e9 u v)) (fun i a => (u, v, (i : Int))) (fun _ _ => True) trivial (fun i a hi hI => ⟨?_, fun _ _ => trivial⟩) (fun a hI => ?_)
  · show (spec_l25Same_9_step u v (i : Int)).val = _
    unfold spec_l25Same_9_step spec_l25Same_f9
    skip
    refine Tr.t (by simp; omega) ?_
    exact (Tr.t (by first | omega | (constructor <;> omega) | (exact hr _ _ (mem_getD (by omega)) (mem_getD (by omega)))) (Tr.t (by first | omega | (constructor <;> omega) | (exact hr _ _ (mem_getD (by omega)) (mem_getD (by omega)))) (Tr.t (by first | omega | (constructor <;> omega) | (exact hr _ _ (mem_getD (by omega)) (mem_getD (by omega)))) (Tr.bf rfl (by rw [Tr.val_ok, wrap64 (i := (i : Int) + 1) (by omega) (by omega)]; rfl)))))
  · show (spec_l25Same_9_step u v ((nth u 3).list.length : Int)).val = _
    refine Tr.n (by first | (simp; done) | (simp; omega) | omega) ?_
    rfl
theorem spec_l25Same_is9 : LoopIs tab FT D8 live 39 spec_l25Same_lo 1 9 := by
  refine loop_told (sl := spec_l25Same_9_sl) (step := spec_l25Same_9_st) (out := spec_l25Same_9_out) (lor := spec_l25Same_lo9) (fin := fun x => (spec_l25Same_9_fin (x.1) (x.2.1) (x.2.2))) (fun _ => rfl) ?_ (fun x n => spec_l25Same_9_r x.1 x.2.1 x.2.2 n) (fun x ow => spec_l25Same_9_h x.1 x.2.1 x.2.2 ow)
  intro s t h
  unfold spec_l25Same_lo9 at h
  split at h
  · cases h; exact ⟨(_, _, _), rfl, rfl⟩
  · cases h
theorem spec_l25Same_4_r (u : List TC) (v : List TC) (i : Int) (fuel : Nat) : rounds (rnd tab FT D8 live 39 spec_l25Same_lo 0 4) leave (fuel + 1) (spec_l25Same_4_sl (u, v, i)) = ((spec_l25Same_4_step u v i)).run (goOn (fun s => rounds (rnd tab FT D8 live 39 spec_l25Same_lo 0 4) leave fuel (spec_l25Same_4_sl s)) fun w => some (spec_l25Same_4_out w)) := by kernel_rfl
theorem spec_l25Same_f4_eq (u v : List TC) (i : Int) : spec_l25Same_f4 u v i = bif ((nth (row (nth u 4).list i) 0).int == (nth (row (nth v 4).list i) 0).int) && (((nth (row (nth u 4).list i) 1).int == (nth (row (nth v 4).list i) 1).int) && (((nth (row (nth u 4).list i) 2).bool == (nth (row (nth v 4).list i) 2).bool) && true)) then Sum.inl () else Sum.inr (Sum.inl (u, v)) := by
  unfold spec_l25Same_f4 
  skip
  generalize ((nth (row (nth u 4).list i) 0).int == (nth (row (nth v 4).list i) 0).int) = p0, ((nth (row (nth u 4).list i) 1).int == (nth (row (nth v 4).list i) 1).int) = p1, ((nth (row (nth u 4).list i) 2).bool == (nth (row (nth v 4).list i) 2).bool) = p2
  cases p0 <;> cases p1 <;> cases p2 <;> rfl
theorem spec_l25Same_R4_eq (u v : List TC)  : spec_l25Same_R4 u v 0 = bif allI (fun i : Nat => ((nth (row (nth u 4).list (i : Int)) 0).int == (nth (row (nth v 4).list (i : Int)) 0).int) && (((nth (row (nth u 4).list (i : Int)) 1).int == (nth (row (nth v 4).list (i : Int)) 1).int) && (((nth (row (nth u 4).list (i : Int)) 2).bool == (nth (row (nth v 4).list (i : Int)) 2).bool) && true))) ((nth u 4).list.length) then Sum.inr (u, v) else (Sum.inl (u, v)) := by
  unfold spec_l25Same_R4
  exact (iter_all (P := (fun i : Nat => ((nth (row (nth u 4).list (i : Int)) 0).int == (nth (row (nth v 4).list (i : Int)) 0).int) && (((nth (row (nth u 4).list (i : Int)) 1).int == (nth (row (nth v 4).list (i : Int)) 1).int) && (((nth (row (nth u 4).list (i : Int)) 2).bool == (nth (row (nth v 4).list (i : Int)) 2).bool) && true)))) (g := fun _ a => a) (w := Sum.inl (u, v)) fun j a _ => spec_l25Same_f4_eq u v _)
theorem spec_l25Same_4_h (u : List TC) (v : List TC) (i : Int) (ow : spec_l25Same_4_ω) : ((spec_l25Same_4_fin u v i)).val = some ow → ∃ fuel, loopN spec_l25Same_4_st fuel (u, v, i) = some ow := by
  refine auto_const (R := (spec_l25Same_R4 u v i)) rfl (iter_onR (f := (fun i a => (spec_l25Same_f4 u v (i : Int)))) (fin := (fun a => (spec_l25Same_e4 u v))) (Q := endsAs (u, v) (u, v)) (fun i a => by unfold spec_l25Same_f4; exact (onR_bif rfl trivial)) (fun _ => rfl) _ _ _) ?_
  intro ho
  have ho : is (i = 0 ∧ (nth u 4).list.length = (nth v 4).list.length ∧ (nth u 4).list.length ≤ 140737488355328) = true := ho.elim id id
  obtain ⟨rfl, hl, hm⟩ := is_iff.1 ho
  skip
  refine ⟨((nth u 4).list.length) + 1, ?_⟩
  refine iter_loop (step := spec_l25Same_4_st) ((nth u 4).list.length) (fun i a => (spec_l25Same_f4 u v (i : Int))) (fun a => (spec_l25Same_e4 u v)) (fun i a => (u, v, (i : Int))) (fun _ _ => True) trivial (fun i a hi hI => ⟨?_, fun _ _ => trivial⟩) (fun a hI => ?_)
  · show (spec_l25Same_4_step u v (i : Int)).val = _
    unfold spec_l25Same_4_step spec_l25Same_f4
    skip
    refine Tr.t (by simp; omega) ?_
    exact (Tr.t (by first | omega | (constructor <;> omega)) (Tr.t (by first | omega | (constructor <;> omega)) (Tr.bf rfl (by rw [Tr.val_ok, wrap64 (i := (i : Int) + 1) (by omega) (by omega)]; rfl))))
  · show (spec_l25Same_4_step u v ((nth u 4).list.length : Int)).val = _
    refine Tr.n (by first | (simp; done) | (simp; omega) | omega) ?_
    rfl
theorem spec_l25Same_is4 : LoopIs tab FT D8 live 39 spec_l25Same_lo 0 4 := by
  refine loop_told (sl := spec_l25Same_4_sl) (step := spec_l25Same_4_st) (out := spec_l25Same_4_out) (lor := spec_l25Same_lo4) (fin := fun x => (spec_l25Same_4_fin (x.1) (x.2.1) (x.2.2))) (fun _ => rfl) ?_ (fun x n => spec_l25Same_4_r x.1 x.2.1 x.2.2 n) (fun x ow => spec_l25Same_4_h x.1 x.2.1 x.2.2 ow)
  intro s t h
  unfold spec_l25Same_lo4 at h
  split at h
  · cases h; exact ⟨(_, _, _), rfl, rfl⟩
  · cases h
noncomputable def spec_l25Same_t (u : List TC) (v : List TC) : Tr (Bool) := (.ite ((!((nth u 0).int == (nth v 0).int)) = true) (.ok false)
  (.ite ((!((nth u 1).int == (nth v 1).int)) = true) (.ok false)
   (.ite ((!((nth u 2).str == (nth v 2).str)) = true) (.ok false)
    (.ite ((!((((nth u 3).list).length : Int) == (((nth v 3).list).length : Int))) = true) (.ok false)
     (.ite ((!((((nth u 4).list).length : Int) == (((nth v 4).list).length : Int))) = true) (.ok false)
      (.ite ((spec_l25Same_k4_1 u v (0 : Int)) = true) (.ite ((spec_l25Same_o4_2 u v (0 : Int)) = true) (.ok false)
        .no)
       (.ite ((spec_l25Same_o4_3 u v (0 : Int)) = true) (.ite ((spec_l25Same_k9_1 u v (0 : Int)) = true) (.ite ((spec_l25Same_o9_2 u v (0 : Int)) = true) (.ok false)
          .no)
         (.ite ((spec_l25Same_o9_3 u v (0 : Int)) = true) (.ok true)
          .no))
        .no)))))))
def spec_l25Same_mk (p : Bool) : Res := [(false, [⟨.bool, .sh, TC.b p⟩])]
noncomputable def spec_l25Same_c (u : List TC) (v : List TC) : Bool := (bif (!((nth u 0).int == (nth v 0).int)) then true else (bif (!((nth u 1).int == (nth v 1).int)) then true else (bif (!((nth u 2).str == (nth v 2).str)) then true else (bif (!((((nth u 3).list).length : Int) == (((nth v 3).list).length : Int))) then true else (bif (!((((nth u 4).list).length : Int) == (((nth v 4).list).length : Int))) then true else (bif (spec_l25Same_k4_1 u v (0 : Int)) then ((spec_l25Same_o4_2 u v (0 : Int)) && true) else ((spec_l25Same_o4_3 u v (0 : Int)) && (bif (spec_l25Same_k9_1 u v (0 : Int)) then ((spec_l25Same_o9_2 u v (0 : Int)) && true) else ((spec_l25Same_o9_3 u v (0 : Int)) && true)))))))))
noncomputable def spec_l25Same_v (u : List TC) (v : List TC) : Bool := (bif (!((nth u 0).int == (nth v 0).int)) then false else (bif (!((nth u 1).int == (nth v 1).int)) then false else (bif (!((nth u 2).str == (nth v 2).str)) then false else (bif (!((((nth u 3).list).length : Int) == (((nth v 3).list).length : Int))) then false else (bif (!((((nth u 4).list).length : Int) == (((nth v 4).list).length : Int))) then false else (bif (spec_l25Same_k4_1 u v (0 : Int)) then false else (bif (spec_l25Same_k9_1 u v (0 : Int)) then false else true)))))))
theorem spec_l25Same_l (u : List TC) (v : List TC) : (spec_l25Same_c u v) = true → (spec_l25Same_t u v).val = some (spec_l25Same_v u v) := by
  unfold spec_l25Same_t spec_l25Same_v spec_l25Same_c
  exact fun h => (Tr.ss h (fun h => rfl) (fun h => (Tr.ss h (fun h => rfl) (fun h => (Tr.ss h (fun h => rfl) (fun h => (Tr.ss h (fun h => rfl) (fun h => (Tr.ss h (fun h => rfl) (fun h => (Tr.ss h (fun h => (Tr.gb h fun h => rfl)) (fun h => (Tr.gb h fun h => (Tr.ss h (fun h => (Tr.gb h fun h => rfl)) (fun h => (Tr.gb h fun h => rfl))))))))))))))))
noncomputable def spec_l25Same_S : List Arg → Option (Bool × Res) := fun xs => match xs with
  | [(false, [(.ptr 31, TC.p u)]), (false, [(.ptr 31, TC.p v)])] => some ((spec_l25Same_c u v), spec_l25Same_mk (spec_l25Same_v u v))
  | _ => .none
theorem spec_l25Same_e (u : List TC) (v : List TC) : runF tab FT D8 live 39 spec_l25Same_lo [(false, [(.ptr 31, TC.p u)]), (false, [(.ptr 31, TC.p v)])] = (spec_l25Same_t u v).run fun p => some (spec_l25Same_mk p) := by kernel_rfl
theorem spec_l25Same_s : ∀ xs r, spec_l25Same_S xs = some (true, r) → runF tab FT D8 live 39 spec_l25Same_lo xs = some r := by
  intro xs r h
  unfold spec_l25Same_S at h
  split at h
  · simp only [Option.some.injEq, Prod.mk.injEq] at h
    obtain ⟨h1, rfl⟩ := h
    exact fun_told (spec_l25Same_e _ _) (spec_l25Same_l _ _) h1
  · cases h
theorem spec_l25Same_nx (u : List TC) (v : List TC) : is (rowsDep (nth u 3).list < spec_l25Same_O.n + 1 ∧ Typed tab (.slice 31) (.l (nth u 3).list) ∧ Typed tab (.slice 93) (.l (nth u 4).list) ∧ Typed tab (.slice 31) (.l (nth v 3).list) ∧ Typed tab (.slice 93) (.l (nth v 4).list)) = true → (spec_l25Same_c u v) = true ∧ (spec_l25Same_v u v) = sameX (nth u 0).int (nth u 1).int (nth u 2).str (nth u 3).list (nth u 4).list (nth v 0).int (nth v 1).int (nth v 2).str (nth v 3).list (nth v 4).list := by
  intro h
  obtain ⟨hM, a3, a4, b3, b4⟩ := is_iff.1 h
  have q3 : ∀ x y, x ∈ (nth u 3).list → y ∈ (nth v 3).list → spec_l25Same_rc x y = true := fun x y hx hy => is_true ⟨by have a := dep_cell hx 3; omega, typed_list ((typed_elem a3 hx).2 3 (by decide)), typed_list ((typed_elem a3 hx).2 4 (by decide)), typed_list ((typed_elem b3 hy).2 3 (by decide)), typed_list ((typed_elem b3 hy).2 4 (by decide))⟩
  have v4 : (nth u 4).list.length = (nth v 4).list.length → allI (fun i : Nat => ((nth (row (nth u 4).list (i : Int)) 0).int == (nth (row (nth v 4).list (i : Int)) 0).int) && (((nth (row (nth u 4).list (i : Int)) 1).int == (nth (row (nth v 4).list (i : Int)) 1).int) && (((nth (row (nth u 4).list (i : Int)) 2).bool == (nth (row (nth v 4).list (i : Int)) 2).bool) && true))) (nth u 4).list.length = eqL (nth u 4).list (nth v 4).list := fun hl => (allI_allEq (E := fun x y => ((nth x 0).int == (nth y 0).int) && (((nth x 1).int == (nth y 1).int) && (((nth x 2).bool == (nth y 2).bool) && true))) hl).trans (allEq_eqL (fun x y hx hy => by
    constructor
    · intro h
      have hh : (nth x 0).int = (nth y 0).int ∧ (nth x 1).int = (nth y 1).int ∧ (nth x 2).bool = (nth y 2).bool := by
        have h : (((nth x 0).int == (nth y 0).int) && (((nth x 1).int == (nth y 1).int) && (((nth x 2).bool == (nth y 2).bool) && true))) = true := h
        simpa using h
      obtain ⟨e0, e1, e2⟩ := hh
      have hx' := form_93 a4 hx
      have hy' := form_93 b4 hy
      rw [hx', hy', e0, e1, e2]
    · rintro rfl
      show (((nth x 0).int == (nth x 0).int) && (((nth x 1).int == (nth x 1).int) && (((nth x 2).bool == (nth x 2).bool) && true))) = true
      simp))
  have v3 : (nth u 3).list.length = (nth v 3).list.length → allI (fun i : Nat => spec_l25Same_rv (row (nth u 3).list (i : Int)) (row (nth v 3).list (i : Int))) (nth u 3).list.length = eqL (nth u 3).list (nth v 3).list := fun hl => (allI_allEq (E := fun x y => spec_l25Same_rv x y) hl).trans (allEq_eqL (fun x y hx hy => by
    constructor
    · intro h
      have hh : (nth x 0).int = (nth y 0).int ∧ (nth x 1).int = (nth y 1).int ∧ (nth x 2).str = (nth y 2).str ∧ (nth x 3).list = (nth y 3).list ∧ (nth x 4).list = (nth y 4).list := by
        have h : sameX (nth x 0).int (nth x 1).int (nth x 2).str (nth x 3).list (nth x 4).list (nth y 0).int (nth y 1).int (nth y 2).str (nth y 3).list (nth y 4).list = true := h
        simp only [sameX, Bool.and_eq_true, beq_iff_eq, eqL_iff] at h
        exact ⟨h.1, h.2.1, h.2.2.1, h.2.2.2.2, h.2.2.2.1⟩
      obtain ⟨e0, e1, e2, e3, e4⟩ := hh
      have hx' := form_31 a3 hx
      have hy' := form_31 b3 hy
      rw [hx', hy', e0, e1, e2, e3, e4]
    · rintro rfl
      show sameX (nth x 0).int (nth x 1).int (nth x 2).str (nth x 3).list (nth x 4).list (nth x 0).int (nth x 1).int (nth x 2).str (nth x 3).list (nth x 4).list = true
      simp [sameX, eqL_refl]))
  have w4 : (nth u 4).list.length ≤ 140737488355328 := by have := typed_room a4; simp only [show (tab 93).bytes = 24 from rfl] at this; omega
  have w3 : (nth u 3).list.length ≤ 140737488355328 := by have := typed_room a3; simp only [show (tab 31).bytes = 80 from rfl] at this; omega
  unfold spec_l25Same_c spec_l25Same_v sameX
  have ne3 : ¬(nth u 3).list.length = (nth v 3).list.length → eqL (nth u 3).list (nth v 3).list = false := fun hn => by
    cases he : eqL (nth u 3).list (nth v 3).list with
    | false => rfl
    | true => exact absurd (congrArg List.length (eqL_iff.1 he)) hn
  have ne4 : ¬(nth u 4).list.length = (nth v 4).list.length → eqL (nth u 4).list (nth v 4).list = false := fun hn => by
    cases he : eqL (nth u 4).list (nth v 4).list with
    | false => rfl
    | true => exact absurd (congrArg List.length (eqL_iff.1 he)) hn
  by_cases l3 : (nth u 3).list.length = (nth v 3).list.length
  · by_cases l4 : (nth u 4).list.length = (nth v 4).list.length
    · have o0 : spec_l25Same_o4_2 u v 0 = true ∧ spec_l25Same_o4_3 u v 0 = true := ⟨is_true ⟨rfl, l4, w4⟩, is_true ⟨rfl, l4, w4⟩⟩
      have o1 : spec_l25Same_o9_2 u v 0 = true ∧ spec_l25Same_o9_3 u v 0 = true := ⟨is_true ⟨rfl, l3, w3, q3⟩, is_true ⟨rfl, l3, w3, q3⟩⟩
      rw [show ((((nth u 3).list).length : Int) == (((nth v 3).list).length : Int)) = true from by simp [l3], show ((((nth u 4).list).length : Int) == (((nth v 4).list).length : Int)) = true from by simp [l4]]
      have k0 : spec_l25Same_k4_1 u v 0 = !(eqL (nth u 4).list (nth v 4).list) := by
        unfold spec_l25Same_k4_1
        rw [spec_l25Same_R4_eq, v4 l4]
        cases eqL (nth u 4).list (nth v 4).list <;> rfl
      have k1 : spec_l25Same_k9_1 u v 0 = !(eqL (nth u 3).list (nth v 3).list) := by
        unfold spec_l25Same_k9_1
        rw [spec_l25Same_R9_eq, v3 l3]
        cases eqL (nth u 3).list (nth v 3).list <;> rfl
      simp only [o0.1, o0.2, o1.1, o1.2, k0, k1, bif_nf, bif_tf, bif_ft, Bool.not_true, cond_false, Bool.not_not, Bool.and_true, Bool.true_and, bif_same, and_self]
    · have e4 : ((((nth u 4).list).length : Int) == (((nth v 4).list).length : Int)) = false := by simp; omega
      simp only [e4, ne4 l4, bif_nf, bif_tf, bif_ft, Bool.not_false, cond_true, Bool.false_and, Bool.and_false, bif_same, and_self]
  · have e3 : ((((nth u 3).list).length : Int) == (((nth v 3).list).length : Int)) = false := by simp; omega
    simp only [e3, ne3 l3, bif_nf, bif_tf, bif_ft, Bool.not_false, cond_true, Bool.false_and, Bool.and_false, bif_same, and_self]
theorem spec_l25Same_nxr (u : List TC) (v : List TC) : spec_l25Same_rc (i_spec_l25Same := ⟨spec_l25Same_O.n + 1⟩) u v = true → (spec_l25Same_c u v) = true ∧ (spec_l25Same_v u v) = (spec_l25Same_rv u v) := fun h => spec_l25Same_nx u v h
theorem spec_l25Same_rs : ∀ xs r, spec_l25Same_rS (i_spec_l25Same := ⟨spec_l25Same_O.n + 1⟩) xs = some (true, r) → runF tab FT D8 live 39 spec_l25Same_lo xs = some r := by
  intro xs r h
  unfold spec_l25Same_rS at h
  split at h
  · simp only [Option.some.injEq, Prod.mk.injEq] at h
    obtain ⟨h1, rfl⟩ := h
    have hx := spec_l25Same_nxr _ _ h1
    have ht := fun_told (spec_l25Same_e _ _) (spec_l25Same_l _ _) hx.1
    rw [hx.2] at ht
    exact ht
  · cases h
theorem spec_l25Same_step : spec_l25Same_G (i_spec_l25Same := ⟨spec_l25Same_O.n + 1⟩) := by
  have h := DOk.also2 (S := spec_l25Same_rS (i_spec_l25Same := ⟨spec_l25Same_O.n + 1⟩)) mixed_ok tab_ok names_ok d7 d8 (fnLoops_two (by kernel_rfl) spec_l25Same_is4 spec_l25Same_is9) spec_l25Same_rs
  refine spec_l25Same_G.mk (i_spec_l25Same := ⟨spec_l25Same_O.n + 1⟩) ?_
  exact h
/-! spec_SameExp -/
noncomputable def spec_SameExp_t (k : Int) (n : Int) (tx : List UInt8) (KI : List (List TC)) (RA : List (List TC)) (k2 : Int) (n2 : Int) (tx2 : List UInt8) (KI2 : List (List TC)) (RA2 : List (List TC)) : Tr (Bool) := (.ite ((spec_l25Same_rc [TC.i k, TC.i n, TC.s tx, TC.l KI, TC.l RA] [TC.i k2, TC.i n2, TC.s tx2, TC.l KI2, TC.l RA2]) = true) (.ok (spec_l25Same_rv [TC.i k, TC.i n, TC.s tx, TC.l KI, TC.l RA] [TC.i k2, TC.i n2, TC.s tx2, TC.l KI2, TC.l RA2]))
  .no)
def spec_SameExp_mk (p : Bool) : Res := [(false, [⟨.bool, .sh, TC.b p⟩])]
noncomputable def spec_SameExp_c (k : Int) (n : Int) (tx : List UInt8) (KI : List (List TC)) (RA : List (List TC)) (k2 : Int) (n2 : Int) (tx2 : List UInt8) (KI2 : List (List TC)) (RA2 : List (List TC)) : Bool := ((spec_l25Same_rc [TC.i k, TC.i n, TC.s tx, TC.l KI, TC.l RA] [TC.i k2, TC.i n2, TC.s tx2, TC.l KI2, TC.l RA2]) && true)
noncomputable def spec_SameExp_v (k : Int) (n : Int) (tx : List UInt8) (KI : List (List TC)) (RA : List (List TC)) (k2 : Int) (n2 : Int) (tx2 : List UInt8) (KI2 : List (List TC)) (RA2 : List (List TC)) : Bool := (spec_l25Same_rv [TC.i k, TC.i n, TC.s tx, TC.l KI, TC.l RA] [TC.i k2, TC.i n2, TC.s tx2, TC.l KI2, TC.l RA2])
theorem spec_SameExp_l (k : Int) (n : Int) (tx : List UInt8) (KI : List (List TC)) (RA : List (List TC)) (k2 : Int) (n2 : Int) (tx2 : List UInt8) (KI2 : List (List TC)) (RA2 : List (List TC)) : (spec_SameExp_c k n tx KI RA k2 n2 tx2 KI2 RA2) = true → (spec_SameExp_t k n tx KI RA k2 n2 tx2 KI2 RA2).val = some (spec_SameExp_v k n tx KI RA k2 n2 tx2 KI2 RA2) := by
  unfold spec_SameExp_t spec_SameExp_v spec_SameExp_c
  exact fun h => (Tr.gb h fun h => rfl)
noncomputable def spec_SameExp_S : List Arg → Option (Bool × Res) := fun xs => match xs with
  | [(true, [(.int .i64, TC.i k), (.int .i64, TC.i n), (.str, TC.s tx), (.slice 31, TC.l KI), (.slice 93, TC.l RA)]), (true, [(.int .i64, TC.i k2), (.int .i64, TC.i n2), (.str, TC.s tx2), (.slice 31, TC.l KI2), (.slice 93, TC.l RA2)])] => some ((spec_SameExp_c k n tx KI RA k2 n2 tx2 KI2 RA2), spec_SameExp_mk (spec_SameExp_v k n tx KI RA k2 n2 tx2 KI2 RA2))
  | _ => .none
theorem spec_SameExp_e (k : Int) (n : Int) (tx : List UInt8) (KI : List (List TC)) (RA : List (List TC)) (k2 : Int) (n2 : Int) (tx2 : List UInt8) (KI2 : List (List TC)) (RA2 : List (List TC)) : runF tab FT D8 live 10 noLoops [(true, [(.int .i64, TC.i k), (.int .i64, TC.i n), (.str, TC.s tx), (.slice 31, TC.l KI), (.slice 93, TC.l RA)]), (true, [(.int .i64, TC.i k2), (.int .i64, TC.i n2), (.str, TC.s tx2), (.slice 31, TC.l KI2), (.slice 93, TC.l RA2)])] = (spec_SameExp_t k n tx KI RA k2 n2 tx2 KI2 RA2).run fun p => some (spec_SameExp_mk p) := by kernel_rfl
theorem spec_SameExp_s : ∀ xs r, spec_SameExp_S xs = some (true, r) → runF tab FT D8 live 10 noLoops xs = some r := by
  intro xs r h
  unfold spec_SameExp_S at h
  split at h
  · simp only [Option.some.injEq, Prod.mk.injEq] at h
    obtain ⟨h1, rfl⟩ := h
    exact fun_told (spec_SameExp_e _ _ _ _ _ _ _ _ _ _) (spec_SameExp_l _ _ _ _ _ _ _ _ _ _) h1
  · cases h
noncomputable def D9 : Dt := also D8 10 spec_SameExp_S
theorem d9 : DOk Go.Proofs.Try.prog tab D9 := d8.also mixed_ok tab_ok names_ok noLoops_ok spec_SameExp_s
theorem spec_SameExp_cc {k : Int} {n : Int} {tx : List UInt8} {KI : List (List TC)} {RA : List (List TC)} {k2 : Int} {n2 : Int} {tx2 : List UInt8} {KI2 : List (List TC)} {RA2 : List (List TC)} (h : spec_l25Same_rc [TC.i k, TC.i n, TC.s tx, TC.l KI, TC.l RA] [TC.i k2, TC.i n2, TC.s tx2, TC.l KI2, TC.l RA2] = true) : (spec_SameExp_c k n tx KI RA k2 n2 tx2 KI2 RA2) = true := by
  unfold spec_SameExp_c
  refine andT (by exact h) ?_
  rfl
theorem spec_SameExp_vv (k n : Int) (tx : List UInt8) (KI RA : List (List TC)) (k2 n2 : Int) (tx2 : List UInt8) (KI2 RA2 : List (List TC)) : spec_SameExp_v k n tx KI RA k2 n2 tx2 KI2 RA2 = sameX k n tx KI RA k2 n2 tx2 KI2 RA2 := rfl
theorem neg_same {a : Bool} : ¬(!(a == a)) = true := by cases a <;> decide
/-! slices_Equal_impl_Range_impl_Range -/
def E_93 (x y : List TC) : Bool := (((nth x 0).int == (nth y 0).int) && (((nth x 1).int == (nth y 1).int) && (((nth x 2).bool == (nth y 2).bool) && true)))
abbrev slices_Equal_impl_Range_impl_Range_4_σ := List (List TC) × List (List TC) × Int × Int
abbrev slices_Equal_impl_Range_impl_Range_4_ω := (Unit) ⊕ (Unit)
noncomputable def slices_Equal_impl_Range_impl_Range_4_step (A : List (List TC)) (C : List (List TC)) (m : Int) (i : Int) : Tr (slices_Equal_impl_Range_impl_Range_4_σ ⊕ slices_Equal_impl_Range_impl_Range_4_ω) := (.ite ((decide (i < m)) = true) (.ite ((0 : Int) ≤ i ∧ i < (A.length : Int)) (.ite ((0 : Int) ≤ i ∧ i < (C.length : Int)) (.ite ((!(((nth (row A i) 0).int == (nth (row C i) 0).int) && (((nth (row A i) 1).int == (nth (row C i) 1).int) && (((nth (row A i) 2).bool == (nth (row C i) 2).bool) && true)))) = true) (.ok (.inr (.inl ())))
     (.ok (.inl (A, C, m, (IntKind.wrap .i64 (i + (1 : Int)))))))
    .no)
   .no)
  (.ok (.inr (.inr ()))))
noncomputable def slices_Equal_impl_Range_impl_Range_4_st : slices_Equal_impl_Range_impl_Range_4_σ → Tr (slices_Equal_impl_Range_impl_Range_4_σ ⊕ slices_Equal_impl_Range_impl_Range_4_ω) := fun x => (slices_Equal_impl_Range_impl_Range_4_step (x.1) (x.2.1) (x.2.2.1) (x.2.2.2))
noncomputable def slices_Equal_impl_Range_impl_Range_k4_1 (A : List (List TC)) (C : List (List TC)) (m : Int) (i : Int) : Bool := allEq E_93 A C
noncomputable def slices_Equal_impl_Range_impl_Range_o4_2 (A : List (List TC)) (C : List (List TC)) (m : Int) (i : Int) : Bool := is (A.length = C.length ∧ i = 0 ∧ Typed tab (.slice 93) (.l A) ∧ m = (A.length : Int))
noncomputable def slices_Equal_impl_Range_impl_Range_o4_3 (A : List (List TC)) (C : List (List TC)) (m : Int) (i : Int) : Bool := is (A.length = C.length ∧ i = 0 ∧ Typed tab (.slice 93) (.l A) ∧ m = (A.length : Int))
noncomputable def slices_Equal_impl_Range_impl_Range_4_fin (A : List (List TC)) (C : List (List TC)) (m : Int) (i : Int) : Told slices_Equal_impl_Range_impl_Range_4_ω := (.br (slices_Equal_impl_Range_impl_Range_k4_1 A C m i) (.leaf (slices_Equal_impl_Range_impl_Range_o4_2 A C m i) (.inr ())) (.leaf (slices_Equal_impl_Range_impl_Range_o4_3 A C m i) (.inl ())))
def slices_Equal_impl_Range_impl_Range_4_sl (x : slices_Equal_impl_Range_impl_Range_4_σ) : List Slot := [⟨.val false [⟨.slice 93, .sh, TC.l (x.1)⟩], ⟨0, 0⟩⟩, ⟨.val false [⟨.slice 93, .sh, TC.l (x.2.1)⟩], ⟨0, 0⟩⟩, ⟨.val false [⟨.int .i64, .sh, TC.i (x.2.2.1)⟩], ⟨0, 0⟩⟩, ⟨.val false [⟨.int .i64, .sh, TC.i (x.2.2.2)⟩], ⟨0, 0⟩⟩]
def slices_Equal_impl_Range_impl_Range_4_out : slices_Equal_impl_Range_impl_Range_4_ω → Ex × List Slot := (Sum.elim (fun x => (.ret, [⟨.val false [⟨.bool, .sh, TC.b false⟩], ⟨0, 0⟩⟩])) (fun x => (.exit 0, [Slot.none])))
noncomputable def slices_Equal_impl_Range_impl_Range_lo4 : List Slot → Option (Told (Ex × List Slot)) := fun s => match s with
  | [⟨.val false [⟨.slice 93, .sh, TC.l A⟩], ⟨0, 0⟩⟩, ⟨.val false [⟨.slice 93, .sh, TC.l C⟩], ⟨0, 0⟩⟩, ⟨.val false [⟨.int .i64, .sh, TC.i m⟩], ⟨0, 0⟩⟩, ⟨.val false [⟨.int .i64, .sh, TC.i i⟩], ⟨0, 0⟩⟩] => some (((slices_Equal_impl_Range_impl_Range_4_fin A C m i)).map slices_Equal_impl_Range_impl_Range_4_out)
  | _ => .none
noncomputable def slices_Equal_impl_Range_impl_Range_lo : LoopTeller := fun r s => bif Nat.beq r 4 then slices_Equal_impl_Range_impl_Range_lo4 s else .none
theorem slices_Equal_impl_Range_impl_Range_4_r (A : List (List TC)) (C : List (List TC)) (m : Int) (i : Int) (fuel : Nat) : rounds (rnd tab FT D9 live 42 slices_Equal_impl_Range_impl_Range_lo 0 4) leave (fuel + 1) (slices_Equal_impl_Range_impl_Range_4_sl (A, C, m, i)) = ((slices_Equal_impl_Range_impl_Range_4_step A C m i)).run (goOn (fun s => rounds (rnd tab FT D9 live 42 slices_Equal_impl_Range_impl_Range_lo 0 4) leave fuel (slices_Equal_impl_Range_impl_Range_4_sl s)) fun w => some (slices_Equal_impl_Range_impl_Range_4_out w)) := by kernel_rfl
theorem slices_Equal_impl_Range_impl_Range_4_h (A : List (List TC)) (C : List (List TC)) (m : Int) (i : Int) (ow : slices_Equal_impl_Range_impl_Range_4_ω) : ((slices_Equal_impl_Range_impl_Range_4_fin A C m i)).val = some ow → ∃ fuel, loopN slices_Equal_impl_Range_impl_Range_4_st fuel (A, C, m, i) = some ow := by
  intro h
  have key : A.length = C.length → Typed tab (.slice 93) (.l A) → loopN slices_Equal_impl_Range_impl_Range_4_st (A.length + 1) (A, C, (A.length : Int), 0) = some (if allEq E_93 A C = true then .inr () else .inl ()) := by
    intro hl ht
    have hlen : A.length ≤ 140737488351232 := by have := typed_room ht; simp only [show (tab 93).bytes = 24 from rfl] at this; omega
    refine loopN_allEq A C E_93 (fun i => (A, C, (A.length : Int), (i : Int))) _ _ hl (fun i hi => ?_) ?_ A.length 0 (by omega)
    · show (slices_Equal_impl_Range_impl_Range_4_step A C (A.length : Int) (i : Int)).val = _
      unfold slices_Equal_impl_Range_impl_Range_4_step
      refine Tr.t (by simp; omega) ?_
      refine Tr.t (by constructor <;> omega) ?_
      refine Tr.t (by constructor <;> omega) ?_
      rw [wrap64 (i := (i : Int) + 1) (by omega) (by omega)]
      rw [Tr.val_br]
      show (if (!(E_93 (A.getD i []) (C.getD i []))) = true then _ else _) = _
      cases E_93 (A.getD i []) (C.getD i []) <;> rfl
    · show (slices_Equal_impl_Range_impl_Range_4_step A C (A.length : Int) (A.length : Int)).val = _
      refine Tr.n (by simp) ?_
      rfl
  simp only [slices_Equal_impl_Range_impl_Range_4_fin, Told.val] at h
  cases hk : allEq E_93 A C with
  | true =>
    rw [if_pos (show slices_Equal_impl_Range_impl_Range_k4_1 A C m i = true from hk)] at h
    split at h
    · rename_i ho
      obtain ⟨hl, rfl, ht, rfl⟩ := is_iff.1 ho
      cases h
      refine ⟨_, (key hl ht).trans ?_⟩
      rw [hk]; rfl
    · cases h
  | false =>
    rw [if_neg (show ¬slices_Equal_impl_Range_impl_Range_k4_1 A C m i = true from by rw [show slices_Equal_impl_Range_impl_Range_k4_1 A C m i = allEq E_93 A C from rfl, hk]; simp)] at h
    split at h
    · rename_i ho
      obtain ⟨hl, rfl, ht, rfl⟩ := is_iff.1 ho
      cases h
      refine ⟨_, (key hl ht).trans ?_⟩
      rw [hk]; rfl
    · cases h
theorem slices_Equal_impl_Range_impl_Range_is4 : LoopIs tab FT D9 live 42 slices_Equal_impl_Range_impl_Range_lo 0 4 := by
  refine loop_told (sl := slices_Equal_impl_Range_impl_Range_4_sl) (step := slices_Equal_impl_Range_impl_Range_4_st) (out := slices_Equal_impl_Range_impl_Range_4_out) (lor := slices_Equal_impl_Range_impl_Range_lo4) (fin := fun x => (slices_Equal_impl_Range_impl_Range_4_fin (x.1) (x.2.1) (x.2.2.1) (x.2.2.2))) (fun _ => rfl) ?_ (fun x n => slices_Equal_impl_Range_impl_Range_4_r x.1 x.2.1 x.2.2.1 x.2.2.2 n) (fun x ow => slices_Equal_impl_Range_impl_Range_4_h x.1 x.2.1 x.2.2.1 x.2.2.2 ow)
  intro s t h
  unfold slices_Equal_impl_Range_impl_Range_lo4 at h
  split at h
  · cases h; exact ⟨(_, _, _, _), rfl, rfl⟩
  · cases h
noncomputable def slices_Equal_impl_Range_impl_Range_t (A : List (List TC)) (C : List (List TC)) : Tr (Bool) := (.ite ((!((A.length : Int) == (C.length : Int))) = true) (.ok false)
  (.ite ((slices_Equal_impl_Range_impl_Range_k4_1 A C (A.length : Int) (0 : Int)) = true) (.ite ((slices_Equal_impl_Range_impl_Range_o4_2 A C (A.length : Int) (0 : Int)) = true) (.ok true)
    .no)
   (.ite ((slices_Equal_impl_Range_impl_Range_o4_3 A C (A.length : Int) (0 : Int)) = true) (.ok false)
    .no)))
def slices_Equal_impl_Range_impl_Range_mk (p : Bool) : Res := [(false, [⟨.bool, .sh, TC.b p⟩])]
noncomputable def slices_Equal_impl_Range_impl_Range_c (A : List (List TC)) (C : List (List TC)) : Bool := is (Typed tab (.slice 93) (.l A))
noncomputable def slices_Equal_impl_Range_impl_Range_v (A : List (List TC)) (C : List (List TC)) : Bool := allEq E_93 A C
theorem slices_Equal_impl_Range_impl_Range_l (A : List (List TC)) (C : List (List TC)) : (slices_Equal_impl_Range_impl_Range_c A C) = true → (slices_Equal_impl_Range_impl_Range_t A C).val = some (slices_Equal_impl_Range_impl_Range_v A C) := by
  intro h
  have ht := is_iff.1 h
  unfold slices_Equal_impl_Range_impl_Range_t
  by_cases hl : A.length = C.length
  · refine Tr.n (by simp [hl]) ?_
    cases hk : allEq E_93 A C with
    | true =>
      refine Tr.t (show allEq E_93 A C = true from hk) ?_
      refine Tr.t (is_true ⟨hl, rfl, ht, rfl⟩) ?_
      show _ = some (allEq E_93 A C); rw [hk]; rfl
    | false =>
      refine Tr.n (show ¬allEq E_93 A C = true from by rw [hk]; simp) ?_
      refine Tr.t (is_true ⟨hl, rfl, ht, rfl⟩) ?_
      show _ = some (allEq E_93 A C); rw [hk]; rfl
  · refine Tr.t (by simp; omega) ?_
    show _ = some (allEq E_93 A C)
    rw [allEq_ne hl]
    rfl
noncomputable def slices_Equal_impl_Range_impl_Range_S : List Arg → Option (Bool × Res) := fun xs => match xs with
  | [(false, [(.slice 93, TC.l A)]), (false, [(.slice 93, TC.l C)])] => some ((slices_Equal_impl_Range_impl_Range_c A C), slices_Equal_impl_Range_impl_Range_mk (slices_Equal_impl_Range_impl_Range_v A C))
  | _ => .none
theorem slices_Equal_impl_Range_impl_Range_e (A : List (List TC)) (C : List (List TC)) : runF tab FT D9 live 42 slices_Equal_impl_Range_impl_Range_lo [(false, [(.slice 93, TC.l A)]), (false, [(.slice 93, TC.l C)])] = (slices_Equal_impl_Range_impl_Range_t A C).run fun p => some (slices_Equal_impl_Range_impl_Range_mk p) := by kernel_rfl
theorem slices_Equal_impl_Range_impl_Range_s : ∀ xs r, slices_Equal_impl_Range_impl_Range_S xs = some (true, r) → runF tab FT D9 live 42 slices_Equal_impl_Range_impl_Range_lo xs = some r := by
  intro xs r h
  unfold slices_Equal_impl_Range_impl_Range_S at h
  split at h
  · simp only [Option.some.injEq, Prod.mk.injEq] at h
    obtain ⟨h1, rfl⟩ := h
    exact fun_told (slices_Equal_impl_Range_impl_Range_e _ _) (slices_Equal_impl_Range_impl_Range_l _ _) h1
  · cases h
noncomputable def D10 : Dt := also D9 42 slices_Equal_impl_Range_impl_Range_S
theorem d10 : DOk Go.Proofs.Try.prog tab D10 := d9.also mixed_ok tab_ok names_ok (fnLoops_one (by kernel_rfl) slices_Equal_impl_Range_impl_Range_is4) slices_Equal_impl_Range_impl_Range_s
/-! impl_SameExp calls itself -/


section
class impl_SameExp_O where n : Nat
variable [i_impl_SameExp : impl_SameExp_O]
noncomputable def impl_SameExp_rc (k : Int) (n : Int) (tx : List UInt8) (KI : List (List TC)) (RA : List (List TC)) (k2 : Int) (n2 : Int) (tx2 : List UInt8) (KI2 : List (List TC)) (RA2 : List (List TC)) : Bool := is (rowsDep KI < impl_SameExp_O.n ∧ Typed tab (.slice 31) (.l KI) ∧ Typed tab (.slice 93) (.l RA) ∧ Typed tab (.slice 31) (.l KI2) ∧ Typed tab (.slice 93) (.l RA2))
noncomputable def impl_SameExp_rv (k : Int) (n : Int) (tx : List UInt8) (KI : List (List TC)) (RA : List (List TC)) (k2 : Int) (n2 : Int) (tx2 : List UInt8) (KI2 : List (List TC)) (RA2 : List (List TC)) : Bool := sameX k n tx KI RA k2 n2 tx2 KI2 RA2
def impl_SameExp_rmk (p : Bool) : Res := [(false, [⟨.bool, .sh, TC.b p⟩])]
noncomputable def impl_SameExp_rS : List Arg → Option (Bool × Res) := fun xs => match xs with
  | [(true, [(.int .i64, TC.i k), (.int .i64, TC.i n), (.str, TC.s tx), (.slice 31, TC.l KI), (.slice 93, TC.l RA)]), (true, [(.int .i64, TC.i k2), (.int .i64, TC.i n2), (.str, TC.s tx2), (.slice 31, TC.l KI2), (.slice 93, TC.l RA2)])] => some ((impl_SameExp_rc k n tx KI RA k2 n2 tx2 KI2 RA2), impl_SameExp_rmk (impl_SameExp_rv k n tx KI RA k2 n2 tx2 KI2 RA2))
  | _ => .none
noncomputable def D11 : Dt := also D10 12 impl_SameExp_rS
class impl_SameExp_G : Prop where ok : DOk Go.Proofs.Try.prog tab D11
variable [g_impl_SameExp : impl_SameExp_G]
theorem d11 : DOk Go.Proofs.Try.prog tab D11 := impl_SameExp_G.ok
/-! slices_EqualFunc_impl_Exp_impl_Exp_impl_Exp_impl_Exp -/
noncomputable def slices_EqualFunc_impl_Exp_impl_Exp_impl_Exp_impl_Exp_E (x y : List TC) : Bool := impl_SameExp_rv ((nth x 0).int) ((nth x 1).int) ((nth x 2).str) ((nth x 3).list) ((nth x 4).list) ((nth y 0).int) ((nth y 1).int) ((nth y 2).str) ((nth y 3).list) ((nth y 4).list)
abbrev slices_EqualFunc_impl_Exp_impl_Exp_impl_Exp_impl_Exp_4_σ := List (List TC) × List (List TC) × Int × Int
abbrev slices_EqualFunc_impl_Exp_impl_Exp_impl_Exp_impl_Exp_4_ω := (Unit) ⊕ (Unit)
noncomputable def slices_EqualFunc_impl_Exp_impl_Exp_impl_Exp_impl_Exp_4_step (C : List (List TC)) (A : List (List TC)) (m : Int) (i : Int) : Tr (slices_EqualFunc_impl_Exp_impl_Exp_impl_Exp_impl_Exp_4_σ ⊕ slices_EqualFunc_impl_Exp_impl_Exp_impl_Exp_impl_Exp_4_ω) := (.ite ((decide (i < m)) = true) (.ite ((0 : Int) ≤ i ∧ i < (A.length : Int)) (.ite ((0 : Int) ≤ i ∧ i < (C.length : Int)) (.ite ((impl_SameExp_rc ((nth (row A i) 0).int) ((nth (row A i) 1).int) ((nth (row A i) 2).str) ((nth (row A i) 3).list) ((nth (row A i) 4).list) ((nth (row C i) 0).int) ((nth (row C i) 1).int) ((nth (row C i) 2).str) ((nth (row C i) 3).list) ((nth (row C i) 4).list)) = true) (.ite ((!(impl_SameExp_rv ((nth (row A i) 0).int) ((nth (row A i) 1).int) ((nth (row A i) 2).str) ((nth (row A i) 3).list) ((nth (row A i) 4).list) ((nth (row C i) 0).int) ((nth (row C i) 1).int) ((nth (row C i) 2).str) ((nth (row C i) 3).list) ((nth (row C i) 4).list))) = true) (.ok (.inr (.inl ())))
      (.ok (.inl (C, A, m, (IntKind.wrap .i64 (i + (1 : Int)))))))
     .no)
    .no)
   .no)
  (.ok (.inr (.inr ()))))
noncomputable def slices_EqualFunc_impl_Exp_impl_Exp_impl_Exp_impl_Exp_4_st : slices_EqualFunc_impl_Exp_impl_Exp_impl_Exp_impl_Exp_4_σ → Tr (slices_EqualFunc_impl_Exp_impl_Exp_impl_Exp_impl_Exp_4_σ ⊕ slices_EqualFunc_impl_Exp_impl_Exp_impl_Exp_impl_Exp_4_ω) := fun x => (slices_EqualFunc_impl_Exp_impl_Exp_impl_Exp_impl_Exp_4_step (x.1) (x.2.1) (x.2.2.1) (x.2.2.2))
noncomputable def slices_EqualFunc_impl_Exp_impl_Exp_impl_Exp_impl_Exp_k4_1 (C : List (List TC)) (A : List (List TC)) (m : Int) (i : Int) : Bool := allEq slices_EqualFunc_impl_Exp_impl_Exp_impl_Exp_impl_Exp_E A C
noncomputable def slices_EqualFunc_impl_Exp_impl_Exp_impl_Exp_impl_Exp_o4_2 (C : List (List TC)) (A : List (List TC)) (m : Int) (i : Int) : Bool := is (A.length = C.length ∧ i = 0 ∧ Typed tab (.slice 31) (.l A) ∧ m = (A.length : Int) ∧ (∀ x y : List TC, x ∈ A → y ∈ C → impl_SameExp_rc ((nth x 0).int) ((nth x 1).int) ((nth x 2).str) ((nth x 3).list) ((nth x 4).list) ((nth y 0).int) ((nth y 1).int) ((nth y 2).str) ((nth y 3).list) ((nth y 4).list) = true))
noncomputable def slices_EqualFunc_impl_Exp_impl_Exp_impl_Exp_impl_Exp_o4_3 (C : List (List TC)) (A : List (List TC)) (m : Int) (i : Int) : Bool := is (A.length = C.length ∧ i = 0 ∧ Typed tab (.slice 31) (.l A) ∧ m = (A.length : Int) ∧ (∀ x y : List TC, x ∈ A → y ∈ C → impl_SameExp_rc ((nth x 0).int) ((nth x 1).int) ((nth x 2).str) ((nth x 3).list) ((nth x 4).list) ((nth y 0).int) ((nth y 1).int) ((nth y 2).str) ((nth y 3).list) ((nth y 4).list) = true))
noncomputable def slices_EqualFunc_impl_Exp_impl_Exp_impl_Exp_impl_Exp_4_fin (C : List (List TC)) (A : List (List TC)) (m : Int) (i : Int) : Told slices_EqualFunc_impl_Exp_impl_Exp_impl_Exp_impl_Exp_4_ω := (.br (slices_EqualFunc_impl_Exp_impl_Exp_impl_Exp_impl_Exp_k4_1 C A m i) (.leaf (slices_EqualFunc_impl_Exp_impl_Exp_impl_Exp_impl_Exp_o4_2 C A m i) (.inr ())) (.leaf (slices_EqualFunc_impl_Exp_impl_Exp_impl_Exp_impl_Exp_o4_3 C A m i) (.inl ())))
def slices_EqualFunc_impl_Exp_impl_Exp_impl_Exp_impl_Exp_4_sl (x : slices_EqualFunc_impl_Exp_impl_Exp_impl_Exp_impl_Exp_4_σ) : List Slot := [⟨.val false [⟨.slice 31, .sh, TC.l (x.1)⟩], ⟨0, 0⟩⟩, ⟨.val false [⟨.func, .sh, TC.f 12 []⟩], ⟨0, 0⟩⟩, ⟨.val false [⟨.slice 31, .sh, TC.l (x.2.1)⟩], ⟨0, 0⟩⟩, ⟨.val false [⟨.int .i64, .sh, TC.i (x.2.2.1)⟩], ⟨0, 0⟩⟩, ⟨.val false [⟨.int .i64, .sh, TC.i (x.2.2.2)⟩], ⟨0, 0⟩⟩]
def slices_EqualFunc_impl_Exp_impl_Exp_impl_Exp_impl_Exp_4_out : slices_EqualFunc_impl_Exp_impl_Exp_impl_Exp_impl_Exp_4_ω → Ex × List Slot := (Sum.elim (fun x => (.ret, [⟨.val false [⟨.bool, .sh, TC.b false⟩], ⟨0, 0⟩⟩])) (fun x => (.exit 0, [Slot.none])))
noncomputable def slices_EqualFunc_impl_Exp_impl_Exp_impl_Exp_impl_Exp_lo4 : List Slot → Option (Told (Ex × List Slot)) := fun s => match s with
  | [⟨.val false [⟨.slice 31, .sh, TC.l C⟩], ⟨0, 0⟩⟩, ⟨.val false [⟨.func, .sh, TC.f 12 []⟩], ⟨0, 0⟩⟩, ⟨.val false [⟨.slice 31, .sh, TC.l A⟩], ⟨0, 0⟩⟩, ⟨.val false [⟨.int .i64, .sh, TC.i m⟩], ⟨0, 0⟩⟩, ⟨.val false [⟨.int .i64, .sh, TC.i i⟩], ⟨0, 0⟩⟩] => some (((slices_EqualFunc_impl_Exp_impl_Exp_impl_Exp_impl_Exp_4_fin C A m i)).map slices_EqualFunc_impl_Exp_impl_Exp_impl_Exp_impl_Exp_4_out)
  | _ => .none
noncomputable def slices_EqualFunc_impl_Exp_impl_Exp_impl_Exp_impl_Exp_lo : LoopTeller := fun r s => bif Nat.beq r 4 then slices_EqualFunc_impl_Exp_impl_Exp_impl_Exp_impl_Exp_lo4 s else .none
theorem slices_EqualFunc_impl_Exp_impl_Exp_impl_Exp_impl_Exp_4_r (C : List (List TC)) (A : List (List TC)) (m : Int) (i : Int) (fuel : Nat) : rounds (rnd tab FT D11 live 43 slices_EqualFunc_impl_Exp_impl_Exp_impl_Exp_impl_Exp_lo 0 4) leave (fuel + 1) (slices_EqualFunc_impl_Exp_impl_Exp_impl_Exp_impl_Exp_4_sl (C, A, m, i)) = ((slices_EqualFunc_impl_Exp_impl_Exp_impl_Exp_impl_Exp_4_step C A m i)).run (goOn (fun s => rounds (rnd tab FT D11 live 43 slices_EqualFunc_impl_Exp_impl_Exp_impl_Exp_impl_Exp_lo 0 4) leave fuel (slices_EqualFunc_impl_Exp_impl_Exp_impl_Exp_impl_Exp_4_sl s)) fun w => some (slices_EqualFunc_impl_Exp_impl_Exp_impl_Exp_impl_Exp_4_out w)) := by kernel_rfl
theorem slices_EqualFunc_impl_Exp_impl_Exp_impl_Exp_impl_Exp_4_h (C : List (List TC)) (A : List (List TC)) (m : Int) (i : Int) (ow : slices_EqualFunc_impl_Exp_impl_Exp_impl_Exp_impl_Exp_4_ω) : ((slices_EqualFunc_impl_Exp_impl_Exp_impl_Exp_impl_Exp_4_fin C A m i)).val = some ow → ∃ fuel, loopN slices_EqualFunc_impl_Exp_impl_Exp_impl_Exp_impl_Exp_4_st fuel (C, A, m, i) = some ow := by
  intro h
  have key : A.length = C.length → Typed tab (.slice 31) (.l A) → (∀ x y : List TC, x ∈ A → y ∈ C → impl_SameExp_rc ((nth x 0).int) ((nth x 1).int) ((nth x 2).str) ((nth x 3).list) ((nth x 4).list) ((nth y 0).int) ((nth y 1).int) ((nth y 2).str) ((nth y 3).list) ((nth y 4).list) = true) → loopN slices_EqualFunc_impl_Exp_impl_Exp_impl_Exp_impl_Exp_4_st (A.length + 1) (C, A, (A.length : Int), 0) = some (if allEq slices_EqualFunc_impl_Exp_impl_Exp_impl_Exp_impl_Exp_E A C = true then .inr () else .inl ()) := by
    intro hl ht hr
    have hlen : A.length ≤ 140737488351232 := by have := typed_room ht; simp only [show (tab 31).bytes = 80 from rfl] at this; omega
    refine loopN_allEq A C slices_EqualFunc_impl_Exp_impl_Exp_impl_Exp_impl_Exp_E (fun i => (C, A, (A.length : Int), (i : Int))) _ _ hl (fun i hi => ?_) ?_ A.length 0 (by omega)
    · show (slices_EqualFunc_impl_Exp_impl_Exp_impl_Exp_impl_Exp_4_step C A (A.length : Int) (i : Int)).val = _
      unfold slices_EqualFunc_impl_Exp_impl_Exp_impl_Exp_impl_Exp_4_step
      refine Tr.t (by simp; omega) ?_
      refine Tr.t (by constructor <;> omega) ?_
      refine Tr.t (by constructor <;> omega) ?_
      refine Tr.t (hr _ _ (mem_getD hi) (mem_getD (by omega))) ?_
      rw [wrap64 (i := (i : Int) + 1) (by omega) (by omega)]
      rw [Tr.val_br]
      show (if (!(slices_EqualFunc_impl_Exp_impl_Exp_impl_Exp_impl_Exp_E (A.getD i []) (C.getD i []))) = true then _ else _) = _
      cases slices_EqualFunc_impl_Exp_impl_Exp_impl_Exp_impl_Exp_E (A.getD i []) (C.getD i []) <;> rfl
    · show (slices_EqualFunc_impl_Exp_impl_Exp_impl_Exp_impl_Exp_4_step C A (A.length : Int) (A.length : Int)).val = _
      refine Tr.n (by simp) ?_
      rfl
  simp only [slices_EqualFunc_impl_Exp_impl_Exp_impl_Exp_impl_Exp_4_fin, Told.val] at h
  cases hk : allEq slices_EqualFunc_impl_Exp_impl_Exp_impl_Exp_impl_Exp_E A C with
  | true =>
    rw [if_pos (show slices_EqualFunc_impl_Exp_impl_Exp_impl_Exp_impl_Exp_k4_1 C A m i = true from hk)] at h
    split at h
    · rename_i ho
      obtain ⟨hl, rfl, ht, rfl, hr⟩ := is_iff.1 ho
      cases h
      refine ⟨_, (key hl ht hr).trans ?_⟩
      rw [hk]; rfl
    · cases h
  | false =>
    rw [if_neg (show ¬slices_EqualFunc_impl_Exp_impl_Exp_impl_Exp_impl_Exp_k4_1 C A m i = true from by rw [show slices_EqualFunc_impl_Exp_impl_Exp_impl_Exp_impl_Exp_k4_1 C A m i = allEq slices_EqualFunc_impl_Exp_impl_Exp_impl_Exp_impl_Exp_E A C from rfl, hk]; simp)] at h
    split at h
    · rename_i ho
      obtain ⟨hl, rfl, ht, rfl, hr⟩ := is_iff.1 ho
      cases h
      refine ⟨_, (key hl ht hr).trans ?_⟩
      rw [hk]; rfl
    · cases h
theorem slices_EqualFunc_impl_Exp_impl_Exp_impl_Exp_impl_Exp_is4 : LoopIs tab FT D11 live 43 slices_EqualFunc_impl_Exp_impl_Exp_impl_Exp_impl_Exp_lo 0 4 := by
  refine loop_told (sl := slices_EqualFunc_impl_Exp_impl_Exp_impl_Exp_impl_Exp_4_sl) (step := slices_EqualFunc_impl_Exp_impl_Exp_impl_Exp_impl_Exp_4_st) (out := slices_EqualFunc_impl_Exp_impl_Exp_impl_Exp_impl_Exp_4_out) (lor := slices_EqualFunc_impl_Exp_impl_Exp_impl_Exp_impl_Exp_lo4) (fin := fun x => (slices_EqualFunc_impl_Exp_impl_Exp_impl_Exp_impl_Exp_4_fin (x.1) (x.2.1) (x.2.2.1) (x.2.2.2))) (fun _ => rfl) ?_ (fun x n => slices_EqualFunc_impl_Exp_impl_Exp_impl_Exp_impl_Exp_4_r x.1 x.2.1 x.2.2.1 x.2.2.2 n) (fun x ow => slices_EqualFunc_impl_Exp_impl_Exp_impl_Exp_impl_Exp_4_h x.1 x.2.1 x.2.2.1 x.2.2.2 ow)
  intro s t h
  unfold slices_EqualFunc_impl_Exp_impl_Exp_impl_Exp_impl_Exp_lo4 at h
  split at h
  · cases h; exact ⟨(_, _, _, _), rfl, rfl⟩
  · cases h
noncomputable def slices_EqualFunc_impl_Exp_impl_Exp_impl_Exp_impl_Exp_t (A : List (List TC)) (C : List (List TC)) : Tr (Bool) := (.ite ((!((A.length : Int) == (C.length : Int))) = true) (.ok false)
  (.ite ((slices_EqualFunc_impl_Exp_impl_Exp_impl_Exp_impl_Exp_k4_1 C A (A.length : Int) (0 : Int)) = true) (.ite ((slices_EqualFunc_impl_Exp_impl_Exp_impl_Exp_impl_Exp_o4_2 C A (A.length : Int) (0 : Int)) = true) (.ok true)
    .no)
   (.ite ((slices_EqualFunc_impl_Exp_impl_Exp_impl_Exp_impl_Exp_o4_3 C A (A.length : Int) (0 : Int)) = true) (.ok false)
    .no)))
def slices_EqualFunc_impl_Exp_impl_Exp_impl_Exp_impl_Exp_mk (p : Bool) : Res := [(false, [⟨.bool, .sh, TC.b p⟩])]
noncomputable def slices_EqualFunc_impl_Exp_impl_Exp_impl_Exp_impl_Exp_c (A : List (List TC)) (C : List (List TC)) : Bool := is (Typed tab (.slice 31) (.l A) ∧ (∀ x y : List TC, x ∈ A → y ∈ C → impl_SameExp_rc ((nth x 0).int) ((nth x 1).int) ((nth x 2).str) ((nth x 3).list) ((nth x 4).list) ((nth y 0).int) ((nth y 1).int) ((nth y 2).str) ((nth y 3).list) ((nth y 4).list) = true))
noncomputable def slices_EqualFunc_impl_Exp_impl_Exp_impl_Exp_impl_Exp_v (A : List (List TC)) (C : List (List TC)) : Bool := allEq slices_EqualFunc_impl_Exp_impl_Exp_impl_Exp_impl_Exp_E A C
theorem slices_EqualFunc_impl_Exp_impl_Exp_impl_Exp_impl_Exp_l (A : List (List TC)) (C : List (List TC)) : (slices_EqualFunc_impl_Exp_impl_Exp_impl_Exp_impl_Exp_c A C) = true → (slices_EqualFunc_impl_Exp_impl_Exp_impl_Exp_impl_Exp_t A C).val = some (slices_EqualFunc_impl_Exp_impl_Exp_impl_Exp_impl_Exp_v A C) := by
  intro h
  obtain ⟨ht, hr⟩ := is_iff.1 h
  unfold slices_EqualFunc_impl_Exp_impl_Exp_impl_Exp_impl_Exp_t
  by_cases hl : A.length = C.length
  · refine Tr.n (by simp [hl]) ?_
    cases hk : allEq slices_EqualFunc_impl_Exp_impl_Exp_impl_Exp_impl_Exp_E A C with
    | true =>
      refine Tr.t (show allEq slices_EqualFunc_impl_Exp_impl_Exp_impl_Exp_impl_Exp_E A C = true from hk) ?_
      refine Tr.t (is_true ⟨hl, rfl, ht, rfl, hr⟩) ?_
      show _ = some (allEq slices_EqualFunc_impl_Exp_impl_Exp_impl_Exp_impl_Exp_E A C); rw [hk]; rfl
    | false =>
      refine Tr.n (show ¬allEq slices_EqualFunc_impl_Exp_impl_Exp_impl_Exp_impl_Exp_E A C = true from by rw [hk]; simp) ?_
      refine Tr.t (is_true ⟨hl, rfl, ht, rfl, hr⟩) ?_
      show _ = some (allEq slices_EqualFunc_impl_Exp_impl_Exp_impl_Exp_impl_Exp_E A C); rw [hk]; rfl
  · refine Tr.t (by simp; omega) ?_
    show _ = some (allEq slices_EqualFunc_impl_Exp_impl_Exp_impl_Exp_impl_Exp_E A C)
    rw [allEq_ne hl]; rfl
noncomputable def slices_EqualFunc_impl_Exp_impl_Exp_impl_Exp_impl_Exp_S : List Arg → Option (Bool × Res) := fun xs => match xs with
  | [(false, [(.slice 31, TC.l A)]), (false, [(.slice 31, TC.l C)]), (false, [(.func, TC.f 12 [])])] => some ((slices_EqualFunc_impl_Exp_impl_Exp_impl_Exp_impl_Exp_c A C), slices_EqualFunc_impl_Exp_impl_Exp_impl_Exp_impl_Exp_mk (slices_EqualFunc_impl_Exp_impl_Exp_impl_Exp_impl_Exp_v A C))
  | _ => .none
theorem slices_EqualFunc_impl_Exp_impl_Exp_impl_Exp_impl_Exp_e (A : List (List TC)) (C : List (List TC)) : runF tab FT D11 live 43 slices_EqualFunc_impl_Exp_impl_Exp_impl_Exp_impl_Exp_lo [(false, [(.slice 31, TC.l A)]), (false, [(.slice 31, TC.l C)]), (false, [(.func, TC.f 12 [])])] = (slices_EqualFunc_impl_Exp_impl_Exp_impl_Exp_impl_Exp_t A C).run fun p => some (slices_EqualFunc_impl_Exp_impl_Exp_impl_Exp_impl_Exp_mk p) := by kernel_rfl
theorem slices_EqualFunc_impl_Exp_impl_Exp_impl_Exp_impl_Exp_s : ∀ xs r, slices_EqualFunc_impl_Exp_impl_Exp_impl_Exp_impl_Exp_S xs = some (true, r) → runF tab FT D11 live 43 slices_EqualFunc_impl_Exp_impl_Exp_impl_Exp_impl_Exp_lo xs = some r := by
  intro xs r h
  unfold slices_EqualFunc_impl_Exp_impl_Exp_impl_Exp_impl_Exp_S at h
  split at h
  · simp only [Option.some.injEq, Prod.mk.injEq] at h
    obtain ⟨h1, rfl⟩ := h
    exact fun_told (slices_EqualFunc_impl_Exp_impl_Exp_impl_Exp_impl_Exp_e _ _) (slices_EqualFunc_impl_Exp_impl_Exp_impl_Exp_impl_Exp_l _ _) h1
  · cases h
noncomputable def D12 : Dt := also D11 43 slices_EqualFunc_impl_Exp_impl_Exp_impl_Exp_impl_Exp_S
theorem d12 : DOk Go.Proofs.Try.prog tab D12 := d11.also mixed_ok tab_ok names_ok (fnLoops_one (by kernel_rfl) slices_EqualFunc_impl_Exp_impl_Exp_impl_Exp_impl_Exp_is4) slices_EqualFunc_impl_Exp_impl_Exp_impl_Exp_impl_Exp_s
/-! impl_SameExp -/
noncomputable def impl_SameExp_t (k : Int) (n : Int) (tx : List UInt8) (KI : List (List TC)) (RA : List (List TC)) (k2 : Int) (n2 : Int) (tx2 : List UInt8) (KI2 : List (List TC)) (RA2 : List (List TC)) : Tr (Bool) := (.ite ((k == k2) = true) (.ite ((n == n2) = true) (.ite ((tx == tx2) = true) (.ite ((slices_Equal_impl_Range_impl_Range_c RA RA2) = true) (.ite ((slices_Equal_impl_Range_impl_Range_v RA RA2) = true) (.ite ((slices_EqualFunc_impl_Exp_impl_Exp_impl_Exp_impl_Exp_c KI KI2) = true) (.ok (slices_EqualFunc_impl_Exp_impl_Exp_impl_Exp_impl_Exp_v KI KI2))
       .no)
      (.ok false))
     .no)
    (.ok false))
   (.ok false))
  (.ok false))
def impl_SameExp_mk (p : Bool) : Res := [(false, [⟨.bool, .sh, TC.b p⟩])]
noncomputable def impl_SameExp_c (k : Int) (n : Int) (tx : List UInt8) (KI : List (List TC)) (RA : List (List TC)) (k2 : Int) (n2 : Int) (tx2 : List UInt8) (KI2 : List (List TC)) (RA2 : List (List TC)) : Bool := (bif (k == k2) then (bif (n == n2) then (bif (tx == tx2) then ((slices_Equal_impl_Range_impl_Range_c RA RA2) && (bif (slices_Equal_impl_Range_impl_Range_v RA RA2) then ((slices_EqualFunc_impl_Exp_impl_Exp_impl_Exp_impl_Exp_c KI KI2) && true) else true)) else true) else true) else true)
noncomputable def impl_SameExp_v (k : Int) (n : Int) (tx : List UInt8) (KI : List (List TC)) (RA : List (List TC)) (k2 : Int) (n2 : Int) (tx2 : List UInt8) (KI2 : List (List TC)) (RA2 : List (List TC)) : Bool := (bif (k == k2) then (bif (n == n2) then (bif (tx == tx2) then (bif (slices_Equal_impl_Range_impl_Range_v RA RA2) then (slices_EqualFunc_impl_Exp_impl_Exp_impl_Exp_impl_Exp_v KI KI2) else false) else false) else false) else false)
theorem impl_SameExp_l (k : Int) (n : Int) (tx : List UInt8) (KI : List (List TC)) (RA : List (List TC)) (k2 : Int) (n2 : Int) (tx2 : List UInt8) (KI2 : List (List TC)) (RA2 : List (List TC)) : (impl_SameExp_c k n tx KI RA k2 n2 tx2 KI2 RA2) = true → (impl_SameExp_t k n tx KI RA k2 n2 tx2 KI2 RA2).val = some (impl_SameExp_v k n tx KI RA k2 n2 tx2 KI2 RA2) := by
  unfold impl_SameExp_t impl_SameExp_v impl_SameExp_c
  exact fun h => (Tr.ss h (fun h => (Tr.ss h (fun h => (Tr.ss h (fun h => (Tr.gb h fun h => (Tr.ss h (fun h => (Tr.gb h fun h => rfl)) (fun h => rfl)))) (fun h => rfl))) (fun h => rfl))) (fun h => rfl))
noncomputable def impl_SameExp_S : List Arg → Option (Bool × Res) := fun xs => match xs with
  | [(true, [(.int .i64, TC.i k), (.int .i64, TC.i n), (.str, TC.s tx), (.slice 31, TC.l KI), (.slice 93, TC.l RA)]), (true, [(.int .i64, TC.i k2), (.int .i64, TC.i n2), (.str, TC.s tx2), (.slice 31, TC.l KI2), (.slice 93, TC.l RA2)])] => some ((impl_SameExp_c k n tx KI RA k2 n2 tx2 KI2 RA2), impl_SameExp_mk (impl_SameExp_v k n tx KI RA k2 n2 tx2 KI2 RA2))
  | _ => .none
theorem impl_SameExp_e (k : Int) (n : Int) (tx : List UInt8) (KI : List (List TC)) (RA : List (List TC)) (k2 : Int) (n2 : Int) (tx2 : List UInt8) (KI2 : List (List TC)) (RA2 : List (List TC)) : runF tab FT D12 live 12 noLoops [(true, [(.int .i64, TC.i k), (.int .i64, TC.i n), (.str, TC.s tx), (.slice 31, TC.l KI), (.slice 93, TC.l RA)]), (true, [(.int .i64, TC.i k2), (.int .i64, TC.i n2), (.str, TC.s tx2), (.slice 31, TC.l KI2), (.slice 93, TC.l RA2)])] = (impl_SameExp_t k n tx KI RA k2 n2 tx2 KI2 RA2).run fun p => some (impl_SameExp_mk p) := by kernel_rfl
theorem impl_SameExp_s : ∀ xs r, impl_SameExp_S xs = some (true, r) → runF tab FT D12 live 12 noLoops xs = some r := by
  intro xs r h
  unfold impl_SameExp_S at h
  split at h
  · simp only [Option.some.injEq, Prod.mk.injEq] at h
    obtain ⟨h1, rfl⟩ := h
    exact fun_told (impl_SameExp_e _ _ _ _ _ _ _ _ _ _) (impl_SameExp_l _ _ _ _ _ _ _ _ _ _) h1
  · cases h
theorem impl_SameExp_nx (k : Int) (n : Int) (tx : List UInt8) (KI : List (List TC)) (RA : List (List TC)) (k2 : Int) (n2 : Int) (tx2 : List UInt8) (KI2 : List (List TC)) (RA2 : List (List TC)) : is (rowsDep KI < impl_SameExp_O.n + 1 ∧ Typed tab (.slice 31) (.l KI) ∧ Typed tab (.slice 93) (.l RA) ∧ Typed tab (.slice 31) (.l KI2) ∧ Typed tab (.slice 93) (.l RA2)) = true → (impl_SameExp_c k n tx KI RA k2 n2 tx2 KI2 RA2) = true ∧ (impl_SameExp_v k n tx KI RA k2 n2 tx2 KI2 RA2) = sameX k n tx KI RA k2 n2 tx2 KI2 RA2 := by
  intro h
  obtain ⟨hM, a3, a4, b3, b4⟩ := is_iff.1 h
  have q3 : ∀ x y, x ∈ KI → y ∈ KI2 → impl_SameExp_rc (nth x 0).int (nth x 1).int (nth x 2).str (nth x 3).list (nth x 4).list (nth y 0).int (nth y 1).int (nth y 2).str (nth y 3).list (nth y 4).list = true := fun x y hx hy => is_true ⟨by have a := dep_cell hx 3; omega, typed_list ((typed_elem a3 hx).2 3 (by decide)), typed_list ((typed_elem a3 hx).2 4 (by decide)), typed_list ((typed_elem b3 hy).2 3 (by decide)), typed_list ((typed_elem b3 hy).2 4 (by decide))⟩
  have c4 : slices_Equal_impl_Range_impl_Range_c RA RA2 = true := is_true a4
  have c3 : slices_EqualFunc_impl_Exp_impl_Exp_impl_Exp_impl_Exp_c KI KI2 = true := is_true ⟨a3, q3⟩
  have v4 : slices_Equal_impl_Range_impl_Range_v RA RA2 = eqL RA RA2 := allEq_eqL (E := E_93) (fun x y hx hy => by
    constructor
    · intro h
      have hh : (nth x 0).int = (nth y 0).int ∧ (nth x 1).int = (nth y 1).int ∧ (nth x 2).bool = (nth y 2).bool := by
        simpa [E_93] using h
      obtain ⟨e0, e1, e2⟩ := hh
      have hx' := form_93 a4 hx
      have hy' := form_93 b4 hy
      rw [hx', hy', e0, e1, e2]
    · rintro rfl
      simp [E_93])
  have v3 : slices_EqualFunc_impl_Exp_impl_Exp_impl_Exp_impl_Exp_v KI KI2 = eqL KI KI2 := allEq_eqL (E := slices_EqualFunc_impl_Exp_impl_Exp_impl_Exp_impl_Exp_E) (fun x y hx hy => by
    constructor
    · intro h
      have hh : (nth x 0).int = (nth y 0).int ∧ (nth x 1).int = (nth y 1).int ∧ (nth x 2).str = (nth y 2).str ∧ (nth x 3).list = (nth y 3).list ∧ (nth x 4).list = (nth y 4).list := by
        have h : sameX (nth x 0).int (nth x 1).int (nth x 2).str (nth x 3).list (nth x 4).list (nth y 0).int (nth y 1).int (nth y 2).str (nth y 3).list (nth y 4).list = true := h
        simp only [sameX, Bool.and_eq_true, beq_iff_eq, eqL_iff] at h
        exact ⟨h.1, h.2.1, h.2.2.1, h.2.2.2.2, h.2.2.2.1⟩
      obtain ⟨e0, e1, e2, e3, e4⟩ := hh
      have hx' := form_31 a3 hx
      have hy' := form_31 b3 hy
      rw [hx', hy', e0, e1, e2, e3, e4]
    · rintro rfl
      show sameX (nth x 0).int (nth x 1).int (nth x 2).str (nth x 3).list (nth x 4).list (nth x 0).int (nth x 1).int (nth x 2).str (nth x 3).list (nth x 4).list = true
      simp [sameX, eqL_refl])
  constructor
  · unfold impl_SameExp_c
    simp only [c3, c4, Bool.true_and, Bool.and_true, bif_same]
  · unfold impl_SameExp_v sameX
    rw [v3, v4]
    simp only [bif_ft]
theorem impl_SameExp_nxr (k : Int) (n : Int) (tx : List UInt8) (KI : List (List TC)) (RA : List (List TC)) (k2 : Int) (n2 : Int) (tx2 : List UInt8) (KI2 : List (List TC)) (RA2 : List (List TC)) : impl_SameExp_rc (i_impl_SameExp := ⟨impl_SameExp_O.n + 1⟩) k n tx KI RA k2 n2 tx2 KI2 RA2 = true → (impl_SameExp_c k n tx KI RA k2 n2 tx2 KI2 RA2) = true ∧ (impl_SameExp_v k n tx KI RA k2 n2 tx2 KI2 RA2) = (impl_SameExp_rv k n tx KI RA k2 n2 tx2 KI2 RA2) := fun h => impl_SameExp_nx k n tx KI RA k2 n2 tx2 KI2 RA2 h
theorem impl_SameExp_rs : ∀ xs r, impl_SameExp_rS (i_impl_SameExp := ⟨impl_SameExp_O.n + 1⟩) xs = some (true, r) → runF tab FT D12 live 12 noLoops xs = some r := by
  intro xs r h
  unfold impl_SameExp_rS at h
  split at h
  · simp only [Option.some.injEq, Prod.mk.injEq] at h
    obtain ⟨h1, rfl⟩ := h
    have hx := impl_SameExp_nxr _ _ _ _ _ _ _ _ _ _ h1
    have ht := fun_told (impl_SameExp_e _ _ _ _ _ _ _ _ _ _) (impl_SameExp_l _ _ _ _ _ _ _ _ _ _) hx.1
    rw [hx.2] at ht
    exact ht
  · cases h
theorem impl_SameExp_step : impl_SameExp_G (i_impl_SameExp := ⟨impl_SameExp_O.n + 1⟩) := by
  have h := DOk.also2 (S := impl_SameExp_rS (i_impl_SameExp := ⟨impl_SameExp_O.n + 1⟩)) mixed_ok tab_ok names_ok d10 d12 noLoops_ok impl_SameExp_rs
  refine impl_SameExp_G.mk (i_impl_SameExp := ⟨impl_SameExp_O.n + 1⟩) ?_
  exact h
/-! laws_eqExp calls itself -/
section
class laws_eqExp_O where n : Nat
variable [i_laws_eqExp : laws_eqExp_O]
noncomputable def laws_eqExp_rc (x0 : Int) (x1 : Int) (x2 : List UInt8) (x3 : List (List TC)) (x4 : List (List TC)) (y0 : Int) (y1 : Int) (y2 : List UInt8) (y3 : List (List TC)) (y4 : List (List TC)) : Bool := is (rowsDep x3 < laws_eqExp_O.n ∧ x0 = y0 ∧ x1 = y1 ∧ x2 = y2 ∧ x3 = y3 ∧ x4 = y4 ∧ Typed tab (.slice 31) (.l x3) ∧ Typed tab (.slice 93) (.l x4))
noncomputable def laws_eqExp_rv (x0 : Int) (x1 : Int) (x2 : List UInt8) (x3 : List (List TC)) (x4 : List (List TC)) (y0 : Int) (y1 : Int) (y2 : List UInt8) (y3 : List (List TC)) (y4 : List (List TC)) : Bool := true
def laws_eqExp_rmk (p : Bool) : Res := [(false, [⟨.bool, .sh, TC.b p⟩])]
noncomputable def laws_eqExp_rS : List Arg → Option (Bool × Res) := fun xs => match xs with
  | [(true, [(.int .i64, TC.i x0), (.int .i64, TC.i x1), (.str, TC.s x2), (.slice 31, TC.l x3), (.slice 93, TC.l x4)]), (true, [(.int .i64, TC.i y0), (.int .i64, TC.i y1), (.str, TC.s y2), (.slice 31, TC.l y3), (.slice 93, TC.l y4)])] => some ((laws_eqExp_rc x0 x1 x2 x3 x4 y0 y1 y2 y3 y4), laws_eqExp_rmk (laws_eqExp_rv x0 x1 x2 x3 x4 y0 y1 y2 y3 y4))
  | _ => .none
noncomputable def D13 : Dt := also D12 13 laws_eqExp_rS
class laws_eqExp_G : Prop where ok : DOk Go.Proofs.Try.prog tab D13
variable [g_laws_eqExp : laws_eqExp_G]
theorem d13 : DOk Go.Proofs.Try.prog tab D13 := laws_eqExp_G.ok
/-! laws_eqExpS -/
abbrev laws_eqExpS_4_σ := List (List TC) × List (List TC) × Int
abbrev laws_eqExpS_4_ω := (Unit) ⊕ (Unit)
noncomputable def laws_eqExpS_4_step (A : List (List TC)) (C : List (List TC)) (i : Int) : Tr (laws_eqExpS_4_σ ⊕ laws_eqExpS_4_ω) := (.ite ((decide (i < (A.length : Int))) = true) (.ite ((0 : Int) ≤ i ∧ i < (A.length : Int)) (.ite ((0 : Int) ≤ i ∧ i < (C.length : Int)) (.ite ((laws_eqExp_rc ((nth (row A i) 0).int) ((nth (row A i) 1).int) ((nth (row A i) 2).str) ((nth (row A i) 3).list) ((nth (row A i) 4).list) ((nth (row C i) 0).int) ((nth (row C i) 1).int) ((nth (row C i) 2).str) ((nth (row C i) 3).list) ((nth (row C i) 4).list)) = true) (.ite ((!(laws_eqExp_rv ((nth (row A i) 0).int) ((nth (row A i) 1).int) ((nth (row A i) 2).str) ((nth (row A i) 3).list) ((nth (row A i) 4).list) ((nth (row C i) 0).int) ((nth (row C i) 1).int) ((nth (row C i) 2).str) ((nth (row C i) 3).list) ((nth (row C i) 4).list))) = true) (.ok (.inr (.inl ())))
      (.ok (.inl (A, C, (IntKind.wrap .i64 (i + (1 : Int)))))))
     .no)
    .no)
   .no)
  (.ok (.inr (.inr ()))))
noncomputable def laws_eqExpS_4_st : laws_eqExpS_4_σ → Tr (laws_eqExpS_4_σ ⊕ laws_eqExpS_4_ω) := fun x => (laws_eqExpS_4_step (x.1) (x.2.1) (x.2.2))
noncomputable def laws_eqExpS_o4_1 (A : List (List TC)) (C : List (List TC)) (i : Int) : Bool := is (A = C ∧ Typed tab (.slice 31) (.l A) ∧ (∀ x : List TC, x ∈ A → (laws_eqExp_rc ((nth x 0).int) ((nth x 1).int) ((nth x 2).str) ((nth x 3).list) ((nth x 4).list) ((nth x 0).int) ((nth x 1).int) ((nth x 2).str) ((nth x 3).list) ((nth x 4).list)) = true) ∧ i = 0)
noncomputable def laws_eqExpS_4_fin (A : List (List TC)) (C : List (List TC)) (i : Int) : Told laws_eqExpS_4_ω := (.leaf (laws_eqExpS_o4_1 A C i) (.inr ()))
def laws_eqExpS_4_sl (x : laws_eqExpS_4_σ) : List Slot := [⟨.val false [⟨.slice 31, .sh, TC.l (x.1)⟩], ⟨0, 0⟩⟩, ⟨.val false [⟨.slice 31, .sh, TC.l (x.2.1)⟩], ⟨0, 0⟩⟩, ⟨.val false [⟨.int .i64, .sh, TC.i (x.2.2)⟩], ⟨0, 0⟩⟩]
def laws_eqExpS_4_out : laws_eqExpS_4_ω → Ex × List Slot := (Sum.elim (fun x => (.ret, [⟨.val false [⟨.bool, .sh, TC.b false⟩], ⟨0, 0⟩⟩])) (fun x => (.exit 0, [Slot.none])))
noncomputable def laws_eqExpS_lo4 : List Slot → Option (Told (Ex × List Slot)) := fun s => match s with
  | [⟨.val false [⟨.slice 31, .sh, TC.l A⟩], ⟨0, 0⟩⟩, ⟨.val false [⟨.slice 31, .sh, TC.l C⟩], ⟨0, 0⟩⟩, ⟨.val false [⟨.int .i64, .sh, TC.i i⟩], ⟨0, 0⟩⟩] => some (((laws_eqExpS_4_fin A C i)).map laws_eqExpS_4_out)
  | _ => .none
noncomputable def laws_eqExpS_lo : LoopTeller := fun r s => bif Nat.beq r 4 then laws_eqExpS_lo4 s else .none
theorem laws_eqExpS_4_r (A : List (List TC)) (C : List (List TC)) (i : Int) (fuel : Nat) : rounds (rnd tab FT D13 live 44 laws_eqExpS_lo 0 4) leave (fuel + 1) (laws_eqExpS_4_sl (A, C, i)) = ((laws_eqExpS_4_step A C i)).run (goOn (fun s => rounds (rnd tab FT D13 live 44 laws_eqExpS_lo 0 4) leave fuel (laws_eqExpS_4_sl s)) fun w => some (laws_eqExpS_4_out w)) := by kernel_rfl
theorem laws_eqExpS_4_h (A : List (List TC)) (C : List (List TC)) (i : Int) (ow : laws_eqExpS_4_ω) : ((laws_eqExpS_4_fin A C i)).val = some ow → ∃ fuel, loopN laws_eqExpS_4_st fuel (A, C, i) = some ow := by
  intro h
  refine auto_leaf (R := Sum.inr ()) (fun ho => ?_) h
  obtain ⟨rfl, ht, hr0, rfl⟩ := is_iff.1 ho
  have hlen : A.length ≤ 140737488351232 := by have := typed_room ht; simp only [show (tab 31).bytes = 80 from rfl] at this; omega
  refine ⟨_, loopN_run (N := A.length) (fun i => (A, A, (i : Int))) (fun i hi => ?_) ?_ A.length 0 (by omega)⟩
  · have c2 : Typed tab (.str) (.s (nth (A.getD i []) 2).str) := typed_s (typed_cell ht (A.getD i []) (mem_getD hi) 2 (by decide))
    have c3 : Typed tab (.slice 31) (.l (nth (A.getD i []) 3).list) := typed_list (typed_cell ht (A.getD i []) (mem_getD hi) 3 (by decide))
    have c4 : Typed tab (.slice 93) (.l (nth (A.getD i []) 4).list) := typed_list (typed_cell ht (A.getD i []) (mem_getD hi) 4 (by decide))
    show (laws_eqExpS_4_step A A (i : Int)).val = _
    unfold laws_eqExpS_4_step
    refine Tr.t (by simp; omega) ?_
    refine Tr.t (by first | omega | (constructor <;> omega)) ?_
    refine Tr.t (by first | omega | (constructor <;> omega)) ?_
    refine Tr.t (hr0 (A.getD i []) (mem_getD hi)) ?_
    refine Tr.n (by simp [impl_SameExp_rv, laws_eqExp_rv, laws_szExp_rv, laws_toExp_rv, spec_l25Same_rv]) ?_
    rw [Tr.val_ok, wrap64 (i := (i : Int) + 1) (by omega) (by omega)]; rfl
  · show (laws_eqExpS_4_step A A (A.length : Int)).val = _
    refine Tr.n (by simp) ?_
    rfl
theorem laws_eqExpS_is4 : LoopIs tab FT D13 live 44 laws_eqExpS_lo 0 4 := by
  refine loop_told (sl := laws_eqExpS_4_sl) (step := laws_eqExpS_4_st) (out := laws_eqExpS_4_out) (lor := laws_eqExpS_lo4) (fin := fun x => (laws_eqExpS_4_fin (x.1) (x.2.1) (x.2.2))) (fun _ => rfl) ?_ (fun x n => laws_eqExpS_4_r x.1 x.2.1 x.2.2 n) (fun x ow => laws_eqExpS_4_h x.1 x.2.1 x.2.2 ow)
  intro s t h
  unfold laws_eqExpS_lo4 at h
  split at h
  · cases h; exact ⟨(_, _, _), rfl, rfl⟩
  · cases h
noncomputable def laws_eqExpS_t (A : List (List TC)) (C : List (List TC)) : Tr (Bool) := (.ite ((!((A.length : Int) == (C.length : Int))) = true) (.ok false)
  (.ite ((laws_eqExpS_o4_1 A C (0 : Int)) = true) (.ok true)
   .no))
def laws_eqExpS_mk (p : Bool) : Res := [(false, [⟨.bool, .sh, TC.b p⟩])]
noncomputable def laws_eqExpS_c (A : List (List TC)) (C : List (List TC)) : Bool := is (A = C ∧ Typed tab (.slice 31) (.l A) ∧ (∀ x : List TC, x ∈ A → (laws_eqExp_rc ((nth x 0).int) ((nth x 1).int) ((nth x 2).str) ((nth x 3).list) ((nth x 4).list) ((nth x 0).int) ((nth x 1).int) ((nth x 2).str) ((nth x 3).list) ((nth x 4).list)) = true))
noncomputable def laws_eqExpS_v (A : List (List TC)) (C : List (List TC)) : Bool := true
theorem laws_eqExpS_l (A : List (List TC)) (C : List (List TC)) : (laws_eqExpS_c A C) = true → (laws_eqExpS_t A C).val = some (laws_eqExpS_v A C) := by
  intro h
  obtain ⟨rfl, ht, hr0⟩ := is_iff.1 h
  unfold laws_eqExpS_t
  refine Tr.n (by simp) ?_
  refine Tr.t (is_true ⟨rfl, ht, hr0, rfl⟩) ?_
  rfl
noncomputable def laws_eqExpS_S : List Arg → Option (Bool × Res) := fun xs => match xs with
  | [(false, [(.slice 31, TC.l A)]), (false, [(.slice 31, TC.l C)])] => some ((laws_eqExpS_c A C), laws_eqExpS_mk (laws_eqExpS_v A C))
  | _ => .none
theorem laws_eqExpS_e (A : List (List TC)) (C : List (List TC)) : runF tab FT D13 live 44 laws_eqExpS_lo [(false, [(.slice 31, TC.l A)]), (false, [(.slice 31, TC.l C)])] = (laws_eqExpS_t A C).run fun p => some (laws_eqExpS_mk p) := by kernel_rfl
theorem laws_eqExpS_s : ∀ xs r, laws_eqExpS_S xs = some (true, r) → runF tab FT D13 live 44 laws_eqExpS_lo xs = some r := by
  intro xs r h
  unfold laws_eqExpS_S at h
  split at h
  · simp only [Option.some.injEq, Prod.mk.injEq] at h
    obtain ⟨h1, rfl⟩ := h
    exact fun_told (laws_eqExpS_e _ _) (laws_eqExpS_l _ _) h1
  · cases h
noncomputable def D14 : Dt := also D13 44 laws_eqExpS_S
theorem d14 : DOk Go.Proofs.Try.prog tab D14 := d13.also mixed_ok tab_ok names_ok (fnLoops_one (by kernel_rfl) laws_eqExpS_is4) laws_eqExpS_s
/-! laws_eqRange -/
noncomputable def laws_eqRange_t (x0 : Int) (x1 : Int) (x2 : Bool) (y0 : Int) (y1 : Int) (y2 : Bool) : Tr (Bool) := (.ite ((!(x0 == y0)) = true) (.ok false)
  (.ite ((!(x1 == y1)) = true) (.ok false)
   (.ite ((!(x2 == y2)) = true) (.ok false)
    (.ok true))))
def laws_eqRange_mk (p : Bool) : Res := [(false, [⟨.bool, .sh, TC.b p⟩])]
noncomputable def laws_eqRange_c (x0 : Int) (x1 : Int) (x2 : Bool) (y0 : Int) (y1 : Int) (y2 : Bool) : Bool := is (x0 = y0 ∧ x1 = y1 ∧ x2 = y2)
noncomputable def laws_eqRange_v (x0 : Int) (x1 : Int) (x2 : Bool) (y0 : Int) (y1 : Int) (y2 : Bool) : Bool := true
theorem laws_eqRange_l (x0 : Int) (x1 : Int) (x2 : Bool) (y0 : Int) (y1 : Int) (y2 : Bool) : (laws_eqRange_c x0 x1 x2 y0 y1 y2) = true → (laws_eqRange_t x0 x1 x2 y0 y1 y2).val = some (laws_eqRange_v x0 x1 x2 y0 y1 y2) := by
  intro h
  obtain ⟨rfl, rfl, rfl⟩ := is_iff.1 h
  unfold laws_eqRange_t
  refine Tr.n (by simp) ?_
  refine Tr.n (by simp) ?_
  refine Tr.n (by simp) ?_
  rfl
noncomputable def laws_eqRange_S : List Arg → Option (Bool × Res) := fun xs => match xs with
  | [(true, [(.int .i64, TC.i x0), (.int .i64, TC.i x1), (.bool, TC.b x2)]), (true, [(.int .i64, TC.i y0), (.int .i64, TC.i y1), (.bool, TC.b y2)])] => some ((laws_eqRange_c x0 x1 x2 y0 y1 y2), laws_eqRange_mk (laws_eqRange_v x0 x1 x2 y0 y1 y2))
  | _ => .none
theorem laws_eqRange_e (x0 : Int) (x1 : Int) (x2 : Bool) (y0 : Int) (y1 : Int) (y2 : Bool) : runF tab FT D14 live 88 noLoops [(true, [(.int .i64, TC.i x0), (.int .i64, TC.i x1), (.bool, TC.b x2)]), (true, [(.int .i64, TC.i y0), (.int .i64, TC.i y1), (.bool, TC.b y2)])] = (laws_eqRange_t x0 x1 x2 y0 y1 y2).run fun p => some (laws_eqRange_mk p) := by kernel_rfl
theorem laws_eqRange_s : ∀ xs r, laws_eqRange_S xs = some (true, r) → runF tab FT D14 live 88 noLoops xs = some r := by
  intro xs r h
  unfold laws_eqRange_S at h
  split at h
  · simp only [Option.some.injEq, Prod.mk.injEq] at h
    obtain ⟨h1, rfl⟩ := h
    exact fun_told (laws_eqRange_e _ _ _ _ _ _) (laws_eqRange_l _ _ _ _ _ _) h1
  · cases h
noncomputable def D15 : Dt := also D14 88 laws_eqRange_S
theorem d15 : DOk Go.Proofs.Try.prog tab D15 := d14.also mixed_ok tab_ok names_ok noLoops_ok laws_eqRange_s
/-! laws_eqRangeS -/
abbrev laws_eqRangeS_4_σ := List (List TC) × List (List TC) × Int
abbrev laws_eqRangeS_4_ω := (Unit) ⊕ (Unit)
noncomputable def laws_eqRangeS_4_step (A : List (List TC)) (C : List (List TC)) (i : Int) : Tr (laws_eqRangeS_4_σ ⊕ laws_eqRangeS_4_ω) := (.ite ((decide (i < (A.length : Int))) = true) (.ite ((0 : Int) ≤ i ∧ i < (A.length : Int)) (.ite ((0 : Int) ≤ i ∧ i < (C.length : Int)) (.ite ((laws_eqRange_c ((nth (row A i) 0).int) ((nth (row A i) 1).int) ((nth (row A i) 2).bool) ((nth (row C i) 0).int) ((nth (row C i) 1).int) ((nth (row C i) 2).bool)) = true) (.ite ((!(laws_eqRange_v ((nth (row A i) 0).int) ((nth (row A i) 1).int) ((nth (row A i) 2).bool) ((nth (row C i) 0).int) ((nth (row C i) 1).int) ((nth (row C i) 2).bool))) = true) (.ok (.inr (.inl ())))
      (.ok (.inl (A, C, (IntKind.wrap .i64 (i + (1 : Int)))))))
     .no)
    .no)
   .no)
  (.ok (.inr (.inr ()))))
noncomputable def laws_eqRangeS_4_st : laws_eqRangeS_4_σ → Tr (laws_eqRangeS_4_σ ⊕ laws_eqRangeS_4_ω) := fun x => (laws_eqRangeS_4_step (x.1) (x.2.1) (x.2.2))
noncomputable def laws_eqRangeS_o4_1 (A : List (List TC)) (C : List (List TC)) (i : Int) : Bool := is (A = C ∧ Typed tab (.slice 93) (.l A) ∧ i = 0)
noncomputable def laws_eqRangeS_4_fin (A : List (List TC)) (C : List (List TC)) (i : Int) : Told laws_eqRangeS_4_ω := (.leaf (laws_eqRangeS_o4_1 A C i) (.inr ()))
def laws_eqRangeS_4_sl (x : laws_eqRangeS_4_σ) : List Slot := [⟨.val false [⟨.slice 93, .sh, TC.l (x.1)⟩], ⟨0, 0⟩⟩, ⟨.val false [⟨.slice 93, .sh, TC.l (x.2.1)⟩], ⟨0, 0⟩⟩, ⟨.val false [⟨.int .i64, .sh, TC.i (x.2.2)⟩], ⟨0, 0⟩⟩]
def laws_eqRangeS_4_out : laws_eqRangeS_4_ω → Ex × List Slot := (Sum.elim (fun x => (.ret, [⟨.val false [⟨.bool, .sh, TC.b false⟩], ⟨0, 0⟩⟩])) (fun x => (.exit 0, [Slot.none])))
noncomputable def laws_eqRangeS_lo4 : List Slot → Option (Told (Ex × List Slot)) := fun s => match s with
  | [⟨.val false [⟨.slice 93, .sh, TC.l A⟩], ⟨0, 0⟩⟩, ⟨.val false [⟨.slice 93, .sh, TC.l C⟩], ⟨0, 0⟩⟩, ⟨.val false [⟨.int .i64, .sh, TC.i i⟩], ⟨0, 0⟩⟩] => some (((laws_eqRangeS_4_fin A C i)).map laws_eqRangeS_4_out)
  | _ => .none
noncomputable def laws_eqRangeS_lo : LoopTeller := fun r s => bif Nat.beq r 4 then laws_eqRangeS_lo4 s else .none
theorem laws_eqRangeS_4_r (A : List (List TC)) (C : List (List TC)) (i : Int) (fuel : Nat) : rounds (rnd tab FT D15 live 45 laws_eqRangeS_lo 0 4) leave (fuel + 1) (laws_eqRangeS_4_sl (A, C, i)) = ((laws_eqRangeS_4_step A C i)).run (goOn (fun s => rounds (rnd tab FT D15 live 45 laws_eqRangeS_lo 0 4) leave fuel (laws_eqRangeS_4_sl s)) fun w => some (laws_eqRangeS_4_out w)) := by kernel_rfl
theorem laws_eqRangeS_4_h (A : List (List TC)) (C : List (List TC)) (i : Int) (ow : laws_eqRangeS_4_ω) : ((laws_eqRangeS_4_fin A C i)).val = some ow → ∃ fuel, loopN laws_eqRangeS_4_st fuel (A, C, i) = some ow := by
  intro h
  refine auto_leaf (R := Sum.inr ()) (fun ho => ?_) h
  obtain ⟨rfl, ht, rfl⟩ := is_iff.1 ho
  have hlen : A.length ≤ 140737488351232 := by have := typed_room ht; simp only [show (tab 93).bytes = 24 from rfl] at this; omega
  refine ⟨_, loopN_run (N := A.length) (fun i => (A, A, (i : Int))) (fun i hi => ?_) ?_ A.length 0 (by omega)⟩
  · skip
    show (laws_eqRangeS_4_step A A (i : Int)).val = _
    unfold laws_eqRangeS_4_step
    refine Tr.t (by simp; omega) ?_
    refine Tr.t (by first | omega | (constructor <;> omega)) ?_
    refine Tr.t (by first | omega | (constructor <;> omega)) ?_
    refine Tr.t (by first | (apply is_true; and_intros <;> (first | rfl | assumption | (apply laws_szExpS_cc <;> assumption) | (apply spec_SameExp_cc <;> assumption) | (first | (apply is_true; and_intros <;> (first | rfl | assumption | (apply laws_szExpS_cc <;> assumption) | (apply spec_SameExp_cc <;> assumption) | (first | (apply is_true; and_intros <;> (first | rfl | assumption | (apply laws_szExpS_cc <;> assumption) | (apply spec_SameExp_cc <;> assumption) | (first | (apply is_true; and_intros <;> (first | rfl | assumption | (apply laws_szExpS_cc <;> assumption) | (apply spec_SameExp_cc <;> assumption))) | (apply laws_szExpS_cc <;> assumption) | (apply spec_SameExp_cc <;> assumption)))) | (apply laws_szExpS_cc <;> assumption) | (apply spec_SameExp_cc <;> assumption)))) | (apply laws_szExpS_cc <;> assumption) | (apply spec_SameExp_cc <;> assumption)))) | (apply laws_szExpS_cc <;> assumption) | (apply spec_SameExp_cc <;> assumption)) ?_
    refine Tr.n (by simp [impl_SameExp_rv, laws_eqExp_rv, laws_eqRange_v, laws_szExp_rv, laws_toExp_rv, spec_l25Same_rv]) ?_
    rw [Tr.val_ok, wrap64 (i := (i : Int) + 1) (by omega) (by omega)]; rfl
  · show (laws_eqRangeS_4_step A A (A.length : Int)).val = _
    refine Tr.n (by simp) ?_
    rfl
theorem laws_eqRangeS_is4 : LoopIs tab FT D15 live 45 laws_eqRangeS_lo 0 4 := by
  refine loop_told (sl := laws_eqRangeS_4_sl) (step := laws_eqRangeS_4_st) (out := laws_eqRangeS_4_out) (lor := laws_eqRangeS_lo4) (fin := fun x => (laws_eqRangeS_4_fin (x.1) (x.2.1) (x.2.2))) (fun _ => rfl) ?_ (fun x n => laws_eqRangeS_4_r x.1 x.2.1 x.2.2 n) (fun x ow => laws_eqRangeS_4_h x.1 x.2.1 x.2.2 ow)
  intro s t h
  unfold laws_eqRangeS_lo4 at h
  split at h
  · cases h; exact ⟨(_, _, _), rfl, rfl⟩
  · cases h
noncomputable def laws_eqRangeS_t (A : List (List TC)) (C : List (List TC)) : Tr (Bool) := (.ite ((!((A.length : Int) == (C.length : Int))) = true) (.ok false)
  (.ite ((laws_eqRangeS_o4_1 A C (0 : Int)) = true) (.ok true)
   .no))
def laws_eqRangeS_mk (p : Bool) : Res := [(false, [⟨.bool, .sh, TC.b p⟩])]
noncomputable def laws_eqRangeS_c (A : List (List TC)) (C : List (List TC)) : Bool := is (A = C ∧ Typed tab (.slice 93) (.l A))
noncomputable def laws_eqRangeS_v (A : List (List TC)) (C : List (List TC)) : Bool := true
theorem laws_eqRangeS_l (A : List (List TC)) (C : List (List TC)) : (laws_eqRangeS_c A C) = true → (laws_eqRangeS_t A C).val = some (laws_eqRangeS_v A C) := by
  intro h
  obtain ⟨rfl, ht⟩ := is_iff.1 h
  unfold laws_eqRangeS_t
  refine Tr.n (by simp) ?_
  refine Tr.t (is_true ⟨rfl, ht, rfl⟩) ?_
  rfl
noncomputable def laws_eqRangeS_S : List Arg → Option (Bool × Res) := fun xs => match xs with
  | [(false, [(.slice 93, TC.l A)]), (false, [(.slice 93, TC.l C)])] => some ((laws_eqRangeS_c A C), laws_eqRangeS_mk (laws_eqRangeS_v A C))
  | _ => .none
theorem laws_eqRangeS_e (A : List (List TC)) (C : List (List TC)) : runF tab FT D15 live 45 laws_eqRangeS_lo [(false, [(.slice 93, TC.l A)]), (false, [(.slice 93, TC.l C)])] = (laws_eqRangeS_t A C).run fun p => some (laws_eqRangeS_mk p) := by kernel_rfl
theorem laws_eqRangeS_s : ∀ xs r, laws_eqRangeS_S xs = some (true, r) → runF tab FT D15 live 45 laws_eqRangeS_lo xs = some r := by
  intro xs r h
  unfold laws_eqRangeS_S at h
  split at h
  · simp only [Option.some.injEq, Prod.mk.injEq] at h
    obtain ⟨h1, rfl⟩ := h
    exact fun_told (laws_eqRangeS_e _ _) (laws_eqRangeS_l _ _) h1
  · cases h
noncomputable def D16 : Dt := also D15 45 laws_eqRangeS_S
theorem d16 : DOk Go.Proofs.Try.prog tab D16 := d15.also mixed_ok tab_ok names_ok (fnLoops_one (by kernel_rfl) laws_eqRangeS_is4) laws_eqRangeS_s
/-! laws_eqExp -/
noncomputable def laws_eqExp_t (x0 : Int) (x1 : Int) (x2 : List UInt8) (x3 : List (List TC)) (x4 : List (List TC)) (y0 : Int) (y1 : Int) (y2 : List UInt8) (y3 : List (List TC)) (y4 : List (List TC)) : Tr (Bool) := (.ite ((!(x0 == y0)) = true) (.ok false)
  (.ite ((!(x1 == y1)) = true) (.ok false)
   (.ite ((!(x2 == y2)) = true) (.ok false)
    (.ite ((laws_eqExpS_c x3 y3) = true) (.ite ((!(laws_eqExpS_v x3 y3)) = true) (.ok false)
      (.ite ((laws_eqRangeS_c x4 y4) = true) (.ite ((!(laws_eqRangeS_v x4 y4)) = true) (.ok false)
        (.ok true))
       .no))
     .no))))
def laws_eqExp_mk (p : Bool) : Res := [(false, [⟨.bool, .sh, TC.b p⟩])]
noncomputable def laws_eqExp_c (x0 : Int) (x1 : Int) (x2 : List UInt8) (x3 : List (List TC)) (x4 : List (List TC)) (y0 : Int) (y1 : Int) (y2 : List UInt8) (y3 : List (List TC)) (y4 : List (List TC)) : Bool := (bif (!(x0 == y0)) then true else (bif (!(x1 == y1)) then true else (bif (!(x2 == y2)) then true else ((laws_eqExpS_c x3 y3) && (bif (!(laws_eqExpS_v x3 y3)) then true else ((laws_eqRangeS_c x4 y4) && (bif (!(laws_eqRangeS_v x4 y4)) then true else true)))))))
noncomputable def laws_eqExp_v (x0 : Int) (x1 : Int) (x2 : List UInt8) (x3 : List (List TC)) (x4 : List (List TC)) (y0 : Int) (y1 : Int) (y2 : List UInt8) (y3 : List (List TC)) (y4 : List (List TC)) : Bool := (bif (!(x0 == y0)) then false else (bif (!(x1 == y1)) then false else (bif (!(x2 == y2)) then false else (bif (!(laws_eqExpS_v x3 y3)) then false else (bif (!(laws_eqRangeS_v x4 y4)) then false else true)))))
theorem laws_eqExp_l (x0 : Int) (x1 : Int) (x2 : List UInt8) (x3 : List (List TC)) (x4 : List (List TC)) (y0 : Int) (y1 : Int) (y2 : List UInt8) (y3 : List (List TC)) (y4 : List (List TC)) : (laws_eqExp_c x0 x1 x2 x3 x4 y0 y1 y2 y3 y4) = true → (laws_eqExp_t x0 x1 x2 x3 x4 y0 y1 y2 y3 y4).val = some (laws_eqExp_v x0 x1 x2 x3 x4 y0 y1 y2 y3 y4) := by
  unfold laws_eqExp_t laws_eqExp_v laws_eqExp_c
  exact fun h => (Tr.ss h (fun h => rfl) (fun h => (Tr.ss h (fun h => rfl) (fun h => (Tr.ss h (fun h => rfl) (fun h => (Tr.gb h fun h => (Tr.ss h (fun h => rfl) (fun h => (Tr.gb h fun h => (Tr.ss h (fun h => rfl) (fun h => rfl))))))))))))
noncomputable def laws_eqExp_S : List Arg → Option (Bool × Res) := fun xs => match xs with
  | [(true, [(.int .i64, TC.i x0), (.int .i64, TC.i x1), (.str, TC.s x2), (.slice 31, TC.l x3), (.slice 93, TC.l x4)]), (true, [(.int .i64, TC.i y0), (.int .i64, TC.i y1), (.str, TC.s y2), (.slice 31, TC.l y3), (.slice 93, TC.l y4)])] => some ((laws_eqExp_c x0 x1 x2 x3 x4 y0 y1 y2 y3 y4), laws_eqExp_mk (laws_eqExp_v x0 x1 x2 x3 x4 y0 y1 y2 y3 y4))
  | _ => .none
theorem laws_eqExp_e (x0 : Int) (x1 : Int) (x2 : List UInt8) (x3 : List (List TC)) (x4 : List (List TC)) (y0 : Int) (y1 : Int) (y2 : List UInt8) (y3 : List (List TC)) (y4 : List (List TC)) : runF tab FT D16 live 13 noLoops [(true, [(.int .i64, TC.i x0), (.int .i64, TC.i x1), (.str, TC.s x2), (.slice 31, TC.l x3), (.slice 93, TC.l x4)]), (true, [(.int .i64, TC.i y0), (.int .i64, TC.i y1), (.str, TC.s y2), (.slice 31, TC.l y3), (.slice 93, TC.l y4)])] = (laws_eqExp_t x0 x1 x2 x3 x4 y0 y1 y2 y3 y4).run fun p => some (laws_eqExp_mk p) := by kernel_rfl
theorem laws_eqExp_s : ∀ xs r, laws_eqExp_S xs = some (true, r) → runF tab FT D16 live 13 noLoops xs = some r := by
  intro xs r h
  unfold laws_eqExp_S at h
  split at h
  · simp only [Option.some.injEq, Prod.mk.injEq] at h
    obtain ⟨h1, rfl⟩ := h
    exact fun_told (laws_eqExp_e _ _ _ _ _ _ _ _ _ _) (laws_eqExp_l _ _ _ _ _ _ _ _ _ _) h1
  · cases h
theorem laws_eqExp_nx (x0 : Int) (x1 : Int) (x2 : List UInt8) (x3 : List (List TC)) (x4 : List (List TC)) (y0 : Int) (y1 : Int) (y2 : List UInt8) (y3 : List (List TC)) (y4 : List (List TC)) : is (rowsDep x3 < laws_eqExp_O.n + 1 ∧ x0 = y0 ∧ x1 = y1 ∧ x2 = y2 ∧ x3 = y3 ∧ x4 = y4 ∧ Typed tab (.slice 31) (.l x3) ∧ Typed tab (.slice 93) (.l x4)) = true → (laws_eqExp_c x0 x1 x2 x3 x4 y0 y1 y2 y3 y4) = true ∧ (laws_eqExp_v x0 x1 x2 x3 x4 y0 y1 y2 y3 y4) = true := by
  intro h
  obtain ⟨hM, rfl, rfl, rfl, rfl, rfl, t3, t4⟩ := is_iff.1 h
  have c4 : laws_eqRangeS_c x4 x4 = true := is_true ⟨rfl, t4⟩
  have c3 : laws_eqExpS_c x3 x3 = true := is_true ⟨rfl, t3, fun x hx => is_true ⟨by have a := dep_cell hx 3; omega, rfl, rfl, rfl, rfl, rfl, typed_list ((typed_elem t3 hx).2 3 (by decide)), typed_list ((typed_elem t3 hx).2 4 (by decide))⟩⟩
  constructor
  · unfold laws_eqExp_c
    simp only [c3, c4, laws_eqExpS_v, laws_eqRangeS_v, beq_self_eq_true, Bool.not_true, cond_false, Bool.and_self]
  · unfold laws_eqExp_v
    simp only [laws_eqExpS_v, laws_eqRangeS_v, beq_self_eq_true, Bool.not_true, cond_false]
theorem laws_eqExp_nxr (x0 : Int) (x1 : Int) (x2 : List UInt8) (x3 : List (List TC)) (x4 : List (List TC)) (y0 : Int) (y1 : Int) (y2 : List UInt8) (y3 : List (List TC)) (y4 : List (List TC)) : laws_eqExp_rc (i_laws_eqExp := ⟨laws_eqExp_O.n + 1⟩) x0 x1 x2 x3 x4 y0 y1 y2 y3 y4 = true → (laws_eqExp_c x0 x1 x2 x3 x4 y0 y1 y2 y3 y4) = true ∧ (laws_eqExp_v x0 x1 x2 x3 x4 y0 y1 y2 y3 y4) = (laws_eqExp_rv x0 x1 x2 x3 x4 y0 y1 y2 y3 y4) := fun h => laws_eqExp_nx x0 x1 x2 x3 x4 y0 y1 y2 y3 y4 h
theorem laws_eqExp_rs : ∀ xs r, laws_eqExp_rS (i_laws_eqExp := ⟨laws_eqExp_O.n + 1⟩) xs = some (true, r) → runF tab FT D16 live 13 noLoops xs = some r := by
  intro xs r h
  unfold laws_eqExp_rS at h
  split at h
  · simp only [Option.some.injEq, Prod.mk.injEq] at h
    obtain ⟨h1, rfl⟩ := h
    have hx := laws_eqExp_nxr _ _ _ _ _ _ _ _ _ _ h1
    have ht := fun_told (laws_eqExp_e _ _ _ _ _ _ _ _ _ _) (laws_eqExp_l _ _ _ _ _ _ _ _ _ _) hx.1
    rw [hx.2] at ht
    exact ht
  · cases h
theorem laws_eqExp_step : laws_eqExp_G (i_laws_eqExp := ⟨laws_eqExp_O.n + 1⟩) := by
  have h := DOk.also2 (S := laws_eqExp_rS (i_laws_eqExp := ⟨laws_eqExp_O.n + 1⟩)) mixed_ok tab_ok names_ok d12 d16 noLoops_ok laws_eqExp_rs
  refine laws_eqExp_G.mk (i_laws_eqExp := ⟨laws_eqExp_O.n + 1⟩) ?_
  exact h
/-! the law -/
noncomputable def laws_FnExactSameExp_t (x0 : Int) (x1 : Int) (x2 : List UInt8) (x3 : List (List TC)) (x4 : List (List TC)) (x5 : Int) (x6 : Int) (x7 : List UInt8) (x8 : List (List TC)) (x9 : List (List TC)) : Tr Bool := (.ite ((laws_szExp_rc x0 x1 x2 x3 x4 (1048576 : Int)) = true) (.ite ((decide ((laws_szExp_rv x0 x1 x2 x3 x4 (1048576 : Int)) < (0 : Int))) = true) (.ok true)
   (.ite ((laws_szExp_rc x5 x6 x7 x8 x9 (laws_szExp_rv x0 x1 x2 x3 x4 (1048576 : Int))) = true) (.ite ((decide ((laws_szExp_rv x5 x6 x7 x8 x9 (laws_szExp_rv x0 x1 x2 x3 x4 (1048576 : Int))) < (0 : Int))) = true) (.ok true)
     (.ite ((laws_toExp_rc x0 x1 x2 x3 x4) = true) (.ite ((laws_toExp_rc x5 x6 x7 x8 x9) = true) (.ite ((spec_SameExp_c ((laws_toExp_rv x0 x1 x2 x3 x4).1) ((laws_toExp_rv x0 x1 x2 x3 x4).2.1) ((laws_toExp_rv x0 x1 x2 x3 x4).2.2.1) ((laws_toExp_rv x0 x1 x2 x3 x4).2.2.2.1) ((laws_toExp_rv x0 x1 x2 x3 x4).2.2.2.2) ((laws_toExp_rv x5 x6 x7 x8 x9).1) ((laws_toExp_rv x5 x6 x7 x8 x9).2.1) ((laws_toExp_rv x5 x6 x7 x8 x9).2.2.1) ((laws_toExp_rv x5 x6 x7 x8 x9).2.2.2.1) ((laws_toExp_rv x5 x6 x7 x8 x9).2.2.2.2)) = true) (.ite ((laws_toExp_rc x0 x1 x2 x3 x4) = true) (.ite ((laws_toExp_rc x5 x6 x7 x8 x9) = true) (.ite ((impl_SameExp_rc ((laws_toExp_rv x0 x1 x2 x3 x4).1) ((laws_toExp_rv x0 x1 x2 x3 x4).2.1) ((laws_toExp_rv x0 x1 x2 x3 x4).2.2.1) ((laws_toExp_rv x0 x1 x2 x3 x4).2.2.2.1) ((laws_toExp_rv x0 x1 x2 x3 x4).2.2.2.2) ((laws_toExp_rv x5 x6 x7 x8 x9).1) ((laws_toExp_rv x5 x6 x7 x8 x9).2.1) ((laws_toExp_rv x5 x6 x7 x8 x9).2.2.1) ((laws_toExp_rv x5 x6 x7 x8 x9).2.2.2.1) ((laws_toExp_rv x5 x6 x7 x8 x9).2.2.2.2)) = true) (.ite ((!((impl_SameExp_rv ((laws_toExp_rv x0 x1 x2 x3 x4).1) ((laws_toExp_rv x0 x1 x2 x3 x4).2.1) ((laws_toExp_rv x0 x1 x2 x3 x4).2.2.1) ((laws_toExp_rv x0 x1 x2 x3 x4).2.2.2.1) ((laws_toExp_rv x0 x1 x2 x3 x4).2.2.2.2) ((laws_toExp_rv x5 x6 x7 x8 x9).1) ((laws_toExp_rv x5 x6 x7 x8 x9).2.1) ((laws_toExp_rv x5 x6 x7 x8 x9).2.2.1) ((laws_toExp_rv x5 x6 x7 x8 x9).2.2.2.1) ((laws_toExp_rv x5 x6 x7 x8 x9).2.2.2.2)) == (spec_SameExp_v ((laws_toExp_rv x0 x1 x2 x3 x4).1) ((laws_toExp_rv x0 x1 x2 x3 x4).2.1) ((laws_toExp_rv x0 x1 x2 x3 x4).2.2.1) ((laws_toExp_rv x0 x1 x2 x3 x4).2.2.2.1) ((laws_toExp_rv x0 x1 x2 x3 x4).2.2.2.2) ((laws_toExp_rv x5 x6 x7 x8 x9).1) ((laws_toExp_rv x5 x6 x7 x8 x9).2.1) ((laws_toExp_rv x5 x6 x7 x8 x9).2.2.1) ((laws_toExp_rv x5 x6 x7 x8 x9).2.2.2.1) ((laws_toExp_rv x5 x6 x7 x8 x9).2.2.2.2)))) = true) (.ok false)
            (.ite ((laws_toExp_rc x0 x1 x2 x3 x4) = true) (.ite ((laws_eqExp_rc ((laws_toExp_rv x0 x1 x2 x3 x4).1) ((laws_toExp_rv x0 x1 x2 x3 x4).2.1) ((laws_toExp_rv x0 x1 x2 x3 x4).2.2.1) ((laws_toExp_rv x0 x1 x2 x3 x4).2.2.2.1) ((laws_toExp_rv x0 x1 x2 x3 x4).2.2.2.2) ((laws_toExp_rv x0 x1 x2 x3 x4).1) ((laws_toExp_rv x0 x1 x2 x3 x4).2.1) ((laws_toExp_rv x0 x1 x2 x3 x4).2.2.1) ((laws_toExp_rv x0 x1 x2 x3 x4).2.2.2.1) ((laws_toExp_rv x0 x1 x2 x3 x4).2.2.2.2)) = true) (.ite ((!(laws_eqExp_rv ((laws_toExp_rv x0 x1 x2 x3 x4).1) ((laws_toExp_rv x0 x1 x2 x3 x4).2.1) ((laws_toExp_rv x0 x1 x2 x3 x4).2.2.1) ((laws_toExp_rv x0 x1 x2 x3 x4).2.2.2.1) ((laws_toExp_rv x0 x1 x2 x3 x4).2.2.2.2) ((laws_toExp_rv x0 x1 x2 x3 x4).1) ((laws_toExp_rv x0 x1 x2 x3 x4).2.1) ((laws_toExp_rv x0 x1 x2 x3 x4).2.2.1) ((laws_toExp_rv x0 x1 x2 x3 x4).2.2.2.1) ((laws_toExp_rv x0 x1 x2 x3 x4).2.2.2.2))) = true) (.ok false)
               (.ite ((laws_toExp_rc x5 x6 x7 x8 x9) = true) (.ite ((laws_eqExp_rc ((laws_toExp_rv x5 x6 x7 x8 x9).1) ((laws_toExp_rv x5 x6 x7 x8 x9).2.1) ((laws_toExp_rv x5 x6 x7 x8 x9).2.2.1) ((laws_toExp_rv x5 x6 x7 x8 x9).2.2.2.1) ((laws_toExp_rv x5 x6 x7 x8 x9).2.2.2.2) ((laws_toExp_rv x5 x6 x7 x8 x9).1) ((laws_toExp_rv x5 x6 x7 x8 x9).2.1) ((laws_toExp_rv x5 x6 x7 x8 x9).2.2.1) ((laws_toExp_rv x5 x6 x7 x8 x9).2.2.2.1) ((laws_toExp_rv x5 x6 x7 x8 x9).2.2.2.2)) = true) (.ite ((!(laws_eqExp_rv ((laws_toExp_rv x5 x6 x7 x8 x9).1) ((laws_toExp_rv x5 x6 x7 x8 x9).2.1) ((laws_toExp_rv x5 x6 x7 x8 x9).2.2.1) ((laws_toExp_rv x5 x6 x7 x8 x9).2.2.2.1) ((laws_toExp_rv x5 x6 x7 x8 x9).2.2.2.2) ((laws_toExp_rv x5 x6 x7 x8 x9).1) ((laws_toExp_rv x5 x6 x7 x8 x9).2.1) ((laws_toExp_rv x5 x6 x7 x8 x9).2.2.1) ((laws_toExp_rv x5 x6 x7 x8 x9).2.2.2.1) ((laws_toExp_rv x5 x6 x7 x8 x9).2.2.2.2))) = true) (.ok false)
                  (.ok true))
                 .no)
                .no))
              .no)
             .no))
           .no)
          .no)
         .no)
        .no)
       .no)
      .no))
    .no))
  .no)
theorem laws_FnExactSameExp_e (x0 : Int) (x1 : Int) (x2 : List UInt8) (x3 : List (List TC)) (x4 : List (List TC)) (x5 : Int) (x6 : Int) (x7 : List UInt8) (x8 : List (List TC)) (x9 : List (List TC)) : runF tab FT D16 live 3 noLoops [(true, [(.int .i64, TC.i x0), (.int .i64, TC.i x1), (.str, TC.s x2), (.slice 25, TC.l x3), (.slice 135, TC.l x4)]), (true, [(.int .i64, TC.i x5), (.int .i64, TC.i x6), (.str, TC.s x7), (.slice 25, TC.l x8), (.slice 135, TC.l x9)])] = (laws_FnExactSameExp_t x0 x1 x2 x3 x4 x5 x6 x7 x8 x9).run fun p => some [(false, [⟨.bool, .sh, .b p⟩])] := by kernel_rfl
theorem tyArgsExp {A B : List (List TC)} (a3 : Typed tab (.slice 25) (.l A)) (a4 : Typed tab (.slice 135) (.l B)) : Typed tab (.slice 31) (.l A) ∧ Typed tab (.slice 93) (.l B) :=
  ⟨typed_iso iso_ok a3 (by decide), typed_iso iso_ok a4 (by decide)⟩
theorem eqExp_rv {x0 : Int} {x1 : Int} {x2 : List UInt8} {x3 : List (List TC)} {x4 : List (List TC)} {y0 : Int} {y1 : Int} {y2 : List UInt8} {y3 : List (List TC)} {y4 : List (List TC)} : ¬(!(laws_eqExp_rv x0 x1 x2 x3 x4 y0 y1 y2 y3 y4)) = true := by
  show ¬(!true) = true
  decide
theorem laws_FnExactSameExp_p (x0 : Int) (x1 : Int) (x2 : List UInt8) (x3 : List (List TC)) (x4 : List (List TC)) (x5 : Int) (x6 : Int) (x7 : List UInt8) (x8 : List (List TC)) (x9 : List (List TC)) (h0 : Typed tab (.int .i64) (.i x0)) (h1 : Typed tab (.int .i64) (.i x1)) (h2 : Typed tab (.str) (.s x2)) (h3 : Typed tab (.slice 25) (.l x3)) (h4 : Typed tab (.slice 135) (.l x4)) (h5 : Typed tab (.int .i64) (.i x5)) (h6 : Typed tab (.int .i64) (.i x6)) (h7 : Typed tab (.str) (.s x7)) (h8 : Typed tab (.slice 25) (.l x8)) (h9 : Typed tab (.slice 135) (.l x9)) (NN : Nat) (eN : NN = rowsDep x3 + rowsDep x4 + rowsDep x8 + rowsDep x9 + 1) (r_laws_szExp : ∀ (x0 : Int) (x1 : Int) (x2 : List UInt8) (x3 : List (List TC)) (x4 : List (List TC)) (x5 : Int), rowsDep x3 < NN ∧ Typed tab (.slice 25) (.l x3) ∧ Typed tab (.slice 135) (.l x4) → (laws_szExp_rc x0 x1 x2 x3 x4 x5) = true) (n_laws_toExp : NN ≤ laws_toExp_O.n) (n_spec_l25Same : NN ≤ spec_l25Same_O.n) (n_impl_SameExp : NN ≤ impl_SameExp_O.n) (n_laws_eqExp : NN ≤ laws_eqExp_O.n) : (laws_FnExactSameExp_t x0 x1 x2 x3 x4 x5 x6 x7 x8 x9).val = some true := by
  have t3_31 := laws_toExpS_ty h3
  have t4_93 := laws_toRangeS_ty h4
  have t8_31 := laws_toExpS_ty h8
  have t9_93 := laws_toRangeS_ty h9
  obtain ⟨i3, i4⟩ := tyArgsExp h3 h4
  obtain ⟨i8, i9⟩ := tyArgsExp h8 h9
  unfold laws_FnExactSameExp_t
  simp only [show laws_toExp_rv x0 x1 x2 x3 x4 = (x0, x1, x2, x3, x4) from rfl, show laws_toExp_rv x5 x6 x7 x8 x9 = (x5, x6, x7, x8, x9) from rfl]
  refine Tr.t (by first | (exact r_laws_szExp _ _ _ _ _ _ ⟨by omega, h3, h4⟩) | (exact r_laws_szExp _ _ _ _ _ _ ⟨by omega, h8, h9⟩)) ?_
  refine Tr.y ?_
  refine Tr.t (by first | (exact r_laws_szExp _ _ _ _ _ _ ⟨by omega, h3, h4⟩) | (exact r_laws_szExp _ _ _ _ _ _ ⟨by omega, h8, h9⟩)) ?_
  refine Tr.y ?_
  refine Tr.t (by first | (exact is_true ⟨by omega, h3, h4⟩) | (exact is_true ⟨by omega, h8, h9⟩)) ?_
  refine Tr.t (by first | (exact is_true ⟨by omega, h3, h4⟩) | (exact is_true ⟨by omega, h8, h9⟩)) ?_
  refine Tr.t (by first | (exact spec_SameExp_cc (is_true ⟨by show rowsDep x3 < _; omega, i3, i4, i8, i9⟩)) | (exact spec_SameExp_cc (is_true ⟨by show rowsDep x3 < _; omega, i3, i4, i8, i9⟩))) ?_
  refine Tr.t (by first | (exact is_true ⟨by omega, h3, h4⟩) | (exact is_true ⟨by omega, h8, h9⟩)) ?_
  refine Tr.t (by first | (exact is_true ⟨by omega, h3, h4⟩) | (exact is_true ⟨by omega, h8, h9⟩)) ?_
  refine Tr.t (by first | (exact is_true ⟨by omega, i3, i4, i8, i9⟩) | (exact is_true ⟨by omega, i3, i4, i8, i9⟩)) ?_
  refine Tr.n (by first | (exact eqExp_rv) | (exact neg_same)) ?_
  refine Tr.t (by first | (exact is_true ⟨by omega, h3, h4⟩) | (exact is_true ⟨by omega, h8, h9⟩)) ?_
  refine Tr.t (by first | (exact is_true ⟨by omega, rfl, rfl, rfl, rfl, rfl, i3, i4⟩) | (exact is_true ⟨by omega, rfl, rfl, rfl, rfl, rfl, i8, i9⟩)) ?_
  refine Tr.n (by first | (exact eqExp_rv) | (exact neg_same)) ?_
  refine Tr.t (by first | (exact is_true ⟨by omega, h3, h4⟩) | (exact is_true ⟨by omega, h8, h9⟩)) ?_
  refine Tr.t (by first | (exact is_true ⟨by omega, rfl, rfl, rfl, rfl, rfl, i3, i4⟩) | (exact is_true ⟨by omega, rfl, rfl, rfl, rfl, rfl, i8, i9⟩)) ?_
  refine Tr.n (by first | (exact eqExp_rv) | (exact neg_same)) ?_
  rfl
end
theorem laws_eqExp_none : ∀ xs r, laws_eqExp_rS (i_laws_eqExp := ⟨0⟩) xs ≠ some (true, r) := by
  intro xs r h
  unfold laws_eqExp_rS at h
  split at h
  · simp only [Option.some.injEq, Prod.mk.injEq] at h
    have h1 := is_iff.1 h.1
    exact absurd h1.1 (Nat.not_lt_zero _)
  · cases h
theorem laws_eqExp_good : ∀ n : Nat, laws_eqExp_G (i_laws_eqExp := ⟨n⟩) := by
  intro n
  induction n with
  | zero => exact laws_eqExp_G.mk (i_laws_eqExp := ⟨0⟩) (DOk.also0 d12 laws_eqExp_none)
  | succ n ih => exact laws_eqExp_step (i_laws_eqExp := ⟨n⟩) (g_laws_eqExp := ih)
end
theorem impl_SameExp_none : ∀ xs r, impl_SameExp_rS (i_impl_SameExp := ⟨0⟩) xs ≠ some (true, r) := by
  intro xs r h
  unfold impl_SameExp_rS at h
  split at h
  · simp only [Option.some.injEq, Prod.mk.injEq] at h
    have h1 := is_iff.1 h.1
    exact absurd h1.1 (Nat.not_lt_zero _)
  · cases h
theorem impl_SameExp_good : ∀ n : Nat, impl_SameExp_G (i_impl_SameExp := ⟨n⟩) := by
  intro n
  induction n with
  | zero => exact impl_SameExp_G.mk (i_impl_SameExp := ⟨0⟩) (DOk.also0 d10 impl_SameExp_none)
  | succ n ih => exact impl_SameExp_step (i_impl_SameExp := ⟨n⟩) (g_impl_SameExp := ih)
end
theorem spec_l25Same_none : ∀ xs r, spec_l25Same_rS (i_spec_l25Same := ⟨0⟩) xs ≠ some (true, r) := by
  intro xs r h
  unfold spec_l25Same_rS at h
  split at h
  · simp only [Option.some.injEq, Prod.mk.injEq] at h
    have h1 := is_iff.1 h.1
    exact absurd h1.1 (Nat.not_lt_zero _)
  · cases h
theorem spec_l25Same_good : ∀ n : Nat, spec_l25Same_G (i_spec_l25Same := ⟨n⟩) := by
  intro n
  induction n with
  | zero => exact spec_l25Same_G.mk (i_spec_l25Same := ⟨0⟩) (DOk.also0 d7 spec_l25Same_none)
  | succ n ih => exact spec_l25Same_step (i_spec_l25Same := ⟨n⟩) (g_spec_l25Same := ih)
end
theorem laws_toExp_none : ∀ xs r, laws_toExp_rS (i_laws_toExp := ⟨0⟩) xs ≠ some (true, r) := by
  intro xs r h
  unfold laws_toExp_rS at h
  split at h
  · simp only [Option.some.injEq, Prod.mk.injEq] at h
    have h1 := is_iff.1 h.1
    exact absurd h1.1 (Nat.not_lt_zero _)
  · cases h
theorem laws_toExp_good : ∀ n : Nat, laws_toExp_G (i_laws_toExp := ⟨n⟩) := by
  intro n
  induction n with
  | zero => exact laws_toExp_G.mk (i_laws_toExp := ⟨0⟩) (DOk.also0 d3 laws_toExp_none)
  | succ n ih => exact laws_toExp_step (i_laws_toExp := ⟨n⟩) (g_laws_toExp := ih)
end
@[reducible] noncomputable def laws_szExp_orc : Nat → laws_szExp_O
  | 0 => ⟨fun _ _ _ _ _ _ => (false, default)⟩
  | n + 1 => ⟨laws_szExp_next (i_laws_szExp := laws_szExp_orc n)⟩
theorem laws_szExp_none : ∀ xs r, laws_szExp_rS (i_laws_szExp := laws_szExp_orc 0) xs ≠ some (true, r) := by
  intro xs r h
  unfold laws_szExp_rS at h
  split at h
  · simp only [Option.some.injEq, Prod.mk.injEq] at h
    exact absurd h.1 (by show ¬(false = true); simp)
  · cases h
theorem laws_szExp_good : ∀ n, laws_szExp_G (i_laws_szExp := laws_szExp_orc n) := by
  intro n
  induction n with
  | zero => exact laws_szExp_G.mk (i_laws_szExp := laws_szExp_orc 0) (DOk.also0 d0 laws_szExp_none)
  | succ n ih => exact laws_szExp_step (i_laws_szExp := laws_szExp_orc n) (g_laws_szExp := ih)
theorem laws_szExp_hr : ∀ (n : Nat) (x0 : Int) (x1 : Int) (x2 : List UInt8) (x3 : List (List TC)) (x4 : List (List TC)) (x5 : Int), rowsDep x3 < n ∧ Typed tab (.slice 25) (.l x3) ∧ Typed tab (.slice 135) (.l x4) → laws_szExp_rc (i_laws_szExp := laws_szExp_orc n) x0 x1 x2 x3 x4 x5 = true := by
  intro n
  induction n with
  | zero => intro x0 x1 x2 x3 x4 x5 h; exact absurd h.1 (Nat.not_lt_zero _)
  | succ n ih =>
    intro x0 x1 x2 x3 x4 x5 h
    exact laws_szExp_nx (i_laws_szExp := laws_szExp_orc n) (g_laws_szExp := laws_szExp_good n) n ih x0 x1 x2 x3 x4 x5 h
theorem laws_FnExactSameExp_pure : ∀ xs, ArgsTyped tab [25, 25] xs → ∃ (D : Dt) (lo : LoopTeller), DOk Go.Proofs.Try.prog tab D ∧ FnLoops tab (fun f => Go.Proofs.Try.prog.funcs[f]?) D live 3 lo ∧ runF tab (fun f => Go.Proofs.Try.prog.funcs[f]?) D live 3 lo xs = yes := by
  intro xs h
  cases h with | cons l0 g0 h =>
  obtain ⟨z0_0, z0_1, z0_2, z0_3, z0_4, rfl⟩ := len_5 l0
  have q0 := g0 0 (by decide)
  have q0 : Typed tab (.int .i64) z0_0 := q0
  obtain ⟨y0, rfl⟩ := typed_int q0
  have q1 := g0 1 (by decide)
  have q1 : Typed tab (.int .i64) z0_1 := q1
  obtain ⟨y1, rfl⟩ := typed_int q1
  have q2 := g0 2 (by decide)
  have q2 : Typed tab (.str) z0_2 := q2
  obtain ⟨y2, rfl⟩ := typed_str q2
  have q3 := g0 3 (by decide)
  have q3 : Typed tab (.slice 25) z0_3 := q3
  obtain ⟨y3, rfl⟩ := typed_slice q3
  have q4 := g0 4 (by decide)
  have q4 : Typed tab (.slice 135) z0_4 := q4
  obtain ⟨y4, rfl⟩ := typed_slice q4
  cases h with | cons l1 g1 h =>
  obtain ⟨z1_0, z1_1, z1_2, z1_3, z1_4, rfl⟩ := len_5 l1
  have q5 := g1 0 (by decide)
  have q5 : Typed tab (.int .i64) z1_0 := q5
  obtain ⟨y5, rfl⟩ := typed_int q5
  have q6 := g1 1 (by decide)
  have q6 : Typed tab (.int .i64) z1_1 := q6
  obtain ⟨y6, rfl⟩ := typed_int q6
  have q7 := g1 2 (by decide)
  have q7 : Typed tab (.str) z1_2 := q7
  obtain ⟨y7, rfl⟩ := typed_str q7
  have q8 := g1 3 (by decide)
  have q8 : Typed tab (.slice 25) z1_3 := q8
  obtain ⟨y8, rfl⟩ := typed_slice q8
  have q9 := g1 4 (by decide)
  have q9 : Typed tab (.slice 135) z1_4 := q9
  obtain ⟨y9, rfl⟩ := typed_slice q9
  cases h
  letI i_laws_szExp : laws_szExp_O := laws_szExp_orc (rowsDep y3 + rowsDep y4 + rowsDep y8 + rowsDep y9 + 1)
  letI g_laws_szExp : laws_szExp_G := laws_szExp_good (rowsDep y3 + rowsDep y4 + rowsDep y8 + rowsDep y9 + 1)
  letI i_laws_toExp : laws_toExp_O := ⟨rowsDep y3 + rowsDep y4 + rowsDep y8 + rowsDep y9 + 1⟩
  letI g_laws_toExp : laws_toExp_G := laws_toExp_good (rowsDep y3 + rowsDep y4 + rowsDep y8 + rowsDep y9 + 1)
  letI i_spec_l25Same : spec_l25Same_O := ⟨rowsDep y3 + rowsDep y4 + rowsDep y8 + rowsDep y9 + 1⟩
  letI g_spec_l25Same : spec_l25Same_G := spec_l25Same_good (rowsDep y3 + rowsDep y4 + rowsDep y8 + rowsDep y9 + 1)
  letI i_impl_SameExp : impl_SameExp_O := ⟨rowsDep y3 + rowsDep y4 + rowsDep y8 + rowsDep y9 + 1⟩
  letI g_impl_SameExp : impl_SameExp_G := impl_SameExp_good (rowsDep y3 + rowsDep y4 + rowsDep y8 + rowsDep y9 + 1)
  letI i_laws_eqExp : laws_eqExp_O := ⟨rowsDep y3 + rowsDep y4 + rowsDep y8 + rowsDep y9 + 1⟩
  letI g_laws_eqExp : laws_eqExp_G := laws_eqExp_good (rowsDep y3 + rowsDep y4 + rowsDep y8 + rowsDep y9 + 1)
  refine ⟨D16, noLoops, d16, noLoops_ok, (laws_FnExactSameExp_e y0 y1 y2 y3 y4 y5 y6 y7 y8 y9).trans ?_⟩
  rw [Tr.run_eq, laws_FnExactSameExp_p y0 y1 y2 y3 y4 y5 y6 y7 y8 y9 q0 q1 q2 q3 q4 q5 q6 q7 q8 q9 (rowsDep y3 + rowsDep y4 + rowsDep y8 + rowsDep y9 + 1) rfl (laws_szExp_hr (rowsDep y3 + rowsDep y4 + rowsDep y8 + rowsDep y9 + 1)) (Nat.le_refl _) (Nat.le_refl _) (Nat.le_refl _) (Nat.le_refl _)]
  rfl
end Go.Proofs.Ytghbndlkekaipaa.V
