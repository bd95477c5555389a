/- What the functions of FnExactSameDataset answer. No condition. -/
import Derived.Test.YtghbndlkekaipaaVFnExactSameDatasetP2
namespace Go.Proofs.Ytghbndlkekaipaa.V
open Go
set_option maxRecDepth 100000
set_option linter.unusedVariables false
set_option linter.unusedSectionVars false
set_option linter.unusedSimpArgs false
section
variable [i_laws_szType : laws_szType_O]
variable [g_laws_szType : laws_szType_G]
section
variable [i_laws_toType : laws_toType_O]
variable [g_laws_toType : laws_toType_G]
section
variable [i_spec_SameType : spec_SameType_O]
variable [g_spec_SameType : spec_SameType_G]
section
variable [i_impl_SameType : impl_SameType_O]
variable [g_impl_SameType : impl_SameType_G]
section
variable [i_laws_eqType : laws_eqType_O]
variable [g_laws_eqType : laws_eqType_G]
noncomputable def laws_eqFilter_S : List Arg → Option (Bool × Res) := fun xs => match xs with
  | [(true, [(.int .i64, TC.i x0), (.int .i64, TC.i x1), (.bool, TC.b x2)]), (true, [(.int .i64, TC.i y0), (.int .i64, TC.i y1), (.bool, TC.b y2)])] => some ((laws_eqFilter_c x0 x1 x2 y0 y1 y2), laws_eqFilter_mk (laws_eqFilter_v x0 x1 x2 y0 y1 y2))
  | _ => .none
theorem laws_eqFilter_e (x0 : Int) (x1 : Int) (x2 : Bool) (y0 : Int) (y1 : Int) (y2 : Bool) : runF tab FT D42 live 108 noLoops [(true, [(.int .i64, TC.i x0), (.int .i64, TC.i x1), (.bool, TC.b x2)]), (true, [(.int .i64, TC.i y0), (.int .i64, TC.i y1), (.bool, TC.b y2)])] = (laws_eqFilter_t x0 x1 x2 y0 y1 y2).run fun p => some (laws_eqFilter_mk p) := by kernel_rfl
theorem laws_eqFilter_s : ∀ xs r, laws_eqFilter_S xs = some (true, r) → runF tab FT D42 live 108 noLoops xs = some r := by
  intro xs r h
  unfold laws_eqFilter_S at h
  split at h
  · simp only [Option.some.injEq, Prod.mk.injEq] at h
    obtain ⟨h1, rfl⟩ := h
    exact fun_told (laws_eqFilter_e _ _ _ _ _ _) (laws_eqFilter_l _ _ _ _ _ _) h1
  · cases h
noncomputable def D43 : Dt := also D42 108 laws_eqFilter_S
theorem d43 : DOk Go.Proofs.Try.prog tab D43 := d42.also mixed_ok tab_ok names_ok noLoops_ok laws_eqFilter_s
/-! laws_eqFilterS -/
abbrev laws_eqFilterS_4_σ := List (List TC) × List (List TC) × Int
abbrev laws_eqFilterS_4_ω := (Unit) ⊕ (Unit)
noncomputable def laws_eqFilterS_4_step (A : List (List TC)) (C : List (List TC)) (i : Int) : Tr (laws_eqFilterS_4_σ ⊕ laws_eqFilterS_4_ω) := (.ite ((decide (i < (A.length : Int))) = true) (.ite ((0 : Int) ≤ i ∧ i < (A.length : Int)) (.ite ((0 : Int) ≤ i ∧ i < (C.length : Int)) (.ite ((laws_eqFilter_c ((nth (row A i) 0).int) ((nth (row A i) 1).int) ((nth (row A i) 2).bool) ((nth (row C i) 0).int) ((nth (row C i) 1).int) ((nth (row C i) 2).bool)) = true) (.ite ((!(laws_eqFilter_v ((nth (row A i) 0).int) ((nth (row A i) 1).int) ((nth (row A i) 2).bool) ((nth (row C i) 0).int) ((nth (row C i) 1).int) ((nth (row C i) 2).bool))) = true) (.ok (.inr (.inl ())))
      (.ok (.inl (A, C, (IntKind.wrap .i64 (i + (1 : Int)))))))
     .no)
    .no)
   .no)
  (.ok (.inr (.inr ()))))
noncomputable def laws_eqFilterS_4_st : laws_eqFilterS_4_σ → Tr (laws_eqFilterS_4_σ ⊕ laws_eqFilterS_4_ω) := fun x => (laws_eqFilterS_4_step (x.1) (x.2.1) (x.2.2))
noncomputable def laws_eqFilterS_o4_1 (A : List (List TC)) (C : List (List TC)) (i : Int) : Bool := is (A = C ∧ Typed tab (.slice 122) (.l A) ∧ i = 0)
noncomputable def laws_eqFilterS_4_fin (A : List (List TC)) (C : List (List TC)) (i : Int) : Told laws_eqFilterS_4_ω := (.leaf (laws_eqFilterS_o4_1 A C i) (.inr ()))
def laws_eqFilterS_4_sl (x : laws_eqFilterS_4_σ) : List Slot := [⟨.val false [⟨.slice 122, .sh, TC.l (x.1)⟩], ⟨0, 0⟩⟩, ⟨.val false [⟨.slice 122, .sh, TC.l (x.2.1)⟩], ⟨0, 0⟩⟩, ⟨.val false [⟨.int .i64, .sh, TC.i (x.2.2)⟩], ⟨0, 0⟩⟩]
def laws_eqFilterS_4_out : laws_eqFilterS_4_ω → Ex × List Slot := (Sum.elim (fun x => (.ret, [⟨.val false [⟨.bool, .sh, TC.b false⟩], ⟨0, 0⟩⟩])) (fun x => (.exit 0, [Slot.none])))
noncomputable def laws_eqFilterS_lo4 : List Slot → Option (Told (Ex × List Slot)) := fun s => match s with
  | [⟨.val false [⟨.slice 122, .sh, TC.l A⟩], ⟨0, 0⟩⟩, ⟨.val false [⟨.slice 122, .sh, TC.l C⟩], ⟨0, 0⟩⟩, ⟨.val false [⟨.int .i64, .sh, TC.i i⟩], ⟨0, 0⟩⟩] => some (((laws_eqFilterS_4_fin A C i)).map laws_eqFilterS_4_out)
  | _ => .none
noncomputable def laws_eqFilterS_lo : LoopTeller := fun r s => bif Nat.beq r 4 then laws_eqFilterS_lo4 s else .none
theorem laws_eqFilterS_4_r (A : List (List TC)) (C : List (List TC)) (i : Int) (fuel : Nat) : rounds (rnd tab FT D43 live 79 laws_eqFilterS_lo 0 4) leave (fuel + 1) (laws_eqFilterS_4_sl (A, C, i)) = ((laws_eqFilterS_4_step A C i)).run (goOn (fun s => rounds (rnd tab FT D43 live 79 laws_eqFilterS_lo 0 4) leave fuel (laws_eqFilterS_4_sl s)) fun w => some (laws_eqFilterS_4_out w)) := by kernel_rfl
theorem laws_eqFilterS_4_h (A : List (List TC)) (C : List (List TC)) (i : Int) (ow : laws_eqFilterS_4_ω) : ((laws_eqFilterS_4_fin A C i)).val = some ow → ∃ fuel, loopN laws_eqFilterS_4_st fuel (A, C, i) = some ow := by
  intro h
  refine auto_leaf (R := Sum.inr ()) (fun ho => ?_) h
  obtain ⟨rfl, ht, rfl⟩ := is_iff.1 ho
  have hlen : A.length ≤ 140737488351232 := by have := typed_room ht; simp only [show (tab 122).bytes = 24 from rfl] at this; omega
  refine ⟨_, loopN_run (N := A.length) (fun i => (A, A, (i : Int))) (fun i hi => ?_) ?_ A.length 0 (by omega)⟩
  · skip
    show (laws_eqFilterS_4_step A A (i : Int)).val = _
    unfold laws_eqFilterS_4_step
    refine Tr.t (by simp; omega) ?_
    refine Tr.t (by first | omega | (constructor <;> omega)) ?_
    refine Tr.t (by first | omega | (constructor <;> omega)) ?_
    refine Tr.t (by first | (apply is_true; and_intros <;> (first | rfl | assumption | (apply laws_szStringS_cc <;> assumption) | (apply laws_szMember_cc <;> assumption) | (apply laws_szMemberS_cc <;> assumption) | (apply laws_szTypeS_cc <;> assumption) | (apply laws_szSpace_cc <;> assumption) | (apply laws_szDataset_cc <;> assumption) | (first | (apply is_true; and_intros <;> (first | rfl | assumption | (apply laws_szStringS_cc <;> assumption) | (apply laws_szMember_cc <;> assumption) | (apply laws_szMemberS_cc <;> assumption) | (apply laws_szTypeS_cc <;> assumption) | (apply laws_szSpace_cc <;> assumption) | (apply laws_szDataset_cc <;> assumption) | (first | (apply is_true; and_intros <;> (first | rfl | assumption | (apply laws_szStringS_cc <;> assumption) | (apply laws_szMember_cc <;> assumption) | (apply laws_szMemberS_cc <;> assumption) | (apply laws_szTypeS_cc <;> assumption) | (apply laws_szSpace_cc <;> assumption) | (apply laws_szDataset_cc <;> assumption) | (first | (apply is_true; and_intros <;> (first | rfl | assumption | (apply laws_szStringS_cc <;> assumption) | (apply laws_szMember_cc <;> assumption) | (apply laws_szMemberS_cc <;> assumption) | (apply laws_szTypeS_cc <;> assumption) | (apply laws_szSpace_cc <;> assumption) | (apply laws_szDataset_cc <;> assumption))) | (apply laws_szStringS_cc <;> assumption) | (apply laws_szMember_cc <;> assumption) | (apply laws_szMemberS_cc <;> assumption) | (apply laws_szTypeS_cc <;> assumption) | (apply laws_szSpace_cc <;> assumption) | (apply laws_szDataset_cc <;> assumption)))) | (apply laws_szStringS_cc <;> assumption) | (apply laws_szMember_cc <;> assumption) | (apply laws_szMemberS_cc <;> assumption) | (apply laws_szTypeS_cc <;> assumption) | (apply laws_szSpace_cc <;> assumption) | (apply laws_szDataset_cc <;> assumption)))) | (apply laws_szStringS_cc <;> assumption) | (apply laws_szMember_cc <;> assumption) | (apply laws_szMemberS_cc <;> assumption) | (apply laws_szTypeS_cc <;> assumption) | (apply laws_szSpace_cc <;> assumption) | (apply laws_szDataset_cc <;> assumption)))) | (apply laws_szStringS_cc <;> assumption) | (apply laws_szMember_cc <;> assumption) | (apply laws_szMemberS_cc <;> assumption) | (apply laws_szTypeS_cc <;> assumption) | (apply laws_szSpace_cc <;> assumption) | (apply laws_szDataset_cc <;> assumption)) ?_
    refine Tr.n (by simp [impl_SameType_rv, laws_eqFilter_v, laws_eqType_rv, laws_szType_rv, laws_toType_rv, spec_SameType_rv]) ?_
    rw [Tr.val_ok, wrap64 (i := (i : Int) + 1) (by omega) (by omega)]; rfl
  · show (laws_eqFilterS_4_step A A (A.length : Int)).val = _
    refine Tr.n (by simp) ?_
    rfl
theorem laws_eqFilterS_is4 : LoopIs tab FT D43 live 79 laws_eqFilterS_lo 0 4 := by
  refine loop_told (sl := laws_eqFilterS_4_sl) (step := laws_eqFilterS_4_st) (out := laws_eqFilterS_4_out) (lor := laws_eqFilterS_lo4) (fin := fun x => (laws_eqFilterS_4_fin (x.1) (x.2.1) (x.2.2))) (fun _ => rfl) ?_ (fun x n => laws_eqFilterS_4_r x.1 x.2.1 x.2.2 n) (fun x ow => laws_eqFilterS_4_h x.1 x.2.1 x.2.2 ow)
  intro s t h
  unfold laws_eqFilterS_lo4 at h
  split at h
  · cases h; exact ⟨(_, _, _), rfl, rfl⟩
  · cases h
noncomputable def laws_eqFilterS_t (A : List (List TC)) (C : List (List TC)) : Tr (Bool) := (.ite ((!((A.length : Int) == (C.length : Int))) = true) (.ok false)
  (.ite ((laws_eqFilterS_o4_1 A C (0 : Int)) = true) (.ok true)
   .no))
def laws_eqFilterS_mk (p : Bool) : Res := [(false, [⟨.bool, .sh, TC.b p⟩])]
noncomputable def laws_eqFilterS_c (A : List (List TC)) (C : List (List TC)) : Bool := is (A = C ∧ Typed tab (.slice 122) (.l A))
noncomputable def laws_eqFilterS_v (A : List (List TC)) (C : List (List TC)) : Bool := true
theorem laws_eqFilterS_l (A : List (List TC)) (C : List (List TC)) : (laws_eqFilterS_c A C) = true → (laws_eqFilterS_t A C).val = some (laws_eqFilterS_v A C) := by
  intro h
  obtain ⟨rfl, ht⟩ := is_iff.1 h
  unfold laws_eqFilterS_t
  refine Tr.n (by simp) ?_
  refine Tr.t (is_true ⟨rfl, ht, rfl⟩) ?_
  rfl
noncomputable def laws_eqFilterS_S : List Arg → Option (Bool × Res) := fun xs => match xs with
  | [(false, [(.slice 122, TC.l A)]), (false, [(.slice 122, TC.l C)])] => some ((laws_eqFilterS_c A C), laws_eqFilterS_mk (laws_eqFilterS_v A C))
  | _ => .none
theorem laws_eqFilterS_e (A : List (List TC)) (C : List (List TC)) : runF tab FT D43 live 79 laws_eqFilterS_lo [(false, [(.slice 122, TC.l A)]), (false, [(.slice 122, TC.l C)])] = (laws_eqFilterS_t A C).run fun p => some (laws_eqFilterS_mk p) := by kernel_rfl
theorem laws_eqFilterS_s : ∀ xs r, laws_eqFilterS_S xs = some (true, r) → runF tab FT D43 live 79 laws_eqFilterS_lo xs = some r := by
  intro xs r h
  unfold laws_eqFilterS_S at h
  split at h
  · simp only [Option.some.injEq, Prod.mk.injEq] at h
    obtain ⟨h1, rfl⟩ := h
    exact fun_told (laws_eqFilterS_e _ _) (laws_eqFilterS_l _ _) h1
  · cases h
noncomputable def D44 : Dt := also D43 79 laws_eqFilterS_S
theorem d44 : DOk Go.Proofs.Try.prog tab D44 := d43.also mixed_ok tab_ok names_ok (fnLoops_one (by kernel_rfl) laws_eqFilterS_is4) laws_eqFilterS_s
/-! laws_eqDataset -/
noncomputable def laws_eqDataset_t (x0 : Int) (x1 : Int) (x2 : Bool) (x3 : Bool) (x4 : List (List TC)) (x5 : List (List TC)) (x6 : List (List TC)) (x7 : List (List TC)) (x8 : Int) (x9 : List (List TC)) (x10 : List (List TC)) (x11 : List (List TC)) (x12 : List (List TC)) (x13 : List UInt8) (x14 : Int) (y0 : Int) (y1 : Int) (y2 : Bool) (y3 : Bool) (y4 : List (List TC)) (y5 : List (List TC)) (y6 : List (List TC)) (y7 : List (List TC)) (y8 : Int) (y9 : List (List TC)) (y10 : List (List TC)) (y11 : List (List TC)) (y12 : List (List TC)) (y13 : List UInt8) (y14 : Int) : Tr (Bool) := (.ite ((laws_eqType_rc x0 x1 x2 x3 x4 x5 x6 x7 x8 y0 y1 y2 y3 y4 y5 y6 y7 y8) = true) (.ite ((!(laws_eqType_rv x0 x1 x2 x3 x4 x5 x6 x7 x8 y0 y1 y2 y3 y4 y5 y6 y7 y8)) = true) (.ok false)
   (.ite ((laws_eqSpace_c x9 x10 y9 y10) = true) (.ite ((!(laws_eqSpace_v x9 x10 y9 y10)) = true) (.ok false)
     (.ite ((laws_eqInt64S_c x11 y11) = true) (.ite ((!(laws_eqInt64S_v x11 y11)) = true) (.ok false)
       (.ite ((laws_eqFilterS_c x12 y12) = true) (.ite ((!(laws_eqFilterS_v x12 y12)) = true) (.ok false)
         (.ite ((!(x13 == y13)) = true) (.ok false)
          (.ite ((!(x14 == y14)) = true) (.ok false)
           (.ok true))))
        .no))
      .no))
    .no))
  .no)
def laws_eqDataset_mk (p : Bool) : Res := [(false, [⟨.bool, .sh, TC.b p⟩])]
noncomputable def laws_eqDataset_c (x0 : Int) (x1 : Int) (x2 : Bool) (x3 : Bool) (x4 : List (List TC)) (x5 : List (List TC)) (x6 : List (List TC)) (x7 : List (List TC)) (x8 : Int) (x9 : List (List TC)) (x10 : List (List TC)) (x11 : List (List TC)) (x12 : List (List TC)) (x13 : List UInt8) (x14 : Int) (y0 : Int) (y1 : Int) (y2 : Bool) (y3 : Bool) (y4 : List (List TC)) (y5 : List (List TC)) (y6 : List (List TC)) (y7 : List (List TC)) (y8 : Int) (y9 : List (List TC)) (y10 : List (List TC)) (y11 : List (List TC)) (y12 : List (List TC)) (y13 : List UInt8) (y14 : Int) : Bool := ((laws_eqType_rc x0 x1 x2 x3 x4 x5 x6 x7 x8 y0 y1 y2 y3 y4 y5 y6 y7 y8) && (bif (!(laws_eqType_rv x0 x1 x2 x3 x4 x5 x6 x7 x8 y0 y1 y2 y3 y4 y5 y6 y7 y8)) then true else ((laws_eqSpace_c x9 x10 y9 y10) && (bif (!(laws_eqSpace_v x9 x10 y9 y10)) then true else ((laws_eqInt64S_c x11 y11) && (bif (!(laws_eqInt64S_v x11 y11)) then true else ((laws_eqFilterS_c x12 y12) && (bif (!(laws_eqFilterS_v x12 y12)) then true else (bif (!(x13 == y13)) then true else (bif (!(x14 == y14)) then true else true))))))))))
noncomputable def laws_eqDataset_v (x0 : Int) (x1 : Int) (x2 : Bool) (x3 : Bool) (x4 : List (List TC)) (x5 : List (List TC)) (x6 : List (List TC)) (x7 : List (List TC)) (x8 : Int) (x9 : List (List TC)) (x10 : List (List TC)) (x11 : List (List TC)) (x12 : List (List TC)) (x13 : List UInt8) (x14 : Int) (y0 : Int) (y1 : Int) (y2 : Bool) (y3 : Bool) (y4 : List (List TC)) (y5 : List (List TC)) (y6 : List (List TC)) (y7 : List (List TC)) (y8 : Int) (y9 : List (List TC)) (y10 : List (List TC)) (y11 : List (List TC)) (y12 : List (List TC)) (y13 : List UInt8) (y14 : Int) : Bool := (bif (!(laws_eqType_rv x0 x1 x2 x3 x4 x5 x6 x7 x8 y0 y1 y2 y3 y4 y5 y6 y7 y8)) then false else (bif (!(laws_eqSpace_v x9 x10 y9 y10)) then false else (bif (!(laws_eqInt64S_v x11 y11)) then false else (bif (!(laws_eqFilterS_v x12 y12)) then false else (bif (!(x13 == y13)) then false else (bif (!(x14 == y14)) then false else true))))))
theorem laws_eqDataset_l (x0 : Int) (x1 : Int) (x2 : Bool) (x3 : Bool) (x4 : List (List TC)) (x5 : List (List TC)) (x6 : List (List TC)) (x7 : List (List TC)) (x8 : Int) (x9 : List (List TC)) (x10 : List (List TC)) (x11 : List (List TC)) (x12 : List (List TC)) (x13 : List UInt8) (x14 : Int) (y0 : Int) (y1 : Int) (y2 : Bool) (y3 : Bool) (y4 : List (List TC)) (y5 : List (List TC)) (y6 : List (List TC)) (y7 : List (List TC)) (y8 : Int) (y9 : List (List TC)) (y10 : List (List TC)) (y11 : List (List TC)) (y12 : List (List TC)) (y13 : List UInt8) (y14 : Int) : (laws_eqDataset_c x0 x1 x2 x3 x4 x5 x6 x7 x8 x9 x10 x11 x12 x13 x14 y0 y1 y2 y3 y4 y5 y6 y7 y8 y9 y10 y11 y12 y13 y14) = true → (laws_eqDataset_t x0 x1 x2 x3 x4 x5 x6 x7 x8 x9 x10 x11 x12 x13 x14 y0 y1 y2 y3 y4 y5 y6 y7 y8 y9 y10 y11 y12 y13 y14).val = some (laws_eqDataset_v x0 x1 x2 x3 x4 x5 x6 x7 x8 x9 x10 x11 x12 x13 x14 y0 y1 y2 y3 y4 y5 y6 y7 y8 y9 y10 y11 y12 y13 y14) := by
  unfold laws_eqDataset_t laws_eqDataset_v laws_eqDataset_c
  exact fun h => (Tr.gb h fun h => (Tr.ss h (fun h => rfl) (fun h => (Tr.gb h fun h => (Tr.ss h (fun h => rfl) (fun h => (Tr.gb h fun h => (Tr.ss h (fun h => rfl) (fun h => (Tr.gb h fun h => (Tr.ss h (fun h => rfl) (fun h => (Tr.ss h (fun h => rfl) (fun h => (Tr.ss h (fun h => rfl) (fun h => rfl))))))))))))))))
noncomputable def laws_eqDataset_S : List Arg → Option (Bool × Res) := fun xs => match xs with
  | [(true, [(.int .i64, TC.i x0), (.int .i64, TC.i x1), (.bool, TC.b x2), (.bool, TC.b x3), (.slice 9, TC.l x4), (.slice 2, TC.l x5), (.slice 147, TC.l x6), (.slice 55, TC.l x7), (.int .i64, TC.i x8), (.slice 2, TC.l x9), (.slice 2, TC.l x10), (.slice 2, TC.l x11), (.slice 122, TC.l x12), (.str, TC.s x13), (.int .i64, TC.i x14)]), (true, [(.int .i64, TC.i y0), (.int .i64, TC.i y1), (.bool, TC.b y2), (.bool, TC.b y3), (.slice 9, TC.l y4), (.slice 2, TC.l y5), (.slice 147, TC.l y6), (.slice 55, TC.l y7), (.int .i64, TC.i y8), (.slice 2, TC.l y9), (.slice 2, TC.l y10), (.slice 2, TC.l y11), (.slice 122, TC.l y12), (.str, TC.s y13), (.int .i64, TC.i y14)])] => some ((laws_eqDataset_c x0 x1 x2 x3 x4 x5 x6 x7 x8 x9 x10 x11 x12 x13 x14 y0 y1 y2 y3 y4 y5 y6 y7 y8 y9 y10 y11 y12 y13 y14), laws_eqDataset_mk (laws_eqDataset_v x0 x1 x2 x3 x4 x5 x6 x7 x8 x9 x10 x11 x12 x13 x14 y0 y1 y2 y3 y4 y5 y6 y7 y8 y9 y10 y11 y12 y13 y14))
  | _ => .none
theorem laws_eqDataset_e (x0 : Int) (x1 : Int) (x2 : Bool) (x3 : Bool) (x4 : List (List TC)) (x5 : List (List TC)) (x6 : List (List TC)) (x7 : List (List TC)) (x8 : Int) (x9 : List (List TC)) (x10 : List (List TC)) (x11 : List (List TC)) (x12 : List (List TC)) (x13 : List UInt8) (x14 : Int) (y0 : Int) (y1 : Int) (y2 : Bool) (y3 : Bool) (y4 : List (List TC)) (y5 : List (List TC)) (y6 : List (List TC)) (y7 : List (List TC)) (y8 : Int) (y9 : List (List TC)) (y10 : List (List TC)) (y11 : List (List TC)) (y12 : List (List TC)) (y13 : List UInt8) (y14 : Int) : runF tab FT D44 live 31 noLoops [(true, [(.int .i64, TC.i x0), (.int .i64, TC.i x1), (.bool, TC.b x2), (.bool, TC.b x3), (.slice 9, TC.l x4), (.slice 2, TC.l x5), (.slice 147, TC.l x6), (.slice 55, TC.l x7), (.int .i64, TC.i x8), (.slice 2, TC.l x9), (.slice 2, TC.l x10), (.slice 2, TC.l x11), (.slice 122, TC.l x12), (.str, TC.s x13), (.int .i64, TC.i x14)]), (true, [(.int .i64, TC.i y0), (.int .i64, TC.i y1), (.bool, TC.b y2), (.bool, TC.b y3), (.slice 9, TC.l y4), (.slice 2, TC.l y5), (.slice 147, TC.l y6), (.slice 55, TC.l y7), (.int .i64, TC.i y8), (.slice 2, TC.l y9), (.slice 2, TC.l y10), (.slice 2, TC.l y11), (.slice 122, TC.l y12), (.str, TC.s y13), (.int .i64, TC.i y14)])] = (laws_eqDataset_t x0 x1 x2 x3 x4 x5 x6 x7 x8 x9 x10 x11 x12 x13 x14 y0 y1 y2 y3 y4 y5 y6 y7 y8 y9 y10 y11 y12 y13 y14).run fun p => some (laws_eqDataset_mk p) := by kernel_rfl
theorem laws_eqDataset_s : ∀ xs r, laws_eqDataset_S xs = some (true, r) → runF tab FT D44 live 31 noLoops xs = some r := by
  intro xs r h
  unfold laws_eqDataset_S at h
  split at h
  · simp only [Option.some.injEq, Prod.mk.injEq] at h
    obtain ⟨h1, rfl⟩ := h
    exact fun_told (laws_eqDataset_e _ _ _ _ _ _ _ _ _ _ _ _ _ _ _ _ _ _ _ _ _ _ _ _ _ _ _ _ _ _) (laws_eqDataset_l _ _ _ _ _ _ _ _ _ _ _ _ _ _ _ _ _ _ _ _ _ _ _ _ _ _ _ _ _ _) h1
  · cases h
noncomputable def D45 : Dt := also D44 31 laws_eqDataset_S
theorem d45 : DOk Go.Proofs.Try.prog tab D45 := d44.also mixed_ok tab_ok names_ok noLoops_ok laws_eqDataset_s
theorem laws_eqDataset_cc {x0 : Int} {x1 : Int} {x2 : Bool} {x3 : Bool} {x4 : List (List TC)} {x5 : List (List TC)} {x6 : List (List TC)} {x7 : List (List TC)} {x8 : Int} {x9 : List (List TC)} {x10 : List (List TC)} {x11 : List (List TC)} {x12 : List (List TC)} {x13 : List UInt8} {x14 : Int} (h0 : (laws_eqType_rc x0 x1 x2 x3 x4 x5 x6 x7 x8 x0 x1 x2 x3 x4 x5 x6 x7 x8) = true) (h1 : (laws_eqSpace_c x9 x10 x9 x10) = true) (h2 : (laws_eqInt64S_c x11 x11) = true) (h3 : (laws_eqFilterS_c x12 x12) = true) : (laws_eqDataset_c x0 x1 x2 x3 x4 x5 x6 x7 x8 x9 x10 x11 x12 x13 x14 x0 x1 x2 x3 x4 x5 x6 x7 x8 x9 x10 x11 x12 x13 x14) = true := by
  unfold laws_eqDataset_c
  simp [h0, h1, h2, h3, laws_szType_rv, laws_toType_rv, spec_SameType_rv, impl_SameType_rv, laws_eqType_rv]
/-! the law -/
noncomputable def laws_FnExactSameDataset_t (x0 : Int) (x1 : Int) (x2 : Bool) (x3 : Bool) (x4 : List (List TC)) (x5 : List (List TC)) (x6 : List (List TC)) (x7 : List (List TC)) (x8 : Int) (x9 : List (List TC)) (x10 : List (List TC)) (x11 : List (List TC)) (x12 : List (List TC)) (x13 : List UInt8) (x14 : Int) (x15 : Int) (x16 : Int) (x17 : Bool) (x18 : Bool) (x19 : List (List TC)) (x20 : List (List TC)) (x21 : List (List TC)) (x22 : List (List TC)) (x23 : Int) (x24 : List (List TC)) (x25 : List (List TC)) (x26 : List (List TC)) (x27 : List (List TC)) (x28 : List UInt8) (x29 : Int) : Tr Bool := (.ite ((laws_szDataset_c x0 x1 x2 x3 x4 x5 x6 x7 x8 x9 x10 x11 x12 x13 x14 (1048576 : Int)) = true) (.ite ((decide ((laws_szDataset_v x0 x1 x2 x3 x4 x5 x6 x7 x8 x9 x10 x11 x12 x13 x14 (1048576 : Int)) < (0 : Int))) = true) (.ok true)
   (.ite ((laws_szDataset_c x15 x16 x17 x18 x19 x20 x21 x22 x23 x24 x25 x26 x27 x28 x29 (laws_szDataset_v x0 x1 x2 x3 x4 x5 x6 x7 x8 x9 x10 x11 x12 x13 x14 (1048576 : Int))) = true) (.ite ((decide ((laws_szDataset_v x15 x16 x17 x18 x19 x20 x21 x22 x23 x24 x25 x26 x27 x28 x29 (laws_szDataset_v x0 x1 x2 x3 x4 x5 x6 x7 x8 x9 x10 x11 x12 x13 x14 (1048576 : Int))) < (0 : Int))) = true) (.ok true)
     (.ite ((laws_toDataset_c x0 x1 x2 x3 x4 x5 x6 x7 x8 x9 x10 x11 x12 x13 x14) = true) (.ite ((laws_toDataset_c x15 x16 x17 x18 x19 x20 x21 x22 x23 x24 x25 x26 x27 x28 x29) = true) (.ite ((spec_SameDataset_c ((laws_toDataset_v x0 x1 x2 x3 x4 x5 x6 x7 x8 x9 x10 x11 x12 x13 x14).1) ((laws_toDataset_v x0 x1 x2 x3 x4 x5 x6 x7 x8 x9 x10 x11 x12 x13 x14).2.1) ((laws_toDataset_v x0 x1 x2 x3 x4 x5 x6 x7 x8 x9 x10 x11 x12 x13 x14).2.2.1) ((laws_toDataset_v x0 x1 x2 x3 x4 x5 x6 x7 x8 x9 x10 x11 x12 x13 x14).2.2.2.1) ((laws_toDataset_v x0 x1 x2 x3 x4 x5 x6 x7 x8 x9 x10 x11 x12 x13 x14).2.2.2.2.1) ((laws_toDataset_v x0 x1 x2 x3 x4 x5 x6 x7 x8 x9 x10 x11 x12 x13 x14).2.2.2.2.2.1) ((laws_toDataset_v x0 x1 x2 x3 x4 x5 x6 x7 x8 x9 x10 x11 x12 x13 x14).2.2.2.2.2.2.1) ((laws_toDataset_v x0 x1 x2 x3 x4 x5 x6 x7 x8 x9 x10 x11 x12 x13 x14).2.2.2.2.2.2.2.1) ((laws_toDataset_v x0 x1 x2 x3 x4 x5 x6 x7 x8 x9 x10 x11 x12 x13 x14).2.2.2.2.2.2.2.2.1) ((laws_toDataset_v x0 x1 x2 x3 x4 x5 x6 x7 x8 x9 x10 x11 x12 x13 x14).2.2.2.2.2.2.2.2.2.1) ((laws_toDataset_v x0 x1 x2 x3 x4 x5 x6 x7 x8 x9 x10 x11 x12 x13 x14).2.2.2.2.2.2.2.2.2.2.1) ((laws_toDataset_v x0 x1 x2 x3 x4 x5 x6 x7 x8 x9 x10 x11 x12 x13 x14).2.2.2.2.2.2.2.2.2.2.2.1) ((laws_toDataset_v x0 x1 x2 x3 x4 x5 x6 x7 x8 x9 x10 x11 x12 x13 x14).2.2.2.2.2.2.2.2.2.2.2.2.1) ((laws_toDataset_v x0 x1 x2 x3 x4 x5 x6 x7 x8 x9 x10 x11 x12 x13 x14).2.2.2.2.2.2.2.2.2.2.2.2.2.1) ((laws_toDataset_v x0 x1 x2 x3 x4 x5 x6 x7 x8 x9 x10 x11 x12 x13 x14).2.2.2.2.2.2.2.2.2.2.2.2.2.2) ((laws_toDataset_v x15 x16 x17 x18 x19 x20 x21 x22 x23 x24 x25 x26 x27 x28 x29).1) ((laws_toDataset_v x15 x16 x17 x18 x19 x20 x21 x22 x23 x24 x25 x26 x27 x28 x29).2.1) ((laws_toDataset_v x15 x16 x17 x18 x19 x20 x21 x22 x23 x24 x25 x26 x27 x28 x29).2.2.1) ((laws_toDataset_v x15 x16 x17 x18 x19 x20 x21 x22 x23 x24 x25 x26 x27 x28 x29).2.2.2.1) ((laws_toDataset_v x15 x16 x17 x18 x19 x20 x21 x22 x23 x24 x25 x26 x27 x28 x29).2.2.2.2.1) ((laws_toDataset_v x15 x16 x17 x18 x19 x20 x21 x22 x23 x24 x25 x26 x27 x28 x29).2.2.2.2.2.1) ((laws_toDataset_v x15 x16 x17 x18 x19 x20 x21 x22 x23 x24 x25 x26 x27 x28 x29).2.2.2.2.2.2.1) ((laws_toDataset_v x15 x16 x17 x18 x19 x20 x21 x22 x23 x24 x25 x26 x27 x28 x29).2.2.2.2.2.2.2.1) ((laws_toDataset_v x15 x16 x17 x18 x19 x20 x21 x22 x23 x24 x25 x26 x27 x28 x29).2.2.2.2.2.2.2.2.1) ((laws_toDataset_v x15 x16 x17 x18 x19 x20 x21 x22 x23 x24 x25 x26 x27 x28 x29).2.2.2.2.2.2.2.2.2.1) ((laws_toDataset_v x15 x16 x17 x18 x19 x20 x21 x22 x23 x24 x25 x26 x27 x28 x29).2.2.2.2.2.2.2.2.2.2.1) ((laws_toDataset_v x15 x16 x17 x18 x19 x20 x21 x22 x23 x24 x25 x26 x27 x28 x29).2.2.2.2.2.2.2.2.2.2.2.1) ((laws_toDataset_v x15 x16 x17 x18 x19 x20 x21 x22 x23 x24 x25 x26 x27 x28 x29).2.2.2.2.2.2.2.2.2.2.2.2.1) ((laws_toDataset_v x15 x16 x17 x18 x19 x20 x21 x22 x23 x24 x25 x26 x27 x28 x29).2.2.2.2.2.2.2.2.2.2.2.2.2.1) ((laws_toDataset_v x15 x16 x17 x18 x19 x20 x21 x22 x23 x24 x25 x26 x27 x28 x29).2.2.2.2.2.2.2.2.2.2.2.2.2.2)) = true) (.ite ((laws_toDataset_c x0 x1 x2 x3 x4 x5 x6 x7 x8 x9 x10 x11 x12 x13 x14) = true) (.ite ((laws_toDataset_c x15 x16 x17 x18 x19 x20 x21 x22 x23 x24 x25 x26 x27 x28 x29) = true) (.ite ((impl_SameDataset_c ((laws_toDataset_v x0 x1 x2 x3 x4 x5 x6 x7 x8 x9 x10 x11 x12 x13 x14).1) ((laws_toDataset_v x0 x1 x2 x3 x4 x5 x6 x7 x8 x9 x10 x11 x12 x13 x14).2.1) ((laws_toDataset_v x0 x1 x2 x3 x4 x5 x6 x7 x8 x9 x10 x11 x12 x13 x14).2.2.1) ((laws_toDataset_v x0 x1 x2 x3 x4 x5 x6 x7 x8 x9 x10 x11 x12 x13 x14).2.2.2.1) ((laws_toDataset_v x0 x1 x2 x3 x4 x5 x6 x7 x8 x9 x10 x11 x12 x13 x14).2.2.2.2.1) ((laws_toDataset_v x0 x1 x2 x3 x4 x5 x6 x7 x8 x9 x10 x11 x12 x13 x14).2.2.2.2.2.1) ((laws_toDataset_v x0 x1 x2 x3 x4 x5 x6 x7 x8 x9 x10 x11 x12 x13 x14).2.2.2.2.2.2.1) ((laws_toDataset_v x0 x1 x2 x3 x4 x5 x6 x7 x8 x9 x10 x11 x12 x13 x14).2.2.2.2.2.2.2.1) ((laws_toDataset_v x0 x1 x2 x3 x4 x5 x6 x7 x8 x9 x10 x11 x12 x13 x14).2.2.2.2.2.2.2.2.1) ((laws_toDataset_v x0 x1 x2 x3 x4 x5 x6 x7 x8 x9 x10 x11 x12 x13 x14).2.2.2.2.2.2.2.2.2.1) ((laws_toDataset_v x0 x1 x2 x3 x4 x5 x6 x7 x8 x9 x10 x11 x12 x13 x14).2.2.2.2.2.2.2.2.2.2.1) ((laws_toDataset_v x0 x1 x2 x3 x4 x5 x6 x7 x8 x9 x10 x11 x12 x13 x14).2.2.2.2.2.2.2.2.2.2.2.1) ((laws_toDataset_v x0 x1 x2 x3 x4 x5 x6 x7 x8 x9 x10 x11 x12 x13 x14).2.2.2.2.2.2.2.2.2.2.2.2.1) ((laws_toDataset_v x0 x1 x2 x3 x4 x5 x6 x7 x8 x9 x10 x11 x12 x13 x14).2.2.2.2.2.2.2.2.2.2.2.2.2.1) ((laws_toDataset_v x0 x1 x2 x3 x4 x5 x6 x7 x8 x9 x10 x11 x12 x13 x14).2.2.2.2.2.2.2.2.2.2.2.2.2.2) ((laws_toDataset_v x15 x16 x17 x18 x19 x20 x21 x22 x23 x24 x25 x26 x27 x28 x29).1) ((laws_toDataset_v x15 x16 x17 x18 x19 x20 x21 x22 x23 x24 x25 x26 x27 x28 x29).2.1) ((laws_toDataset_v x15 x16 x17 x18 x19 x20 x21 x22 x23 x24 x25 x26 x27 x28 x29).2.2.1) ((laws_toDataset_v x15 x16 x17 x18 x19 x20 x21 x22 x23 x24 x25 x26 x27 x28 x29).2.2.2.1) ((laws_toDataset_v x15 x16 x17 x18 x19 x20 x21 x22 x23 x24 x25 x26 x27 x28 x29).2.2.2.2.1) ((laws_toDataset_v x15 x16 x17 x18 x19 x20 x21 x22 x23 x24 x25 x26 x27 x28 x29).2.2.2.2.2.1) ((laws_toDataset_v x15 x16 x17 x18 x19 x20 x21 x22 x23 x24 x25 x26 x27 x28 x29).2.2.2.2.2.2.1) ((laws_toDataset_v x15 x16 x17 x18 x19 x20 x21 x22 x23 x24 x25 x26 x27 x28 x29).2.2.2.2.2.2.2.1) ((laws_toDataset_v x15 x16 x17 x18 x19 x20 x21 x22 x23 x24 x25 x26 x27 x28 x29).2.2.2.2.2.2.2.2.1) ((laws_toDataset_v x15 x16 x17 x18 x19 x20 x21 x22 x23 x24 x25 x26 x27 x28 x29).2.2.2.2.2.2.2.2.2.1) ((laws_toDataset_v x15 x16 x17 x18 x19 x20 x21 x22 x23 x24 x25 x26 x27 x28 x29).2.2.2.2.2.2.2.2.2.2.1) ((laws_toDataset_v x15 x16 x17 x18 x19 x20 x21 x22 x23 x24 x25 x26 x27 x28 x29).2.2.2.2.2.2.2.2.2.2.2.1) ((laws_toDataset_v x15 x16 x17 x18 x19 x20 x21 x22 x23 x24 x25 x26 x27 x28 x29).2.2.2.2.2.2.2.2.2.2.2.2.1) ((laws_toDataset_v x15 x16 x17 x18 x19 x20 x21 x22 x23 x24 x25 x26 x27 x28 x29).2.2.2.2.2.2.2.2.2.2.2.2.2.1) ((laws_toDataset_v x15 x16 x17 x18 x19 x20 x21 x22 x23 x24 x25 x26 x27 x28 x29).2.2.2.2.2.2.2.2.2.2.2.2.2.2)) = true) (.ite ((!((impl_SameDataset_v ((laws_toDataset_v x0 x1 x2 x3 x4 x5 x6 x7 x8 x9 x10 x11 x12 x13 x14).1) ((laws_toDataset_v x0 x1 x2 x3 x4 x5 x6 x7 x8 x9 x10 x11 x12 x13 x14).2.1) ((laws_toDataset_v x0 x1 x2 x3 x4 x5 x6 x7 x8 x9 x10 x11 x12 x13 x14).2.2.1) ((laws_toDataset_v x0 x1 x2 x3 x4 x5 x6 x7 x8 x9 x10 x11 x12 x13 x14).2.2.2.1) ((laws_toDataset_v x0 x1 x2 x3 x4 x5 x6 x7 x8 x9 x10 x11 x12 x13 x14).2.2.2.2.1) ((laws_toDataset_v x0 x1 x2 x3 x4 x5 x6 x7 x8 x9 x10 x11 x12 x13 x14).2.2.2.2.2.1) ((laws_toDataset_v x0 x1 x2 x3 x4 x5 x6 x7 x8 x9 x10 x11 x12 x13 x14).2.2.2.2.2.2.1) ((laws_toDataset_v x0 x1 x2 x3 x4 x5 x6 x7 x8 x9 x10 x11 x12 x13 x14).2.2.2.2.2.2.2.1) ((laws_toDataset_v x0 x1 x2 x3 x4 x5 x6 x7 x8 x9 x10 x11 x12 x13 x14).2.2.2.2.2.2.2.2.1) ((laws_toDataset_v x0 x1 x2 x3 x4 x5 x6 x7 x8 x9 x10 x11 x12 x13 x14).2.2.2.2.2.2.2.2.2.1) ((laws_toDataset_v x0 x1 x2 x3 x4 x5 x6 x7 x8 x9 x10 x11 x12 x13 x14).2.2.2.2.2.2.2.2.2.2.1) ((laws_toDataset_v x0 x1 x2 x3 x4 x5 x6 x7 x8 x9 x10 x11 x12 x13 x14).2.2.2.2.2.2.2.2.2.2.2.1) ((laws_toDataset_v x0 x1 x2 x3 x4 x5 x6 x7 x8 x9 x10 x11 x12 x13 x14).2.2.2.2.2.2.2.2.2.2.2.2.1) ((laws_toDataset_v x0 x1 x2 x3 x4 x5 x6 x7 x8 x9 x10 x11 x12 x13 x14).2.2.2.2.2.2.2.2.2.2.2.2.2.1) ((laws_toDataset_v x0 x1 x2 x3 x4 x5 x6 x7 x8 x9 x10 x11 x12 x13 x14).2.2.2.2.2.2.2.2.2.2.2.2.2.2) ((laws_toDataset_v x15 x16 x17 x18 x19 x20 x21 x22 x23 x24 x25 x26 x27 x28 x29).1) ((laws_toDataset_v x15 x16 x17 x18 x19 x20 x21 x22 x23 x24 x25 x26 x27 x28 x29).2.1) ((laws_toDataset_v x15 x16 x17 x18 x19 x20 x21 x22 x23 x24 x25 x26 x27 x28 x29).2.2.1) ((laws_toDataset_v x15 x16 x17 x18 x19 x20 x21 x22 x23 x24 x25 x26 x27 x28 x29).2.2.2.1) ((laws_toDataset_v x15 x16 x17 x18 x19 x20 x21 x22 x23 x24 x25 x26 x27 x28 x29).2.2.2.2.1) ((laws_toDataset_v x15 x16 x17 x18 x19 x20 x21 x22 x23 x24 x25 x26 x27 x28 x29).2.2.2.2.2.1) ((laws_toDataset_v x15 x16 x17 x18 x19 x20 x21 x22 x23 x24 x25 x26 x27 x28 x29).2.2.2.2.2.2.1) ((laws_toDataset_v x15 x16 x17 x18 x19 x20 x21 x22 x23 x24 x25 x26 x27 x28 x29).2.2.2.2.2.2.2.1) ((laws_toDataset_v x15 x16 x17 x18 x19 x20 x21 x22 x23 x24 x25 x26 x27 x28 x29).2.2.2.2.2.2.2.2.1) ((laws_toDataset_v x15 x16 x17 x18 x19 x20 x21 x22 x23 x24 x25 x26 x27 x28 x29).2.2.2.2.2.2.2.2.2.1) ((laws_toDataset_v x15 x16 x17 x18 x19 x20 x21 x22 x23 x24 x25 x26 x27 x28 x29).2.2.2.2.2.2.2.2.2.2.1) ((laws_toDataset_v x15 x16 x17 x18 x19 x20 x21 x22 x23 x24 x25 x26 x27 x28 x29).2.2.2.2.2.2.2.2.2.2.2.1) ((laws_toDataset_v x15 x16 x17 x18 x19 x20 x21 x22 x23 x24 x25 x26 x27 x28 x29).2.2.2.2.2.2.2.2.2.2.2.2.1) ((laws_toDataset_v x15 x16 x17 x18 x19 x20 x21 x22 x23 x24 x25 x26 x27 x28 x29).2.2.2.2.2.2.2.2.2.2.2.2.2.1) ((laws_toDataset_v x15 x16 x17 x18 x19 x20 x21 x22 x23 x24 x25 x26 x27 x28 x29).2.2.2.2.2.2.2.2.2.2.2.2.2.2)) == (spec_SameDataset_v ((laws_toDataset_v x0 x1 x2 x3 x4 x5 x6 x7 x8 x9 x10 x11 x12 x13 x14).1) ((laws_toDataset_v x0 x1 x2 x3 x4 x5 x6 x7 x8 x9 x10 x11 x12 x13 x14).2.1) ((laws_toDataset_v x0 x1 x2 x3 x4 x5 x6 x7 x8 x9 x10 x11 x12 x13 x14).2.2.1) ((laws_toDataset_v x0 x1 x2 x3 x4 x5 x6 x7 x8 x9 x10 x11 x12 x13 x14).2.2.2.1) ((laws_toDataset_v x0 x1 x2 x3 x4 x5 x6 x7 x8 x9 x10 x11 x12 x13 x14).2.2.2.2.1) ((laws_toDataset_v x0 x1 x2 x3 x4 x5 x6 x7 x8 x9 x10 x11 x12 x13 x14).2.2.2.2.2.1) ((laws_toDataset_v x0 x1 x2 x3 x4 x5 x6 x7 x8 x9 x10 x11 x12 x13 x14).2.2.2.2.2.2.1) ((laws_toDataset_v x0 x1 x2 x3 x4 x5 x6 x7 x8 x9 x10 x11 x12 x13 x14).2.2.2.2.2.2.2.1) ((laws_toDataset_v x0 x1 x2 x3 x4 x5 x6 x7 x8 x9 x10 x11 x12 x13 x14).2.2.2.2.2.2.2.2.1) ((laws_toDataset_v x0 x1 x2 x3 x4 x5 x6 x7 x8 x9 x10 x11 x12 x13 x14).2.2.2.2.2.2.2.2.2.1) ((laws_toDataset_v x0 x1 x2 x3 x4 x5 x6 x7 x8 x9 x10 x11 x12 x13 x14).2.2.2.2.2.2.2.2.2.2.1) ((laws_toDataset_v x0 x1 x2 x3 x4 x5 x6 x7 x8 x9 x10 x11 x12 x13 x14).2.2.2.2.2.2.2.2.2.2.2.1) ((laws_toDataset_v x0 x1 x2 x3 x4 x5 x6 x7 x8 x9 x10 x11 x12 x13 x14).2.2.2.2.2.2.2.2.2.2.2.2.1) ((laws_toDataset_v x0 x1 x2 x3 x4 x5 x6 x7 x8 x9 x10 x11 x12 x13 x14).2.2.2.2.2.2.2.2.2.2.2.2.2.1) ((laws_toDataset_v x0 x1 x2 x3 x4 x5 x6 x7 x8 x9 x10 x11 x12 x13 x14).2.2.2.2.2.2.2.2.2.2.2.2.2.2) ((laws_toDataset_v x15 x16 x17 x18 x19 x20 x21 x22 x23 x24 x25 x26 x27 x28 x29).1) ((laws_toDataset_v x15 x16 x17 x18 x19 x20 x21 x22 x23 x24 x25 x26 x27 x28 x29).2.1) ((laws_toDataset_v x15 x16 x17 x18 x19 x20 x21 x22 x23 x24 x25 x26 x27 x28 x29).2.2.1) ((laws_toDataset_v x15 x16 x17 x18 x19 x20 x21 x22 x23 x24 x25 x26 x27 x28 x29).2.2.2.1) ((laws_toDataset_v x15 x16 x17 x18 x19 x20 x21 x22 x23 x24 x25 x26 x27 x28 x29).2.2.2.2.1) ((laws_toDataset_v x15 x16 x17 x18 x19 x20 x21 x22 x23 x24 x25 x26 x27 x28 x29).2.2.2.2.2.1) ((laws_toDataset_v x15 x16 x17 x18 x19 x20 x21 x22 x23 x24 x25 x26 x27 x28 x29).2.2.2.2.2.2.1) ((laws_toDataset_v x15 x16 x17 x18 x19 x20 x21 x22 x23 x24 x25 x26 x27 x28 x29).2.2.2.2.2.2.2.1) ((laws_toDataset_v x15 x16 x17 x18 x19 x20 x21 x22 x23 x24 x25 x26 x27 x28 x29).2.2.2.2.2.2.2.2.1) ((laws_toDataset_v x15 x16 x17 x18 x19 x20 x21 x22 x23 x24 x25 x26 x27 x28 x29).2.2.2.2.2.2.2.2.2.1) ((laws_toDataset_v x15 x16 x17 x18 x19 x20 x21 x22 x23 x24 x25 x26 x27 x28 x29).2.2.2.2.2.2.2.2.2.2.1) ((laws_toDataset_v x15 x16 x17 x18 x19 x20 x21 x22 x23 x24 x25 x26 x27 x28 x29).2.2.2.2.2.2.2.2.2.2.2.1) ((laws_toDataset_v x15 x16 x17 x18 x19 x20 x21 x22 x23 x24 x25 x26 x27 x28 x29).2.2.2.2.2.2.2.2.2.2.2.2.1) ((laws_toDataset_v x15 x16 x17 x18 x19 x20 x21 x22 x23 x24 x25 x26 x27 x28 x29).2.2.2.2.2.2.2.2.2.2.2.2.2.1) ((laws_toDataset_v x15 x16 x17 x18 x19 x20 x21 x22 x23 x24 x25 x26 x27 x28 x29).2.2.2.2.2.2.2.2.2.2.2.2.2.2)))) = true) (.ok false)
            (.ite ((laws_toDataset_c x0 x1 x2 x3 x4 x5 x6 x7 x8 x9 x10 x11 x12 x13 x14) = true) (.ite ((laws_eqDataset_c ((laws_toDataset_v x0 x1 x2 x3 x4 x5 x6 x7 x8 x9 x10 x11 x12 x13 x14).1) ((laws_toDataset_v x0 x1 x2 x3 x4 x5 x6 x7 x8 x9 x10 x11 x12 x13 x14).2.1) ((laws_toDataset_v x0 x1 x2 x3 x4 x5 x6 x7 x8 x9 x10 x11 x12 x13 x14).2.2.1) ((laws_toDataset_v x0 x1 x2 x3 x4 x5 x6 x7 x8 x9 x10 x11 x12 x13 x14).2.2.2.1) ((laws_toDataset_v x0 x1 x2 x3 x4 x5 x6 x7 x8 x9 x10 x11 x12 x13 x14).2.2.2.2.1) ((laws_toDataset_v x0 x1 x2 x3 x4 x5 x6 x7 x8 x9 x10 x11 x12 x13 x14).2.2.2.2.2.1) ((laws_toDataset_v x0 x1 x2 x3 x4 x5 x6 x7 x8 x9 x10 x11 x12 x13 x14).2.2.2.2.2.2.1) ((laws_toDataset_v x0 x1 x2 x3 x4 x5 x6 x7 x8 x9 x10 x11 x12 x13 x14).2.2.2.2.2.2.2.1) ((laws_toDataset_v x0 x1 x2 x3 x4 x5 x6 x7 x8 x9 x10 x11 x12 x13 x14).2.2.2.2.2.2.2.2.1) ((laws_toDataset_v x0 x1 x2 x3 x4 x5 x6 x7 x8 x9 x10 x11 x12 x13 x14).2.2.2.2.2.2.2.2.2.1) ((laws_toDataset_v x0 x1 x2 x3 x4 x5 x6 x7 x8 x9 x10 x11 x12 x13 x14).2.2.2.2.2.2.2.2.2.2.1) ((laws_toDataset_v x0 x1 x2 x3 x4 x5 x6 x7 x8 x9 x10 x11 x12 x13 x14).2.2.2.2.2.2.2.2.2.2.2.1) ((laws_toDataset_v x0 x1 x2 x3 x4 x5 x6 x7 x8 x9 x10 x11 x12 x13 x14).2.2.2.2.2.2.2.2.2.2.2.2.1) ((laws_toDataset_v x0 x1 x2 x3 x4 x5 x6 x7 x8 x9 x10 x11 x12 x13 x14).2.2.2.2.2.2.2.2.2.2.2.2.2.1) ((laws_toDataset_v x0 x1 x2 x3 x4 x5 x6 x7 x8 x9 x10 x11 x12 x13 x14).2.2.2.2.2.2.2.2.2.2.2.2.2.2) ((laws_toDataset_v x0 x1 x2 x3 x4 x5 x6 x7 x8 x9 x10 x11 x12 x13 x14).1) ((laws_toDataset_v x0 x1 x2 x3 x4 x5 x6 x7 x8 x9 x10 x11 x12 x13 x14).2.1) ((laws_toDataset_v x0 x1 x2 x3 x4 x5 x6 x7 x8 x9 x10 x11 x12 x13 x14).2.2.1) ((laws_toDataset_v x0 x1 x2 x3 x4 x5 x6 x7 x8 x9 x10 x11 x12 x13 x14).2.2.2.1) ((laws_toDataset_v x0 x1 x2 x3 x4 x5 x6 x7 x8 x9 x10 x11 x12 x13 x14).2.2.2.2.1) ((laws_toDataset_v x0 x1 x2 x3 x4 x5 x6 x7 x8 x9 x10 x11 x12 x13 x14).2.2.2.2.2.1) ((laws_toDataset_v x0 x1 x2 x3 x4 x5 x6 x7 x8 x9 x10 x11 x12 x13 x14).2.2.2.2.2.2.1) ((laws_toDataset_v x0 x1 x2 x3 x4 x5 x6 x7 x8 x9 x10 x11 x12 x13 x14).2.2.2.2.2.2.2.1) ((laws_toDataset_v x0 x1 x2 x3 x4 x5 x6 x7 x8 x9 x10 x11 x12 x13 x14).2.2.2.2.2.2.2.2.1) ((laws_toDataset_v x0 x1 x2 x3 x4 x5 x6 x7 x8 x9 x10 x11 x12 x13 x14).2.2.2.2.2.2.2.2.2.1) ((laws_toDataset_v x0 x1 x2 x3 x4 x5 x6 x7 x8 x9 x10 x11 x12 x13 x14).2.2.2.2.2.2.2.2.2.2.1) ((laws_toDataset_v x0 x1 x2 x3 x4 x5 x6 x7 x8 x9 x10 x11 x12 x13 x14).2.2.2.2.2.2.2.2.2.2.2.1) ((laws_toDataset_v x0 x1 x2 x3 x4 x5 x6 x7 x8 x9 x10 x11 x12 x13 x14).2.2.2.2.2.2.2.2.2.2.2.2.1) ((laws_toDataset_v x0 x1 x2 x3 x4 x5 x6 x7 x8 x9 x10 x11 x12 x13 x14).2.2.2.2.2.2.2.2.2.2.2.2.2.1) ((laws_toDataset_v x0 x1 x2 x3 x4 x5 x6 x7 x8 x9 x10 x11 x12 x13 x14).2.2.2.2.2.2.2.2.2.2.2.2.2.2)) = true) (.ite ((!(laws_eqDataset_v ((laws_toDataset_v x0 x1 x2 x3 x4 x5 x6 x7 x8 x9 x10 x11 x12 x13 x14).1) ((laws_toDataset_v x0 x1 x2 x3 x4 x5 x6 x7 x8 x9 x10 x11 x12 x13 x14).2.1) ((laws_toDataset_v x0 x1 x2 x3 x4 x5 x6 x7 x8 x9 x10 x11 x12 x13 x14).2.2.1) ((laws_toDataset_v x0 x1 x2 x3 x4 x5 x6 x7 x8 x9 x10 x11 x12 x13 x14).2.2.2.1) ((laws_toDataset_v x0 x1 x2 x3 x4 x5 x6 x7 x8 x9 x10 x11 x12 x13 x14).2.2.2.2.1) ((laws_toDataset_v x0 x1 x2 x3 x4 x5 x6 x7 x8 x9 x10 x11 x12 x13 x14).2.2.2.2.2.1) ((laws_toDataset_v x0 x1 x2 x3 x4 x5 x6 x7 x8 x9 x10 x11 x12 x13 x14).2.2.2.2.2.2.1) ((laws_toDataset_v x0 x1 x2 x3 x4 x5 x6 x7 x8 x9 x10 x11 x12 x13 x14).2.2.2.2.2.2.2.1) ((laws_toDataset_v x0 x1 x2 x3 x4 x5 x6 x7 x8 x9 x10 x11 x12 x13 x14).2.2.2.2.2.2.2.2.1) ((laws_toDataset_v x0 x1 x2 x3 x4 x5 x6 x7 x8 x9 x10 x11 x12 x13 x14).2.2.2.2.2.2.2.2.2.1) ((laws_toDataset_v x0 x1 x2 x3 x4 x5 x6 x7 x8 x9 x10 x11 x12 x13 x14).2.2.2.2.2.2.2.2.2.2.1) ((laws_toDataset_v x0 x1 x2 x3 x4 x5 x6 x7 x8 x9 x10 x11 x12 x13 x14).2.2.2.2.2.2.2.2.2.2.2.1) ((laws_toDataset_v x0 x1 x2 x3 x4 x5 x6 x7 x8 x9 x10 x11 x12 x13 x14).2.2.2.2.2.2.2.2.2.2.2.2.1) ((laws_toDataset_v x0 x1 x2 x3 x4 x5 x6 x7 x8 x9 x10 x11 x12 x13 x14).2.2.2.2.2.2.2.2.2.2.2.2.2.1) ((laws_toDataset_v x0 x1 x2 x3 x4 x5 x6 x7 x8 x9 x10 x11 x12 x13 x14).2.2.2.2.2.2.2.2.2.2.2.2.2.2) ((laws_toDataset_v x0 x1 x2 x3 x4 x5 x6 x7 x8 x9 x10 x11 x12 x13 x14).1) ((laws_toDataset_v x0 x1 x2 x3 x4 x5 x6 x7 x8 x9 x10 x11 x12 x13 x14).2.1) ((laws_toDataset_v x0 x1 x2 x3 x4 x5 x6 x7 x8 x9 x10 x11 x12 x13 x14).2.2.1) ((laws_toDataset_v x0 x1 x2 x3 x4 x5 x6 x7 x8 x9 x10 x11 x12 x13 x14).2.2.2.1) ((laws_toDataset_v x0 x1 x2 x3 x4 x5 x6 x7 x8 x9 x10 x11 x12 x13 x14).2.2.2.2.1) ((laws_toDataset_v x0 x1 x2 x3 x4 x5 x6 x7 x8 x9 x10 x11 x12 x13 x14).2.2.2.2.2.1) ((laws_toDataset_v x0 x1 x2 x3 x4 x5 x6 x7 x8 x9 x10 x11 x12 x13 x14).2.2.2.2.2.2.1) ((laws_toDataset_v x0 x1 x2 x3 x4 x5 x6 x7 x8 x9 x10 x11 x12 x13 x14).2.2.2.2.2.2.2.1) ((laws_toDataset_v x0 x1 x2 x3 x4 x5 x6 x7 x8 x9 x10 x11 x12 x13 x14).2.2.2.2.2.2.2.2.1) ((laws_toDataset_v x0 x1 x2 x3 x4 x5 x6 x7 x8 x9 x10 x11 x12 x13 x14).2.2.2.2.2.2.2.2.2.1) ((laws_toDataset_v x0 x1 x2 x3 x4 x5 x6 x7 x8 x9 x10 x11 x12 x13 x14).2.2.2.2.2.2.2.2.2.2.1) ((laws_toDataset_v x0 x1 x2 x3 x4 x5 x6 x7 x8 x9 x10 x11 x12 x13 x14).2.2.2.2.2.2.2.2.2.2.2.1) ((laws_toDataset_v x0 x1 x2 x3 x4 x5 x6 x7 x8 x9 x10 x11 x12 x13 x14).2.2.2.2.2.2.2.2.2.2.2.2.1) ((laws_toDataset_v x0 x1 x2 x3 x4 x5 x6 x7 x8 x9 x10 x11 x12 x13 x14).2.2.2.2.2.2.2.2.2.2.2.2.2.1) ((laws_toDataset_v x0 x1 x2 x3 x4 x5 x6 x7 x8 x9 x10 x11 x12 x13 x14).2.2.2.2.2.2.2.2.2.2.2.2.2.2))) = true) (.ok false)
               (.ite ((laws_toDataset_c x15 x16 x17 x18 x19 x20 x21 x22 x23 x24 x25 x26 x27 x28 x29) = true) (.ite ((laws_eqDataset_c ((laws_toDataset_v x15 x16 x17 x18 x19 x20 x21 x22 x23 x24 x25 x26 x27 x28 x29).1) ((laws_toDataset_v x15 x16 x17 x18 x19 x20 x21 x22 x23 x24 x25 x26 x27 x28 x29).2.1) ((laws_toDataset_v x15 x16 x17 x18 x19 x20 x21 x22 x23 x24 x25 x26 x27 x28 x29).2.2.1) ((laws_toDataset_v x15 x16 x17 x18 x19 x20 x21 x22 x23 x24 x25 x26 x27 x28 x29).2.2.2.1) ((laws_toDataset_v x15 x16 x17 x18 x19 x20 x21 x22 x23 x24 x25 x26 x27 x28 x29).2.2.2.2.1) ((laws_toDataset_v x15 x16 x17 x18 x19 x20 x21 x22 x23 x24 x25 x26 x27 x28 x29).2.2.2.2.2.1) ((laws_toDataset_v x15 x16 x17 x18 x19 x20 x21 x22 x23 x24 x25 x26 x27 x28 x29).2.2.2.2.2.2.1) ((laws_toDataset_v x15 x16 x17 x18 x19 x20 x21 x22 x23 x24 x25 x26 x27 x28 x29).2.2.2.2.2.2.2.1) ((laws_toDataset_v x15 x16 x17 x18 x19 x20 x21 x22 x23 x24 x25 x26 x27 x28 x29).2.2.2.2.2.2.2.2.1) ((laws_toDataset_v x15 x16 x17 x18 x19 x20 x21 x22 x23 x24 x25 x26 x27 x28 x29).2.2.2.2.2.2.2.2.2.1) ((laws_toDataset_v x15 x16 x17 x18 x19 x20 x21 x22 x23 x24 x25 x26 x27 x28 x29).2.2.2.2.2.2.2.2.2.2.1) ((laws_toDataset_v x15 x16 x17 x18 x19 x20 x21 x22 x23 x24 x25 x26 x27 x28 x29).2.2.2.2.2.2.2.2.2.2.2.1) ((laws_toDataset_v x15 x16 x17 x18 x19 x20 x21 x22 x23 x24 x25 x26 x27 x28 x29).2.2.2.2.2.2.2.2.2.2.2.2.1) ((laws_toDataset_v x15 x16 x17 x18 x19 x20 x21 x22 x23 x24 x25 x26 x27 x28 x29).2.2.2.2.2.2.2.2.2.2.2.2.2.1) ((laws_toDataset_v x15 x16 x17 x18 x19 x20 x21 x22 x23 x24 x25 x26 x27 x28 x29).2.2.2.2.2.2.2.2.2.2.2.2.2.2) ((laws_toDataset_v x15 x16 x17 x18 x19 x20 x21 x22 x23 x24 x25 x26 x27 x28 x29).1) ((laws_toDataset_v x15 x16 x17 x18 x19 x20 x21 x22 x23 x24 x25 x26 x27 x28 x29).2.1) ((laws_toDataset_v x15 x16 x17 x18 x19 x20 x21 x22 x23 x24 x25 x26 x27 x28 x29).2.2.1) ((laws_toDataset_v x15 x16 x17 x18 x19 x20 x21 x22 x23 x24 x25 x26 x27 x28 x29).2.2.2.1) ((laws_toDataset_v x15 x16 x17 x18 x19 x20 x21 x22 x23 x24 x25 x26 x27 x28 x29).2.2.2.2.1) ((laws_toDataset_v x15 x16 x17 x18 x19 x20 x21 x22 x23 x24 x25 x26 x27 x28 x29).2.2.2.2.2.1) ((laws_toDataset_v x15 x16 x17 x18 x19 x20 x21 x22 x23 x24 x25 x26 x27 x28 x29).2.2.2.2.2.2.1) ((laws_toDataset_v x15 x16 x17 x18 x19 x20 x21 x22 x23 x24 x25 x26 x27 x28 x29).2.2.2.2.2.2.2.1) ((laws_toDataset_v x15 x16 x17 x18 x19 x20 x21 x22 x23 x24 x25 x26 x27 x28 x29).2.2.2.2.2.2.2.2.1) ((laws_toDataset_v x15 x16 x17 x18 x19 x20 x21 x22 x23 x24 x25 x26 x27 x28 x29).2.2.2.2.2.2.2.2.2.1) ((laws_toDataset_v x15 x16 x17 x18 x19 x20 x21 x22 x23 x24 x25 x26 x27 x28 x29).2.2.2.2.2.2.2.2.2.2.1) ((laws_toDataset_v x15 x16 x17 x18 x19 x20 x21 x22 x23 x24 x25 x26 x27 x28 x29).2.2.2.2.2.2.2.2.2.2.2.1) ((laws_toDataset_v x15 x16 x17 x18 x19 x20 x21 x22 x23 x24 x25 x26 x27 x28 x29).2.2.2.2.2.2.2.2.2.2.2.2.1) ((laws_toDataset_v x15 x16 x17 x18 x19 x20 x21 x22 x23 x24 x25 x26 x27 x28 x29).2.2.2.2.2.2.2.2.2.2.2.2.2.1) ((laws_toDataset_v x15 x16 x17 x18 x19 x20 x21 x22 x23 x24 x25 x26 x27 x28 x29).2.2.2.2.2.2.2.2.2.2.2.2.2.2)) = true) (.ite ((!(laws_eqDataset_v ((laws_toDataset_v x15 x16 x17 x18 x19 x20 x21 x22 x23 x24 x25 x26 x27 x28 x29).1) ((laws_toDataset_v x15 x16 x17 x18 x19 x20 x21 x22 x23 x24 x25 x26 x27 x28 x29).2.1) ((laws_toDataset_v x15 x16 x17 x18 x19 x20 x21 x22 x23 x24 x25 x26 x27 x28 x29).2.2.1) ((laws_toDataset_v x15 x16 x17 x18 x19 x20 x21 x22 x23 x24 x25 x26 x27 x28 x29).2.2.2.1) ((laws_toDataset_v x15 x16 x17 x18 x19 x20 x21 x22 x23 x24 x25 x26 x27 x28 x29).2.2.2.2.1) ((laws_toDataset_v x15 x16 x17 x18 x19 x20 x21 x22 x23 x24 x25 x26 x27 x28 x29).2.2.2.2.2.1) ((laws_toDataset_v x15 x16 x17 x18 x19 x20 x21 x22 x23 x24 x25 x26 x27 x28 x29).2.2.2.2.2.2.1) ((laws_toDataset_v x15 x16 x17 x18 x19 x20 x21 x22 x23 x24 x25 x26 x27 x28 x29).2.2.2.2.2.2.2.1) ((laws_toDataset_v x15 x16 x17 x18 x19 x20 x21 x22 x23 x24 x25 x26 x27 x28 x29).2.2.2.2.2.2.2.2.1) ((laws_toDataset_v x15 x16 x17 x18 x19 x20 x21 x22 x23 x24 x25 x26 x27 x28 x29).2.2.2.2.2.2.2.2.2.1) ((laws_toDataset_v x15 x16 x17 x18 x19 x20 x21 x22 x23 x24 x25 x26 x27 x28 x29).2.2.2.2.2.2.2.2.2.2.1) ((laws_toDataset_v x15 x16 x17 x18 x19 x20 x21 x22 x23 x24 x25 x26 x27 x28 x29).2.2.2.2.2.2.2.2.2.2.2.1) ((laws_toDataset_v x15 x16 x17 x18 x19 x20 x21 x22 x23 x24 x25 x26 x27 x28 x29).2.2.2.2.2.2.2.2.2.2.2.2.1) ((laws_toDataset_v x15 x16 x17 x18 x19 x20 x21 x22 x23 x24 x25 x26 x27 x28 x29).2.2.2.2.2.2.2.2.2.2.2.2.2.1) ((laws_toDataset_v x15 x16 x17 x18 x19 x20 x21 x22 x23 x24 x25 x26 x27 x28 x29).2.2.2.2.2.2.2.2.2.2.2.2.2.2) ((laws_toDataset_v x15 x16 x17 x18 x19 x20 x21 x22 x23 x24 x25 x26 x27 x28 x29).1) ((laws_toDataset_v x15 x16 x17 x18 x19 x20 x21 x22 x23 x24 x25 x26 x27 x28 x29).2.1) ((laws_toDataset_v x15 x16 x17 x18 x19 x20 x21 x22 x23 x24 x25 x26 x27 x28 x29).2.2.1) ((laws_toDataset_v x15 x16 x17 x18 x19 x20 x21 x22 x23 x24 x25 x26 x27 x28 x29).2.2.2.1) ((laws_toDataset_v x15 x16 x17 x18 x19 x20 x21 x22 x23 x24 x25 x26 x27 x28 x29).2.2.2.2.1) ((laws_toDataset_v x15 x16 x17 x18 x19 x20 x21 x22 x23 x24 x25 x26 x27 x28 x29).2.2.2.2.2.1) ((laws_toDataset_v x15 x16 x17 x18 x19 x20 x21 x22 x23 x24 x25 x26 x27 x28 x29).2.2.2.2.2.2.1) ((laws_toDataset_v x15 x16 x17 x18 x19 x20 x21 x22 x23 x24 x25 x26 x27 x28 x29).2.2.2.2.2.2.2.1) ((laws_toDataset_v x15 x16 x17 x18 x19 x20 x21 x22 x23 x24 x25 x26 x27 x28 x29).2.2.2.2.2.2.2.2.1) ((laws_toDataset_v x15 x16 x17 x18 x19 x20 x21 x22 x23 x24 x25 x26 x27 x28 x29).2.2.2.2.2.2.2.2.2.1) ((laws_toDataset_v x15 x16 x17 x18 x19 x20 x21 x22 x23 x24 x25 x26 x27 x28 x29).2.2.2.2.2.2.2.2.2.2.1) ((laws_toDataset_v x15 x16 x17 x18 x19 x20 x21 x22 x23 x24 x25 x26 x27 x28 x29).2.2.2.2.2.2.2.2.2.2.2.1) ((laws_toDataset_v x15 x16 x17 x18 x19 x20 x21 x22 x23 x24 x25 x26 x27 x28 x29).2.2.2.2.2.2.2.2.2.2.2.2.1) ((laws_toDataset_v x15 x16 x17 x18 x19 x20 x21 x22 x23 x24 x25 x26 x27 x28 x29).2.2.2.2.2.2.2.2.2.2.2.2.2.1) ((laws_toDataset_v x15 x16 x17 x18 x19 x20 x21 x22 x23 x24 x25 x26 x27 x28 x29).2.2.2.2.2.2.2.2.2.2.2.2.2.2))) = true) (.ok false)
                  (.ok true))
                 .no)
                .no))
              .no)
             .no))
           .no)
          .no)
         .no)
        .no)
       .no)
      .no))
    .no))
  .no)
theorem laws_FnExactSameDataset_e (x0 : Int) (x1 : Int) (x2 : Bool) (x3 : Bool) (x4 : List (List TC)) (x5 : List (List TC)) (x6 : List (List TC)) (x7 : List (List TC)) (x8 : Int) (x9 : List (List TC)) (x10 : List (List TC)) (x11 : List (List TC)) (x12 : List (List TC)) (x13 : List UInt8) (x14 : Int) (x15 : Int) (x16 : Int) (x17 : Bool) (x18 : Bool) (x19 : List (List TC)) (x20 : List (List TC)) (x21 : List (List TC)) (x22 : List (List TC)) (x23 : Int) (x24 : List (List TC)) (x25 : List (List TC)) (x26 : List (List TC)) (x27 : List (List TC)) (x28 : List UInt8) (x29 : Int) : runF tab FT D45 live 7 noLoops [(true, [(.int .i64, TC.i x0), (.int .i64, TC.i x1), (.bool, TC.b x2), (.bool, TC.b x3), (.slice 9, TC.l x4), (.slice 2, TC.l x5), (.slice 189, TC.l x6), (.slice 45, TC.l x7), (.int .i64, TC.i x8), (.slice 2, TC.l x9), (.slice 2, TC.l x10), (.slice 2, TC.l x11), (.slice 151, TC.l x12), (.str, TC.s x13), (.int .i64, TC.i x14)]), (true, [(.int .i64, TC.i x15), (.int .i64, TC.i x16), (.bool, TC.b x17), (.bool, TC.b x18), (.slice 9, TC.l x19), (.slice 2, TC.l x20), (.slice 189, TC.l x21), (.slice 45, TC.l x22), (.int .i64, TC.i x23), (.slice 2, TC.l x24), (.slice 2, TC.l x25), (.slice 2, TC.l x26), (.slice 151, TC.l x27), (.str, TC.s x28), (.int .i64, TC.i x29)])] = (laws_FnExactSameDataset_t x0 x1 x2 x3 x4 x5 x6 x7 x8 x9 x10 x11 x12 x13 x14 x15 x16 x17 x18 x19 x20 x21 x22 x23 x24 x25 x26 x27 x28 x29).run fun p => some [(false, [⟨.bool, .sh, .b p⟩])] := by kernel_rfl
theorem tyArgsType {A B C E : List (List TC)} (a4 : Typed tab (.slice 9) (.l A)) (a5 : Typed tab (.slice 2) (.l B)) (a6 : Typed tab (.slice 189) (.l C)) (a7 : Typed tab (.slice 45) (.l E)) : Typed tab (.slice 9) (.l A) ∧ Typed tab (.slice 2) (.l B) ∧ Typed tab (.slice 147) (.l C) ∧ Typed tab (.slice 55) (.l E) :=
  ⟨typed_iso iso_ok a4 (by decide), typed_iso iso_ok a5 (by decide), typed_iso iso_ok a6 (by decide), typed_iso iso_ok a7 (by decide)⟩
theorem eqType_rv {x0 : Int} {x1 : Int} {x2 : Bool} {x3 : Bool} {x4 : List (List TC)} {x5 : List (List TC)} {x6 : List (List TC)} {x7 : List (List TC)} {x8 : Int} {y0 : Int} {y1 : Int} {y2 : Bool} {y3 : Bool} {y4 : List (List TC)} {y5 : List (List TC)} {y6 : List (List TC)} {y7 : List (List TC)} {y8 : Int} : ¬(!(laws_eqType_rv x0 x1 x2 x3 x4 x5 x6 x7 x8 y0 y1 y2 y3 y4 y5 y6 y7 y8)) = true := by
  show ¬(!true) = true
  decide
theorem neg_same {a : Bool} : ¬(!(a == a)) = true := by cases a <;> decide
theorem laws_FnExactSameDataset_p (x0 : Int) (x1 : Int) (x2 : Bool) (x3 : Bool) (x4 : List (List TC)) (x5 : List (List TC)) (x6 : List (List TC)) (x7 : List (List TC)) (x8 : Int) (x9 : List (List TC)) (x10 : List (List TC)) (x11 : List (List TC)) (x12 : List (List TC)) (x13 : List UInt8) (x14 : Int) (x15 : Int) (x16 : Int) (x17 : Bool) (x18 : Bool) (x19 : List (List TC)) (x20 : List (List TC)) (x21 : List (List TC)) (x22 : List (List TC)) (x23 : Int) (x24 : List (List TC)) (x25 : List (List TC)) (x26 : List (List TC)) (x27 : List (List TC)) (x28 : List UInt8) (x29 : Int) (h0 : Typed tab (.int .i64) (.i x0)) (h1 : Typed tab (.int .i64) (.i x1)) (h2 : Typed tab (.bool) (.b x2)) (h3 : Typed tab (.bool) (.b x3)) (h4 : Typed tab (.slice 9) (.l x4)) (h5 : Typed tab (.slice 2) (.l x5)) (h6 : Typed tab (.slice 189) (.l x6)) (h7 : Typed tab (.slice 45) (.l x7)) (h8 : Typed tab (.int .i64) (.i x8)) (h9 : Typed tab (.slice 2) (.l x9)) (h10 : Typed tab (.slice 2) (.l x10)) (h11 : Typed tab (.slice 2) (.l x11)) (h12 : Typed tab (.slice 151) (.l x12)) (h13 : Typed tab (.str) (.s x13)) (h14 : Typed tab (.int .i64) (.i x14)) (h15 : Typed tab (.int .i64) (.i x15)) (h16 : Typed tab (.int .i64) (.i x16)) (h17 : Typed tab (.bool) (.b x17)) (h18 : Typed tab (.bool) (.b x18)) (h19 : Typed tab (.slice 9) (.l x19)) (h20 : Typed tab (.slice 2) (.l x20)) (h21 : Typed tab (.slice 189) (.l x21)) (h22 : Typed tab (.slice 45) (.l x22)) (h23 : Typed tab (.int .i64) (.i x23)) (h24 : Typed tab (.slice 2) (.l x24)) (h25 : Typed tab (.slice 2) (.l x25)) (h26 : Typed tab (.slice 2) (.l x26)) (h27 : Typed tab (.slice 151) (.l x27)) (h28 : Typed tab (.str) (.s x28)) (h29 : Typed tab (.int .i64) (.i x29)) (NN : Nat) (eN : NN = rowsDep x4 + rowsDep x5 + rowsDep x6 + rowsDep x7 + rowsDep x9 + rowsDep x10 + rowsDep x11 + rowsDep x12 + rowsDep x19 + rowsDep x20 + rowsDep x21 + rowsDep x22 + rowsDep x24 + rowsDep x25 + rowsDep x26 + rowsDep x27 + 1) (r_laws_szType : ∀ (x0 : Int) (x1 : Int) (x2 : Bool) (x3 : Bool) (x4 : List (List TC)) (x5 : List (List TC)) (x6 : List (List TC)) (x7 : List (List TC)) (x8 : Int) (x9 : Int), max (rowsDep x6) (rowsDep x7) < NN ∧ Typed tab (.slice 9) (.l x4) ∧ Typed tab (.slice 2) (.l x5) ∧ Typed tab (.slice 189) (.l x6) ∧ Typed tab (.slice 45) (.l x7) → (laws_szType_rc x0 x1 x2 x3 x4 x5 x6 x7 x8 x9) = true) (n_laws_toType : NN ≤ laws_toType_O.n) (n_spec_SameType : NN ≤ spec_SameType_O.n) (n_impl_SameType : NN ≤ impl_SameType_O.n) (n_laws_eqType : NN ≤ laws_eqType_O.n) : (laws_FnExactSameDataset_t x0 x1 x2 x3 x4 x5 x6 x7 x8 x9 x10 x11 x12 x13 x14 x15 x16 x17 x18 x19 x20 x21 x22 x23 x24 x25 x26 x27 x28 x29).val = some true := by
  have t4_9 := laws_toStringS_ty h4
  have t5_2 := laws_toInt64S_ty h5
  have t6_147 := laws_toMemberS_ty h6
  have t7_55 := laws_toTypeS_ty h7
  have t9_2 := laws_toInt64S_ty h9
  have t10_2 := laws_toInt64S_ty h10
  have t11_2 := laws_toInt64S_ty h11
  have t12_122 := laws_toFilterS_ty h12
  have t19_9 := laws_toStringS_ty h19
  have t20_2 := laws_toInt64S_ty h20
  have t21_147 := laws_toMemberS_ty h21
  have t22_55 := laws_toTypeS_ty h22
  have t24_2 := laws_toInt64S_ty h24
  have t25_2 := laws_toInt64S_ty h25
  have t26_2 := laws_toInt64S_ty h26
  have t27_122 := laws_toFilterS_ty h27
  obtain ⟨i4, i5, i6, i7⟩ := tyArgsType h4 h5 h6 h7
  have zt0 : ∀ left : Int, laws_szType_rc x0 x1 x2 x3 x4 x5 x6 x7 x8 left = true := fun left => r_laws_szType x0 x1 x2 x3 x4 x5 x6 x7 x8 left ⟨by omega, h4, h5, h6, h7⟩
  have tt0 : laws_toType_rc x0 x1 x2 x3 x4 x5 x6 x7 x8 = true := is_true ⟨by omega, h4, h5, h6, h7⟩
  have et0 : laws_eqType_rc x0 x1 x2 x3 x4 x5 x6 x7 x8 x0 x1 x2 x3 x4 x5 x6 x7 x8 = true := is_true ⟨by omega, rfl, rfl, rfl, rfl, rfl, rfl, rfl, rfl, rfl, i4, i5, i6, i7⟩
  have ti9 : laws_toInt64S_c x9 = true := is_true h9
  have ii9 := laws_toInt64S_ty h9
  have ei9 : laws_eqInt64S_c x9 x9 = true := is_true ⟨rfl, ii9⟩
  have ti10 : laws_toInt64S_c x10 = true := is_true h10
  have ii10 := laws_toInt64S_ty h10
  have ei10 : laws_eqInt64S_c x10 x10 = true := is_true ⟨rfl, ii10⟩
  have ti11 : laws_toInt64S_c x11 = true := is_true h11
  have ii11 := laws_toInt64S_ty h11
  have ei11 : laws_eqInt64S_c x11 x11 = true := is_true ⟨rfl, ii11⟩
  have ti12 : laws_toFilterS_c x12 = true := is_true h12
  have ii12 := laws_toFilterS_ty h12
  have ei12 : laws_eqFilterS_c x12 x12 = true := is_true ⟨rfl, ii12⟩
  obtain ⟨i19, i20, i21, i22⟩ := tyArgsType h19 h20 h21 h22
  have zt15 : ∀ left : Int, laws_szType_rc x15 x16 x17 x18 x19 x20 x21 x22 x23 left = true := fun left => r_laws_szType x15 x16 x17 x18 x19 x20 x21 x22 x23 left ⟨by omega, h19, h20, h21, h22⟩
  have tt15 : laws_toType_rc x15 x16 x17 x18 x19 x20 x21 x22 x23 = true := is_true ⟨by omega, h19, h20, h21, h22⟩
  have et15 : laws_eqType_rc x15 x16 x17 x18 x19 x20 x21 x22 x23 x15 x16 x17 x18 x19 x20 x21 x22 x23 = true := is_true ⟨by omega, rfl, rfl, rfl, rfl, rfl, rfl, rfl, rfl, rfl, i19, i20, i21, i22⟩
  have ti24 : laws_toInt64S_c x24 = true := is_true h24
  have ii24 := laws_toInt64S_ty h24
  have ei24 : laws_eqInt64S_c x24 x24 = true := is_true ⟨rfl, ii24⟩
  have ti25 : laws_toInt64S_c x25 = true := is_true h25
  have ii25 := laws_toInt64S_ty h25
  have ei25 : laws_eqInt64S_c x25 x25 = true := is_true ⟨rfl, ii25⟩
  have ti26 : laws_toInt64S_c x26 = true := is_true h26
  have ii26 := laws_toInt64S_ty h26
  have ei26 : laws_eqInt64S_c x26 x26 = true := is_true ⟨rfl, ii26⟩
  have ti27 : laws_toFilterS_c x27 = true := is_true h27
  have ii27 := laws_toFilterS_ty h27
  have ei27 : laws_eqFilterS_c x27 x27 = true := is_true ⟨rfl, ii27⟩
  have ss : spec_SameType_rc x0 x1 x2 x3 x4 x5 x6 x7 x8 x15 x16 x17 x18 x19 x20 x21 x22 x23 = true := is_true ⟨by omega, i4, i5, i6, i7, i19, i20, i21, i22⟩
  have si : impl_SameType_rc x0 x1 x2 x3 x4 x5 x6 x7 x8 x15 x16 x17 x18 x19 x20 x21 x22 x23 = true := is_true ⟨by omega, i4, i5, i6, i7, i19, i20, i21, i22⟩
  have cs9 : spec_l00Same_c x9 x24 = true := is_true ii9
  have ci9 : slices_Equal_int64_int64_c x9 x24 = true := is_true ii9
  have cs10 : spec_l00Same_c x10 x25 = true := is_true ii10
  have ci10 : slices_Equal_int64_int64_c x10 x25 = true := is_true ii10
  have cs11 : spec_l02Ints_c x11 x26 = true := is_true ii11
  have ci11 : slices_Equal_int64_int64_c x11 x26 = true := is_true ii11
  have cs12 : spec_l19Same_c x12 x27 = true := is_true ii12
  have ci12 : slices_Equal_impl_Filter_impl_Filter_c x12 x27 = true := is_true ii12
  unfold laws_FnExactSameDataset_t
  simp only [show laws_toDataset_v x0 x1 x2 x3 x4 x5 x6 x7 x8 x9 x10 x11 x12 x13 x14 = (x0, x1, x2, x3, x4, x5, x6, x7, x8, x9, x10, x11, x12, x13, x14) from rfl, show laws_toDataset_v x15 x16 x17 x18 x19 x20 x21 x22 x23 x24 x25 x26 x27 x28 x29 = (x15, x16, x17, x18, x19, x20, x21, x22, x23, x24, x25, x26, x27, x28, x29) from rfl]
  refine Tr.t (by apply laws_szDataset_cc <;> first | assumption | skip) ?_
  refine Tr.y ?_
  refine Tr.t (by apply laws_szDataset_cc <;> first | assumption | skip) ?_
  refine Tr.y ?_
  refine Tr.t (by simp [laws_toDataset_c, laws_toSpace_c, tt0, tt15, ti9, ti10, ti11, ti12, ti24, ti25, ti26, ti27, is_iff, bif_same]) ?_
  refine Tr.t (by simp [laws_toDataset_c, laws_toSpace_c, tt0, tt15, ti9, ti10, ti11, ti12, ti24, ti25, ti26, ti27, is_iff, bif_same]) ?_
  refine Tr.t (by simp [spec_SameDataset_c, spec_SameSpace_c, ss, cs9, cs10, cs11, cs12, is_iff, bif_same]) ?_
  refine Tr.t (by simp [laws_toDataset_c, laws_toSpace_c, tt0, tt15, ti9, ti10, ti11, ti12, ti24, ti25, ti26, ti27, is_iff, bif_same]) ?_
  refine Tr.t (by simp [laws_toDataset_c, laws_toSpace_c, tt0, tt15, ti9, ti10, ti11, ti12, ti24, ti25, ti26, ti27, is_iff, bif_same]) ?_
  refine Tr.t (by simp [impl_SameDataset_c, impl_SameSpace_c, si, ci9, ci10, ci11, ci12, is_iff, bif_same]) ?_
  refine Tr.n (by first | (exact neg_same) | (simp [laws_eqDataset_v, laws_eqSpace_v, laws_eqFilterS_v, laws_eqInt64S_v, laws_eqType_rv])) ?_
  refine Tr.t (by simp [laws_toDataset_c, laws_toSpace_c, tt0, tt15, ti9, ti10, ti11, ti12, ti24, ti25, ti26, ti27, is_iff, bif_same]) ?_
  refine Tr.t (by simp [laws_eqDataset_c, laws_eqSpace_c, et0, et15, ei9, ei10, ei11, ei12, ei24, ei25, ei26, ei27, ii9, ii10, ii11, ii12, ii24, ii25, ii26, ii27, is_iff, bif_same]) ?_
  refine Tr.n (by first | (exact neg_same) | (simp [laws_eqDataset_v, laws_eqSpace_v, laws_eqFilterS_v, laws_eqInt64S_v, laws_eqType_rv])) ?_
  refine Tr.t (by simp [laws_toDataset_c, laws_toSpace_c, tt0, tt15, ti9, ti10, ti11, ti12, ti24, ti25, ti26, ti27, is_iff, bif_same]) ?_
  refine Tr.t (by simp [laws_eqDataset_c, laws_eqSpace_c, et0, et15, ei9, ei10, ei11, ei12, ei24, ei25, ei26, ei27, ii9, ii10, ii11, ii12, ii24, ii25, ii26, ii27, is_iff, bif_same]) ?_
  refine Tr.n (by first | (exact neg_same) | (simp [laws_eqDataset_v, laws_eqSpace_v, laws_eqFilterS_v, laws_eqInt64S_v, laws_eqType_rv])) ?_
  rfl
end
theorem laws_eqType_none : ∀ xs r, laws_eqType_rS (i_laws_eqType := ⟨0⟩) xs ≠ some (true, r) := by
  intro xs r h
  unfold laws_eqType_rS at h
  split at h
  · simp only [Option.some.injEq, Prod.mk.injEq] at h
    have h1 := is_iff.1 h.1
    exact absurd h1.1 (Nat.not_lt_zero _)
  · cases h
theorem laws_eqType_good : ∀ n : Nat, laws_eqType_G (i_laws_eqType := ⟨n⟩) := by
  intro n
  induction n with
  | zero => exact laws_eqType_G.mk (i_laws_eqType := ⟨0⟩) (DOk.also0 d37 laws_eqType_none)
  | succ n ih => exact laws_eqType_step (i_laws_eqType := ⟨n⟩) (g_laws_eqType := ih)
end
theorem impl_SameType_none : ∀ xs r, impl_SameType_rS (i_impl_SameType := ⟨0⟩) xs ≠ some (true, r) := by
  intro xs r h
  unfold impl_SameType_rS at h
  split at h
  · simp only [Option.some.injEq, Prod.mk.injEq] at h
    have h1 := is_iff.1 h.1
    exact absurd h1.1 (Nat.not_lt_zero _)
  · cases h
theorem impl_SameType_good : ∀ n : Nat, impl_SameType_G (i_impl_SameType := ⟨n⟩) := by
  intro n
  induction n with
  | zero => exact impl_SameType_G.mk (i_impl_SameType := ⟨0⟩) (DOk.also0 d28 impl_SameType_none)
  | succ n ih => exact impl_SameType_step (i_impl_SameType := ⟨n⟩) (g_impl_SameType := ih)
end
theorem spec_SameType_none : ∀ xs r, spec_SameType_rS (i_spec_SameType := ⟨0⟩) xs ≠ some (true, r) := by
  intro xs r h
  unfold spec_SameType_rS at h
  split at h
  · simp only [Option.some.injEq, Prod.mk.injEq] at h
    have h1 := is_iff.1 h.1
    exact absurd h1.1 (Nat.not_lt_zero _)
  · cases h
theorem spec_SameType_good : ∀ n : Nat, spec_SameType_G (i_spec_SameType := ⟨n⟩) := by
  intro n
  induction n with
  | zero => exact spec_SameType_G.mk (i_spec_SameType := ⟨0⟩) (DOk.also0 d19 spec_SameType_none)
  | succ n ih => exact spec_SameType_step (i_spec_SameType := ⟨n⟩) (g_spec_SameType := ih)
end
theorem laws_toType_none : ∀ xs r, laws_toType_rS (i_laws_toType := ⟨0⟩) xs ≠ some (true, r) := by
  intro xs r h
  unfold laws_toType_rS at h
  split at h
  · simp only [Option.some.injEq, Prod.mk.injEq] at h
    have h1 := is_iff.1 h.1
    exact absurd h1.1 (Nat.not_lt_zero _)
  · cases h
theorem laws_toType_good : ∀ n : Nat, laws_toType_G (i_laws_toType := ⟨n⟩) := by
  intro n
  induction n with
  | zero => exact laws_toType_G.mk (i_laws_toType := ⟨0⟩) (DOk.also0 d11 laws_toType_none)
  | succ n ih => exact laws_toType_step (i_laws_toType := ⟨n⟩) (g_laws_toType := ih)
end
@[reducible] noncomputable def laws_szType_orc : Nat → laws_szType_O
  | 0 => ⟨fun _ _ _ _ _ _ _ _ _ _ => (false, default)⟩
  | n + 1 => ⟨laws_szType_next (i_laws_szType := laws_szType_orc n)⟩
theorem laws_szType_none : ∀ xs r, laws_szType_rS (i_laws_szType := laws_szType_orc 0) xs ≠ some (true, r) := by
  intro xs r h
  unfold laws_szType_rS at h
  split at h
  · simp only [Option.some.injEq, Prod.mk.injEq] at h
    exact absurd h.1 (by show ¬(false = true); simp)
  · cases h
theorem laws_szType_good : ∀ n, laws_szType_G (i_laws_szType := laws_szType_orc n) := by
  intro n
  induction n with
  | zero => exact laws_szType_G.mk (i_laws_szType := laws_szType_orc 0) (DOk.also0 d2 laws_szType_none)
  | succ n ih => exact laws_szType_step (i_laws_szType := laws_szType_orc n) (g_laws_szType := ih)
theorem laws_szType_hr : ∀ (n : Nat) (x0 : Int) (x1 : Int) (x2 : Bool) (x3 : Bool) (x4 : List (List TC)) (x5 : List (List TC)) (x6 : List (List TC)) (x7 : List (List TC)) (x8 : Int) (x9 : Int), max (rowsDep x6) (rowsDep x7) < n ∧ Typed tab (.slice 9) (.l x4) ∧ Typed tab (.slice 2) (.l x5) ∧ Typed tab (.slice 189) (.l x6) ∧ Typed tab (.slice 45) (.l x7) → laws_szType_rc (i_laws_szType := laws_szType_orc n) x0 x1 x2 x3 x4 x5 x6 x7 x8 x9 = true := by
  intro n
  induction n with
  | zero => intro x0 x1 x2 x3 x4 x5 x6 x7 x8 x9 h; exact absurd h.1 (Nat.not_lt_zero _)
  | succ n ih =>
    intro x0 x1 x2 x3 x4 x5 x6 x7 x8 x9 h
    exact laws_szType_nx (i_laws_szType := laws_szType_orc n) (g_laws_szType := laws_szType_good n) n ih x0 x1 x2 x3 x4 x5 x6 x7 x8 x9 h
theorem laws_FnExactSameDataset_pure : ∀ xs, ArgsTyped tab [66, 66] xs → ∃ (D : Dt) (lo : LoopTeller), DOk Go.Proofs.Try.prog tab D ∧ FnLoops tab (fun f => Go.Proofs.Try.prog.funcs[f]?) D live 7 lo ∧ runF tab (fun f => Go.Proofs.Try.prog.funcs[f]?) D live 7 lo xs = yes := by
  intro xs h
  cases h with | cons l0 g0 h =>
  obtain ⟨z0_0, z0_1, z0_2, z0_3, z0_4, z0_5, z0_6, z0_7, z0_8, z0_9, z0_10, z0_11, z0_12, z0_13, z0_14, rfl⟩ := len_15 l0
  have q0 := g0 0 (by decide)
  have q0 : Typed tab (.int .i64) z0_0 := q0
  obtain ⟨y0, rfl⟩ := typed_int q0
  have q1 := g0 1 (by decide)
  have q1 : Typed tab (.int .i64) z0_1 := q1
  obtain ⟨y1, rfl⟩ := typed_int q1
  have q2 := g0 2 (by decide)
  have q2 : Typed tab (.bool) z0_2 := q2
  obtain ⟨y2, rfl⟩ := typed_bool q2
  have q3 := g0 3 (by decide)
  have q3 : Typed tab (.bool) z0_3 := q3
  obtain ⟨y3, rfl⟩ := typed_bool q3
  have q4 := g0 4 (by decide)
  have q4 : Typed tab (.slice 9) z0_4 := q4
  obtain ⟨y4, rfl⟩ := typed_slice q4
  have q5 := g0 5 (by decide)
  have q5 : Typed tab (.slice 2) z0_5 := q5
  obtain ⟨y5, rfl⟩ := typed_slice q5
  have q6 := g0 6 (by decide)
  have q6 : Typed tab (.slice 189) z0_6 := q6
  obtain ⟨y6, rfl⟩ := typed_slice q6
  have q7 := g0 7 (by decide)
  have q7 : Typed tab (.slice 45) z0_7 := q7
  obtain ⟨y7, rfl⟩ := typed_slice q7
  have q8 := g0 8 (by decide)
  have q8 : Typed tab (.int .i64) z0_8 := q8
  obtain ⟨y8, rfl⟩ := typed_int q8
  have q9 := g0 9 (by decide)
  have q9 : Typed tab (.slice 2) z0_9 := q9
  obtain ⟨y9, rfl⟩ := typed_slice q9
  have q10 := g0 10 (by decide)
  have q10 : Typed tab (.slice 2) z0_10 := q10
  obtain ⟨y10, rfl⟩ := typed_slice q10
  have q11 := g0 11 (by decide)
  have q11 : Typed tab (.slice 2) z0_11 := q11
  obtain ⟨y11, rfl⟩ := typed_slice q11
  have q12 := g0 12 (by decide)
  have q12 : Typed tab (.slice 151) z0_12 := q12
  obtain ⟨y12, rfl⟩ := typed_slice q12
  have q13 := g0 13 (by decide)
  have q13 : Typed tab (.str) z0_13 := q13
  obtain ⟨y13, rfl⟩ := typed_str q13
  have q14 := g0 14 (by decide)
  have q14 : Typed tab (.int .i64) z0_14 := q14
  obtain ⟨y14, rfl⟩ := typed_int q14
  cases h with | cons l1 g1 h =>
  obtain ⟨z1_0, z1_1, z1_2, z1_3, z1_4, z1_5, z1_6, z1_7, z1_8, z1_9, z1_10, z1_11, z1_12, z1_13, z1_14, rfl⟩ := len_15 l1
  have q15 := g1 0 (by decide)
  have q15 : Typed tab (.int .i64) z1_0 := q15
  obtain ⟨y15, rfl⟩ := typed_int q15
  have q16 := g1 1 (by decide)
  have q16 : Typed tab (.int .i64) z1_1 := q16
  obtain ⟨y16, rfl⟩ := typed_int q16
  have q17 := g1 2 (by decide)
  have q17 : Typed tab (.bool) z1_2 := q17
  obtain ⟨y17, rfl⟩ := typed_bool q17
  have q18 := g1 3 (by decide)
  have q18 : Typed tab (.bool) z1_3 := q18
  obtain ⟨y18, rfl⟩ := typed_bool q18
  have q19 := g1 4 (by decide)
  have q19 : Typed tab (.slice 9) z1_4 := q19
  obtain ⟨y19, rfl⟩ := typed_slice q19
  have q20 := g1 5 (by decide)
  have q20 : Typed tab (.slice 2) z1_5 := q20
  obtain ⟨y20, rfl⟩ := typed_slice q20
  have q21 := g1 6 (by decide)
  have q21 : Typed tab (.slice 189) z1_6 := q21
  obtain ⟨y21, rfl⟩ := typed_slice q21
  have q22 := g1 7 (by decide)
  have q22 : Typed tab (.slice 45) z1_7 := q22
  obtain ⟨y22, rfl⟩ := typed_slice q22
  have q23 := g1 8 (by decide)
  have q23 : Typed tab (.int .i64) z1_8 := q23
  obtain ⟨y23, rfl⟩ := typed_int q23
  have q24 := g1 9 (by decide)
  have q24 : Typed tab (.slice 2) z1_9 := q24
  obtain ⟨y24, rfl⟩ := typed_slice q24
  have q25 := g1 10 (by decide)
  have q25 : Typed tab (.slice 2) z1_10 := q25
  obtain ⟨y25, rfl⟩ := typed_slice q25
  have q26 := g1 11 (by decide)
  have q26 : Typed tab (.slice 2) z1_11 := q26
  obtain ⟨y26, rfl⟩ := typed_slice q26
  have q27 := g1 12 (by decide)
  have q27 : Typed tab (.slice 151) z1_12 := q27
  obtain ⟨y27, rfl⟩ := typed_slice q27
  have q28 := g1 13 (by decide)
  have q28 : Typed tab (.str) z1_13 := q28
  obtain ⟨y28, rfl⟩ := typed_str q28
  have q29 := g1 14 (by decide)
  have q29 : Typed tab (.int .i64) z1_14 := q29
  obtain ⟨y29, rfl⟩ := typed_int q29
  cases h
  letI i_laws_szType : laws_szType_O := laws_szType_orc (rowsDep y4 + rowsDep y5 + rowsDep y6 + rowsDep y7 + rowsDep y9 + rowsDep y10 + rowsDep y11 + rowsDep y12 + rowsDep y19 + rowsDep y20 + rowsDep y21 + rowsDep y22 + rowsDep y24 + rowsDep y25 + rowsDep y26 + rowsDep y27 + 1)
  letI g_laws_szType : laws_szType_G := laws_szType_good (rowsDep y4 + rowsDep y5 + rowsDep y6 + rowsDep y7 + rowsDep y9 + rowsDep y10 + rowsDep y11 + rowsDep y12 + rowsDep y19 + rowsDep y20 + rowsDep y21 + rowsDep y22 + rowsDep y24 + rowsDep y25 + rowsDep y26 + rowsDep y27 + 1)
  letI i_laws_toType : laws_toType_O := ⟨rowsDep y4 + rowsDep y5 + rowsDep y6 + rowsDep y7 + rowsDep y9 + rowsDep y10 + rowsDep y11 + rowsDep y12 + rowsDep y19 + rowsDep y20 + rowsDep y21 + rowsDep y22 + rowsDep y24 + rowsDep y25 + rowsDep y26 + rowsDep y27 + 1⟩
  letI g_laws_toType : laws_toType_G := laws_toType_good (rowsDep y4 + rowsDep y5 + rowsDep y6 + rowsDep y7 + rowsDep y9 + rowsDep y10 + rowsDep y11 + rowsDep y12 + rowsDep y19 + rowsDep y20 + rowsDep y21 + rowsDep y22 + rowsDep y24 + rowsDep y25 + rowsDep y26 + rowsDep y27 + 1)
  letI i_spec_SameType : spec_SameType_O := ⟨rowsDep y4 + rowsDep y5 + rowsDep y6 + rowsDep y7 + rowsDep y9 + rowsDep y10 + rowsDep y11 + rowsDep y12 + rowsDep y19 + rowsDep y20 + rowsDep y21 + rowsDep y22 + rowsDep y24 + rowsDep y25 + rowsDep y26 + rowsDep y27 + 1⟩
  letI g_spec_SameType : spec_SameType_G := spec_SameType_good (rowsDep y4 + rowsDep y5 + rowsDep y6 + rowsDep y7 + rowsDep y9 + rowsDep y10 + rowsDep y11 + rowsDep y12 + rowsDep y19 + rowsDep y20 + rowsDep y21 + rowsDep y22 + rowsDep y24 + rowsDep y25 + rowsDep y26 + rowsDep y27 + 1)
  letI i_impl_SameType : impl_SameType_O := ⟨rowsDep y4 + rowsDep y5 + rowsDep y6 + rowsDep y7 + rowsDep y9 + rowsDep y10 + rowsDep y11 + rowsDep y12 + rowsDep y19 + rowsDep y20 + rowsDep y21 + rowsDep y22 + rowsDep y24 + rowsDep y25 + rowsDep y26 + rowsDep y27 + 1⟩
  letI g_impl_SameType : impl_SameType_G := impl_SameType_good (rowsDep y4 + rowsDep y5 + rowsDep y6 + rowsDep y7 + rowsDep y9 + rowsDep y10 + rowsDep y11 + rowsDep y12 + rowsDep y19 + rowsDep y20 + rowsDep y21 + rowsDep y22 + rowsDep y24 + rowsDep y25 + rowsDep y26 + rowsDep y27 + 1)
  letI i_laws_eqType : laws_eqType_O := ⟨rowsDep y4 + rowsDep y5 + rowsDep y6 + rowsDep y7 + rowsDep y9 + rowsDep y10 + rowsDep y11 + rowsDep y12 + rowsDep y19 + rowsDep y20 + rowsDep y21 + rowsDep y22 + rowsDep y24 + rowsDep y25 + rowsDep y26 + rowsDep y27 + 1⟩
  letI g_laws_eqType : laws_eqType_G := laws_eqType_good (rowsDep y4 + rowsDep y5 + rowsDep y6 + rowsDep y7 + rowsDep y9 + rowsDep y10 + rowsDep y11 + rowsDep y12 + rowsDep y19 + rowsDep y20 + rowsDep y21 + rowsDep y22 + rowsDep y24 + rowsDep y25 + rowsDep y26 + rowsDep y27 + 1)
  refine ⟨D45, noLoops, d45, noLoops_ok, (laws_FnExactSameDataset_e y0 y1 y2 y3 y4 y5 y6 y7 y8 y9 y10 y11 y12 y13 y14 y15 y16 y17 y18 y19 y20 y21 y22 y23 y24 y25 y26 y27 y28 y29).trans ?_⟩
  rw [Tr.run_eq, laws_FnExactSameDataset_p y0 y1 y2 y3 y4 y5 y6 y7 y8 y9 y10 y11 y12 y13 y14 y15 y16 y17 y18 y19 y20 y21 y22 y23 y24 y25 y26 y27 y28 y29 q0 q1 q2 q3 q4 q5 q6 q7 q8 q9 q10 q11 q12 q13 q14 q15 q16 q17 q18 q19 q20 q21 q22 q23 q24 q25 q26 q27 q28 q29 (rowsDep y4 + rowsDep y5 + rowsDep y6 + rowsDep y7 + rowsDep y9 + rowsDep y10 + rowsDep y11 + rowsDep y12 + rowsDep y19 + rowsDep y20 + rowsDep y21 + rowsDep y22 + rowsDep y24 + rowsDep y25 + rowsDep y26 + rowsDep y27 + 1) rfl (laws_szType_hr (rowsDep y4 + rowsDep y5 + rowsDep y6 + rowsDep y7 + rowsDep y9 + rowsDep y10 + rowsDep y11 + rowsDep y12 + rowsDep y19 + rowsDep y20 + rowsDep y21 + rowsDep y22 + rowsDep y24 + rowsDep y25 + rowsDep y26 + rowsDep y27 + 1)) (Nat.le_refl _) (Nat.le_refl _) (Nat.le_refl _) (Nat.le_refl _)]
  rfl
end Go.Proofs.Ytghbndlkekaipaa.V
