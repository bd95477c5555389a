/- What the functions of FnExactSameVirtual answer. No condition. -/
import Derived.Test.YtghbndlkekaipaaVFnExactSameVirtualP1
namespace Go.Proofs.Ytghbndlkekaipaa.V
open Go
set_option maxRecDepth 100000
set_option linter.unusedVariables false
set_option linter.unusedSectionVars false
set_option linter.unusedSimpArgs false
set_option maxHeartbeats 2000000
section
variable [i_laws_szType : laws_szType_O]
variable [g_laws_szType : laws_szType_G]
section
variable [i_laws_toType : laws_toType_O]
variable [g_laws_toType : laws_toType_G]
theorem laws_toMappingS_is3 : LoopIs tab FT D22 live 83 laws_toMappingS_lo 0 3 := by
  refine loop_told (sl := laws_toMappingS_3_sl) (step := laws_toMappingS_3_st) (out := laws_toMappingS_3_out) (lor := laws_toMappingS_lo3) (fin := fun x => (laws_toMappingS_3_fin (x.1) (x.2.1) (x.2.2))) (fun _ => rfl) ?_ (fun x n => laws_toMappingS_3_r x.1 x.2.1 x.2.2 n) (fun x ow => laws_toMappingS_3_h x.1 x.2.1 x.2.2 ow)
  intro s t h
  unfold laws_toMappingS_lo3 at h
  split at h
  · cases h; exact ⟨(_, _, _), rfl, rfl⟩
  · cases h
noncomputable def laws_toMappingS_t (A : List (List TC)) : Tr (List (List TC)) := (.ite (0 ≤ (A.length : Int) ∧ (A.length : Int) ≤ (A.length : Int) ∧ (A.length : Int) * 272 ≤ 140737488355328 ∧ (A.length : Int) ≤ 140737488355328) (.ite ((laws_toMappingS_o3_1 A (List.replicate ((A.length : Int)).toNat [TC.s [], TC.i (0 : Int), TC.l [], TC.l [], TC.l [], TC.l [], TC.l [], TC.i (0 : Int), TC.l [], TC.l [], TC.l [], TC.l [], TC.l []]) (0 : Int)) = true) (.ok A)
   .no)
  .no)
def laws_toMappingS_mk (p : List (List TC)) : Res := [(false, [⟨.slice 128, .own true, TC.l p⟩])]
noncomputable def laws_toMappingS_c (A : List (List TC)) : Bool := is (Typed tab (.slice 163) (.l A))
noncomputable def laws_toMappingS_v (A : List (List TC)) : List (List TC) := A
theorem laws_toMappingS_l (A : List (List TC)) : (laws_toMappingS_c A) = true → (laws_toMappingS_t A).val = some (laws_toMappingS_v A) := by
  intro h
  have ht := is_iff.1 h
  have hb := typed_room ht
  simp only [show (tab 163).bytes = 272 from rfl] at hb
  unfold laws_toMappingS_t
  refine Tr.t (by omega) ?_
  refine Tr.t (is_true ⟨ht, by rfl, rfl⟩) ?_
  rfl
noncomputable def laws_toMappingS_S : List Arg → Option (Bool × Res) := fun xs => match xs with
  | [(false, [(.slice 163, TC.l A)])] => some ((laws_toMappingS_c A), laws_toMappingS_mk (laws_toMappingS_v A))
  | _ => .none
theorem laws_toMappingS_e (A : List (List TC)) : runF tab FT D22 live 83 laws_toMappingS_lo [(false, [(.slice 163, TC.l A)])] = (laws_toMappingS_t A).run fun p => some (laws_toMappingS_mk p) := by kernel_rfl
theorem laws_toMappingS_s : ∀ xs r, laws_toMappingS_S xs = some (true, r) → runF tab FT D22 live 83 laws_toMappingS_lo xs = some r := by
  intro xs r h
  unfold laws_toMappingS_S at h
  split at h
  · simp only [Option.some.injEq, Prod.mk.injEq] at h
    obtain ⟨h1, rfl⟩ := h
    exact fun_told (laws_toMappingS_e _) (laws_toMappingS_l _) h1
  · cases h
noncomputable def D23 : Dt := also D22 83 laws_toMappingS_S
theorem d23 : DOk Go.Proofs.Try.prog tab D23 := d22.also mixed_ok tab_ok names_ok (fnLoops_one (by kernel_rfl) laws_toMappingS_is3) laws_toMappingS_s
theorem laws_toMappingS_ty {A : List (List TC)} (h : Typed tab (.slice 163) (.l A)) : Typed tab (.slice 128) (.l A) := typed_iso iso_ok h (by decide)
/-! laws_toVirtual -/
noncomputable def laws_toVirtual_t (a0 : Int) (a1 : Int) (a2 : Bool) (a3 : Bool) (a4 : List (List TC)) (a5 : List (List TC)) (a6 : List (List TC)) (a7 : List (List TC)) (a8 : Int) (a9 : List (List TC)) (a10 : List UInt8) (a11 : List (List TC)) : Tr (Int × Int × Bool × Bool × List (List TC) × List (List TC) × List (List TC) × List (List TC) × Int × List (List TC) × List UInt8 × List (List TC)) := (.ite ((laws_toType_rc a0 a1 a2 a3 a4 a5 a6 a7 a8) = true) (.ite ((laws_toInt64S_c a9) = true) (.ite ((laws_toMappingS_c a11) = true) (.ok ((laws_toType_rv a0 a1 a2 a3 a4 a5 a6 a7 a8).1, (laws_toType_rv a0 a1 a2 a3 a4 a5 a6 a7 a8).2.1, (laws_toType_rv a0 a1 a2 a3 a4 a5 a6 a7 a8).2.2.1, (laws_toType_rv a0 a1 a2 a3 a4 a5 a6 a7 a8).2.2.2.1, (laws_toType_rv a0 a1 a2 a3 a4 a5 a6 a7 a8).2.2.2.2.1, (laws_toType_rv a0 a1 a2 a3 a4 a5 a6 a7 a8).2.2.2.2.2.1, (laws_toType_rv a0 a1 a2 a3 a4 a5 a6 a7 a8).2.2.2.2.2.2.1, (laws_toType_rv a0 a1 a2 a3 a4 a5 a6 a7 a8).2.2.2.2.2.2.2.1, (laws_toType_rv a0 a1 a2 a3 a4 a5 a6 a7 a8).2.2.2.2.2.2.2.2, (laws_toInt64S_v a9), a10, (laws_toMappingS_v a11)))
    .no)
   .no)
  .no)
def laws_toVirtual_mk (p : Int × Int × Bool × Bool × List (List TC) × List (List TC) × List (List TC) × List (List TC) × Int × List (List TC) × List UInt8 × List (List TC)) : Res := [(true, [⟨.int .i64, .sh, TC.i (p.1)⟩, ⟨.int .i64, .sh, TC.i (p.2.1)⟩, ⟨.bool, .sh, TC.b (p.2.2.1)⟩, ⟨.bool, .sh, TC.b (p.2.2.2.1)⟩, ⟨.slice 9, .own true, TC.l (p.2.2.2.2.1)⟩, ⟨.slice 2, .own true, TC.l (p.2.2.2.2.2.1)⟩, ⟨.slice 147, .own true, TC.l (p.2.2.2.2.2.2.1)⟩, ⟨.slice 55, .own true, TC.l (p.2.2.2.2.2.2.2.1)⟩, ⟨.int .i64, .sh, TC.i (p.2.2.2.2.2.2.2.2.1)⟩, ⟨.slice 2, .own true, TC.l (p.2.2.2.2.2.2.2.2.2.1)⟩, ⟨.str, .sh, TC.s (p.2.2.2.2.2.2.2.2.2.2.1)⟩, ⟨.slice 128, .own true, TC.l (p.2.2.2.2.2.2.2.2.2.2.2)⟩])]
noncomputable def laws_toVirtual_c (a0 : Int) (a1 : Int) (a2 : Bool) (a3 : Bool) (a4 : List (List TC)) (a5 : List (List TC)) (a6 : List (List TC)) (a7 : List (List TC)) (a8 : Int) (a9 : List (List TC)) (a10 : List UInt8) (a11 : List (List TC)) : Bool := is (((laws_toType_rc a0 a1 a2 a3 a4 a5 a6 a7 a8) = true) ∧ ((laws_toInt64S_c a9) = true) ∧ ((laws_toMappingS_c a11) = true))
noncomputable def laws_toVirtual_v (a0 : Int) (a1 : Int) (a2 : Bool) (a3 : Bool) (a4 : List (List TC)) (a5 : List (List TC)) (a6 : List (List TC)) (a7 : List (List TC)) (a8 : Int) (a9 : List (List TC)) (a10 : List UInt8) (a11 : List (List TC)) : Int × Int × Bool × Bool × List (List TC) × List (List TC) × List (List TC) × List (List TC) × Int × List (List TC) × List UInt8 × List (List TC) := ((laws_toType_rv a0 a1 a2 a3 a4 a5 a6 a7 a8).1, (laws_toType_rv a0 a1 a2 a3 a4 a5 a6 a7 a8).2.1, (laws_toType_rv a0 a1 a2 a3 a4 a5 a6 a7 a8).2.2.1, (laws_toType_rv a0 a1 a2 a3 a4 a5 a6 a7 a8).2.2.2.1, (laws_toType_rv a0 a1 a2 a3 a4 a5 a6 a7 a8).2.2.2.2.1, (laws_toType_rv a0 a1 a2 a3 a4 a5 a6 a7 a8).2.2.2.2.2.1, (laws_toType_rv a0 a1 a2 a3 a4 a5 a6 a7 a8).2.2.2.2.2.2.1, (laws_toType_rv a0 a1 a2 a3 a4 a5 a6 a7 a8).2.2.2.2.2.2.2.1, (laws_toType_rv a0 a1 a2 a3 a4 a5 a6 a7 a8).2.2.2.2.2.2.2.2, (laws_toInt64S_v a9), a10, (laws_toMappingS_v a11))
theorem laws_toVirtual_l (a0 : Int) (a1 : Int) (a2 : Bool) (a3 : Bool) (a4 : List (List TC)) (a5 : List (List TC)) (a6 : List (List TC)) (a7 : List (List TC)) (a8 : Int) (a9 : List (List TC)) (a10 : List UInt8) (a11 : List (List TC)) : (laws_toVirtual_c a0 a1 a2 a3 a4 a5 a6 a7 a8 a9 a10 a11) = true → (laws_toVirtual_t a0 a1 a2 a3 a4 a5 a6 a7 a8 a9 a10 a11).val = some (laws_toVirtual_v a0 a1 a2 a3 a4 a5 a6 a7 a8 a9 a10 a11) := by
  intro h
  obtain ⟨hc0, hc1, hc2⟩ := is_iff.1 h
  unfold laws_toVirtual_t
  exact (Tr.t hc0 (Tr.t hc1 (Tr.t hc2 rfl)))
noncomputable def laws_toVirtual_S : List Arg → Option (Bool × Res) := fun xs => match xs with
  | [(true, [(.int .i64, TC.i a0), (.int .i64, TC.i a1), (.bool, TC.b a2), (.bool, TC.b a3), (.slice 9, TC.l a4), (.slice 2, TC.l a5), (.slice 189, TC.l a6), (.slice 45, TC.l a7), (.int .i64, TC.i a8), (.slice 2, TC.l a9), (.str, TC.s a10), (.slice 163, TC.l a11)])] => some ((laws_toVirtual_c a0 a1 a2 a3 a4 a5 a6 a7 a8 a9 a10 a11), laws_toVirtual_mk (laws_toVirtual_v a0 a1 a2 a3 a4 a5 a6 a7 a8 a9 a10 a11))
  | _ => .none
theorem laws_toVirtual_e (a0 : Int) (a1 : Int) (a2 : Bool) (a3 : Bool) (a4 : List (List TC)) (a5 : List (List TC)) (a6 : List (List TC)) (a7 : List (List TC)) (a8 : Int) (a9 : List (List TC)) (a10 : List UInt8) (a11 : List (List TC)) : runF tab FT D23 live 34 noLoops [(true, [(.int .i64, TC.i a0), (.int .i64, TC.i a1), (.bool, TC.b a2), (.bool, TC.b a3), (.slice 9, TC.l a4), (.slice 2, TC.l a5), (.slice 189, TC.l a6), (.slice 45, TC.l a7), (.int .i64, TC.i a8), (.slice 2, TC.l a9), (.str, TC.s a10), (.slice 163, TC.l a11)])] = (laws_toVirtual_t a0 a1 a2 a3 a4 a5 a6 a7 a8 a9 a10 a11).run fun p => some (laws_toVirtual_mk p) := by kernel_rfl
theorem laws_toVirtual_s : ∀ xs r, laws_toVirtual_S xs = some (true, r) → runF tab FT D23 live 34 noLoops xs = some r := by
  intro xs r h
  unfold laws_toVirtual_S at h
  split at h
  · simp only [Option.some.injEq, Prod.mk.injEq] at h
    obtain ⟨h1, rfl⟩ := h
    exact fun_told (laws_toVirtual_e _ _ _ _ _ _ _ _ _ _ _ _) (laws_toVirtual_l _ _ _ _ _ _ _ _ _ _ _ _) h1
  · cases h
noncomputable def D24 : Dt := also D23 34 laws_toVirtual_S
theorem d24 : DOk Go.Proofs.Try.prog tab D24 := d23.also mixed_ok tab_ok names_ok noLoops_ok laws_toVirtual_s
/-! spec_SameType calls itself -/
theorem form_9 {A : List (List TC)} (h : Typed tab (.slice 9) (.l A)) {x : List TC} (hx : x ∈ A) : x = [TC.s (nth x 0).str] := by
  obtain ⟨hl, hk⟩ := typed_elem h hx
  have e0 : TC.s (nth x 0).str = nth x 0 := typed_str_eq (hk 0 (by decide))
  rw [e0]
  exact row_eta hl
theorem form_2 {A : List (List TC)} (h : Typed tab (.slice 2) (.l A)) {x : List TC} (hx : x ∈ A) : x = [TC.i (nth x 0).int] := by
  obtain ⟨hl, hk⟩ := typed_elem h hx
  have e0 : TC.i (nth x 0).int = nth x 0 := typed_int_eq (hk 0 (by decide))
  rw [e0]
  exact row_eta hl
theorem form_147 {A : List (List TC)} (h : Typed tab (.slice 147) (.l A)) {x : List TC} (hx : x ∈ A) : x = [TC.s (nth x 0).str, TC.i (nth x 1).int, TC.i (nth x 2).int, TC.i (nth x 3).int, TC.b (nth x 4).bool, TC.b (nth x 5).bool, TC.l (nth x 6).list, TC.l (nth x 7).list, TC.l (nth x 8).list, TC.l (nth x 9).list, TC.i (nth x 10).int] := by
  obtain ⟨hl, hk⟩ := typed_elem h hx
  have e0 : TC.s (nth x 0).str = nth x 0 := typed_str_eq (hk 0 (by decide))
  have e1 : TC.i (nth x 1).int = nth x 1 := typed_int_eq (hk 1 (by decide))
  have e2 : TC.i (nth x 2).int = nth x 2 := typed_int_eq (hk 2 (by decide))
  have e3 : TC.i (nth x 3).int = nth x 3 := typed_int_eq (hk 3 (by decide))
  have e4 : TC.b (nth x 4).bool = nth x 4 := typed_bool_eq (hk 4 (by decide))
  have e5 : TC.b (nth x 5).bool = nth x 5 := typed_bool_eq (hk 5 (by decide))
  have e6 : TC.l (nth x 6).list = nth x 6 := typed_list_eq (hk 6 (by decide))
  have e7 : TC.l (nth x 7).list = nth x 7 := typed_list_eq (hk 7 (by decide))
  have e8 : TC.l (nth x 8).list = nth x 8 := typed_list_eq (hk 8 (by decide))
  have e9 : TC.l (nth x 9).list = nth x 9 := typed_list_eq (hk 9 (by decide))
  have e10 : TC.i (nth x 10).int = nth x 10 := typed_int_eq (hk 10 (by decide))
  rw [e0, e1, e2, e3, e4, e5, e6, e7, e8, e9, e10]
  exact row_eta hl
theorem form_55 {A : List (List TC)} (h : Typed tab (.slice 55) (.l A)) {x : List TC} (hx : x ∈ A) : x = [TC.i (nth x 0).int, TC.i (nth x 1).int, TC.b (nth x 2).bool, TC.b (nth x 3).bool, TC.l (nth x 4).list, TC.l (nth x 5).list, TC.l (nth x 6).list, TC.l (nth x 7).list, TC.i (nth x 8).int] := by
  obtain ⟨hl, hk⟩ := typed_elem h hx
  have e0 : TC.i (nth x 0).int = nth x 0 := typed_int_eq (hk 0 (by decide))
  have e1 : TC.i (nth x 1).int = nth x 1 := typed_int_eq (hk 1 (by decide))
  have e2 : TC.b (nth x 2).bool = nth x 2 := typed_bool_eq (hk 2 (by decide))
  have e3 : TC.b (nth x 3).bool = nth x 3 := typed_bool_eq (hk 3 (by decide))
  have e4 : TC.l (nth x 4).list = nth x 4 := typed_list_eq (hk 4 (by decide))
  have e5 : TC.l (nth x 5).list = nth x 5 := typed_list_eq (hk 5 (by decide))
  have e6 : TC.l (nth x 6).list = nth x 6 := typed_list_eq (hk 6 (by decide))
  have e7 : TC.l (nth x 7).list = nth x 7 := typed_list_eq (hk 7 (by decide))
  have e8 : TC.i (nth x 8).int = nth x 8 := typed_int_eq (hk 8 (by decide))
  rw [e0, e1, e2, e3, e4, e5, e6, e7, e8]
  exact row_eta hl
section
class spec_SameType_O where n : Nat
variable [i_spec_SameType : spec_SameType_O]
noncomputable def spec_SameType_rc (k : Int) (s : Int) (sg : Bool) (bg : Bool) (NA : List (List TC)) (NU : List (List TC)) (ME : List (List TC)) (BA : List (List TC)) (ct : Int) (k2 : Int) (s2 : Int) (sg2 : Bool) (bg2 : Bool) (NA2 : List (List TC)) (NU2 : List (List TC)) (ME2 : List (List TC)) (BA2 : List (List TC)) (ct2 : Int) : Bool := is (max (rowsDep ME) (rowsDep BA) < spec_SameType_O.n ∧ Typed tab (.slice 9) (.l NA) ∧ Typed tab (.slice 2) (.l NU) ∧ Typed tab (.slice 147) (.l ME) ∧ Typed tab (.slice 55) (.l BA) ∧ Typed tab (.slice 9) (.l NA2) ∧ Typed tab (.slice 2) (.l NU2) ∧ Typed tab (.slice 147) (.l ME2) ∧ Typed tab (.slice 55) (.l BA2))
noncomputable def spec_SameType_rv (k : Int) (s : Int) (sg : Bool) (bg : Bool) (NA : List (List TC)) (NU : List (List TC)) (ME : List (List TC)) (BA : List (List TC)) (ct : Int) (k2 : Int) (s2 : Int) (sg2 : Bool) (bg2 : Bool) (NA2 : List (List TC)) (NU2 : List (List TC)) (ME2 : List (List TC)) (BA2 : List (List TC)) (ct2 : Int) : Bool := sameV k s sg bg NA NU ME BA ct k2 s2 sg2 bg2 NA2 NU2 ME2 BA2 ct2
def spec_SameType_rmk (p : Bool) : Res := [(false, [⟨.bool, .sh, TC.b p⟩])]
noncomputable def spec_SameType_rS : List Arg → Option (Bool × Res) := fun xs => match xs with
  | [(true, [(.int .i64, TC.i k), (.int .i64, TC.i s), (.bool, TC.b sg), (.bool, TC.b bg), (.slice 9, TC.l NA), (.slice 2, TC.l NU), (.slice 147, TC.l ME), (.slice 55, TC.l BA), (.int .i64, TC.i ct)]), (true, [(.int .i64, TC.i k2), (.int .i64, TC.i s2), (.bool, TC.b sg2), (.bool, TC.b bg2), (.slice 9, TC.l NA2), (.slice 2, TC.l NU2), (.slice 147, TC.l ME2), (.slice 55, TC.l BA2), (.int .i64, TC.i ct2)])] => some ((spec_SameType_rc k s sg bg NA NU ME BA ct k2 s2 sg2 bg2 NA2 NU2 ME2 BA2 ct2), spec_SameType_rmk (spec_SameType_rv k s sg bg NA NU ME BA ct k2 s2 sg2 bg2 NA2 NU2 ME2 BA2 ct2))
  | _ => .none
noncomputable def D25 : Dt := also D24 64 spec_SameType_rS
class spec_SameType_G : Prop where ok : DOk Go.Proofs.Try.prog tab D25
variable [g_spec_SameType : spec_SameType_G]
theorem d25 : DOk Go.Proofs.Try.prog tab D25 := spec_SameType_G.ok
/-! spec_l02Texts -/
def E_9 (x y : List TC) : Bool := ((nth x 0).str == (nth y 0).str)
abbrev spec_l02Texts_4_σ := List (List TC) × List (List TC) × Int
abbrev spec_l02Texts_4_ω := (Unit) ⊕ (Unit)
noncomputable def spec_l02Texts_4_step (A : List (List TC)) (C : List (List TC)) (i : Int) : Tr (spec_l02Texts_4_σ ⊕ spec_l02Texts_4_ω) := (.ite ((decide (i < (A.length : Int))) = true) (.ite ((0 : Int) ≤ i ∧ i < (A.length : Int)) (.ite ((0 : Int) ≤ i ∧ i < (C.length : Int)) (.ite ((!((nth (row A i) 0).str == (nth (row C i) 0).str)) = true) (.ok (.inr (.inl ())))
     (.ok (.inl (A, C, (IntKind.wrap .i64 (i + (1 : Int)))))))
    .no)
   .no)
  (.ok (.inr (.inr ()))))
noncomputable def spec_l02Texts_4_st : spec_l02Texts_4_σ → Tr (spec_l02Texts_4_σ ⊕ spec_l02Texts_4_ω) := fun x => (spec_l02Texts_4_step (x.1) (x.2.1) (x.2.2))
noncomputable def spec_l02Texts_k4_1 (A : List (List TC)) (C : List (List TC)) (i : Int) : Bool := allEq E_9 A C
noncomputable def spec_l02Texts_o4_2 (A : List (List TC)) (C : List (List TC)) (i : Int) : Bool := is (A.length = C.length ∧ i = 0 ∧ Typed tab (.slice 9) (.l A))
noncomputable def spec_l02Texts_o4_3 (A : List (List TC)) (C : List (List TC)) (i : Int) : Bool := is (A.length = C.length ∧ i = 0 ∧ Typed tab (.slice 9) (.l A))
noncomputable def spec_l02Texts_4_fin (A : List (List TC)) (C : List (List TC)) (i : Int) : Told spec_l02Texts_4_ω := (.br (spec_l02Texts_k4_1 A C i) (.leaf (spec_l02Texts_o4_2 A C i) (.inr ())) (.leaf (spec_l02Texts_o4_3 A C i) (.inl ())))
def spec_l02Texts_4_sl (x : spec_l02Texts_4_σ) : List Slot := [⟨.val false [⟨.slice 9, .sh, TC.l (x.1)⟩], ⟨0, 0⟩⟩, ⟨.val false [⟨.slice 9, .sh, TC.l (x.2.1)⟩], ⟨0, 0⟩⟩, ⟨.val false [⟨.int .i64, .sh, TC.i (x.2.2)⟩], ⟨0, 0⟩⟩]
def spec_l02Texts_4_out : spec_l02Texts_4_ω → Ex × List Slot := (Sum.elim (fun x => (.ret, [⟨.val false [⟨.bool, .sh, TC.b false⟩], ⟨0, 0⟩⟩])) (fun x => (.exit 0, [Slot.none])))
noncomputable def spec_l02Texts_lo4 : List Slot → Option (Told (Ex × List Slot)) := fun s => match s with
  | [⟨.val false [⟨.slice 9, .sh, TC.l A⟩], ⟨0, 0⟩⟩, ⟨.val false [⟨.slice 9, .sh, TC.l C⟩], ⟨0, 0⟩⟩, ⟨.val false [⟨.int .i64, .sh, TC.i i⟩], ⟨0, 0⟩⟩] => some (((spec_l02Texts_4_fin A C i)).map spec_l02Texts_4_out)
  | _ => .none
noncomputable def spec_l02Texts_lo : LoopTeller := fun r s => bif Nat.beq r 4 then spec_l02Texts_lo4 s else .none
theorem spec_l02Texts_4_r (A : List (List TC)) (C : List (List TC)) (i : Int) (fuel : Nat) : rounds (rnd tab FT D25 live 97 spec_l02Texts_lo 0 4) leave (fuel + 1) (spec_l02Texts_4_sl (A, C, i)) = ((spec_l02Texts_4_step A C i)).run (goOn (fun s => rounds (rnd tab FT D25 live 97 spec_l02Texts_lo 0 4) leave fuel (spec_l02Texts_4_sl s)) fun w => some (spec_l02Texts_4_out w)) := by kernel_rfl
theorem spec_l02Texts_4_h (A : List (List TC)) (C : List (List TC)) (i : Int) (ow : spec_l02Texts_4_ω) : ((spec_l02Texts_4_fin A C i)).val = some ow → ∃ fuel, loopN spec_l02Texts_4_st fuel (A, C, i) = some ow := by
  intro h
  have key : A.length = C.length → Typed tab (.slice 9) (.l A) → loopN spec_l02Texts_4_st (A.length + 1) (A, C, 0) = some (if allEq E_9 A C = true then .inr () else .inl ()) := by
    intro hl ht
    have hlen : A.length ≤ 140737488351232 := by have := typed_room ht; simp only [show (tab 9).bytes = 16 from rfl] at this; omega
    refine loopN_allEq A C E_9 (fun i => (A, C, (i : Int))) _ _ hl (fun i hi => ?_) ?_ A.length 0 (by omega)
    · show (spec_l02Texts_4_step A C (i : Int)).val = _
      unfold spec_l02Texts_4_step
      refine Tr.t (by simp; omega) ?_
      refine Tr.t (by constructor <;> omega) ?_
      refine Tr.t (by constructor <;> omega) ?_
      rw [wrap64 (i := (i : Int) + 1) (by omega) (by omega)]
      rw [Tr.val_br]
      show (if (!(E_9 (A.getD i []) (C.getD i []))) = true then _ else _) = _
      cases E_9 (A.getD i []) (C.getD i []) <;> rfl
    · show (spec_l02Texts_4_step A C (A.length : Int)).val = _
      refine Tr.n (by simp) ?_
      rfl
  simp only [spec_l02Texts_4_fin, Told.val] at h
  cases hk : allEq E_9 A C with
  | true =>
    rw [if_pos (show spec_l02Texts_k4_1 A C i = true from hk)] at h
    split at h
    · rename_i ho
      obtain ⟨hl, rfl, ht⟩ := is_iff.1 ho
      cases h
      refine ⟨_, (key hl ht).trans ?_⟩
      rw [hk]; rfl
    · cases h
  | false =>
    rw [if_neg (show ¬spec_l02Texts_k4_1 A C i = true from by rw [show spec_l02Texts_k4_1 A C i = allEq E_9 A C from rfl, hk]; simp)] at h
    split at h
    · rename_i ho
      obtain ⟨hl, rfl, ht⟩ := is_iff.1 ho
      cases h
      refine ⟨_, (key hl ht).trans ?_⟩
      rw [hk]; rfl
    · cases h
theorem spec_l02Texts_is4 : LoopIs tab FT D25 live 97 spec_l02Texts_lo 0 4 := by
  refine loop_told (sl := spec_l02Texts_4_sl) (step := spec_l02Texts_4_st) (out := spec_l02Texts_4_out) (lor := spec_l02Texts_lo4) (fin := fun x => (spec_l02Texts_4_fin (x.1) (x.2.1) (x.2.2))) (fun _ => rfl) ?_ (fun x n => spec_l02Texts_4_r x.1 x.2.1 x.2.2 n) (fun x ow => spec_l02Texts_4_h x.1 x.2.1 x.2.2 ow)
  intro s t h
  unfold spec_l02Texts_lo4 at h
  split at h
  · cases h; exact ⟨(_, _, _), rfl, rfl⟩
  · cases h
noncomputable def spec_l02Texts_t (A : List (List TC)) (C : List (List TC)) : Tr (Bool) := (.ite ((!((A.length : Int) == (C.length : Int))) = true) (.ok false)
  (.ite ((spec_l02Texts_k4_1 A C (0 : Int)) = true) (.ite ((spec_l02Texts_o4_2 A C (0 : Int)) = true) (.ok true)
    .no)
   (.ite ((spec_l02Texts_o4_3 A C (0 : Int)) = true) (.ok false)
    .no)))
def spec_l02Texts_mk (p : Bool) : Res := [(false, [⟨.bool, .sh, TC.b p⟩])]
noncomputable def spec_l02Texts_c (A : List (List TC)) (C : List (List TC)) : Bool := is (Typed tab (.slice 9) (.l A))
noncomputable def spec_l02Texts_v (A : List (List TC)) (C : List (List TC)) : Bool := allEq E_9 A C
theorem spec_l02Texts_l (A : List (List TC)) (C : List (List TC)) : (spec_l02Texts_c A C) = true → (spec_l02Texts_t A C).val = some (spec_l02Texts_v A C) := by
  intro h
  have ht := is_iff.1 h
  unfold spec_l02Texts_t
  by_cases hl : A.length = C.length
  · refine Tr.n (by simp [hl]) ?_
    cases hk : allEq E_9 A C with
    | true =>
      refine Tr.t (show allEq E_9 A C = true from hk) ?_
      refine Tr.t (is_true ⟨hl, rfl, ht⟩) ?_
      show _ = some (allEq E_9 A C); rw [hk]; rfl
    | false =>
      refine Tr.n (show ¬allEq E_9 A C = true from by rw [hk]; simp) ?_
      refine Tr.t (is_true ⟨hl, rfl, ht⟩) ?_
      show _ = some (allEq E_9 A C); rw [hk]; rfl
  · refine Tr.t (by simp; omega) ?_
    show _ = some (allEq E_9 A C)
    rw [allEq_ne hl]
    rfl
noncomputable def spec_l02Texts_S : List Arg → Option (Bool × Res) := fun xs => match xs with
  | [(false, [(.slice 9, TC.l A)]), (false, [(.slice 9, TC.l C)])] => some ((spec_l02Texts_c A C), spec_l02Texts_mk (spec_l02Texts_v A C))
  | _ => .none
theorem spec_l02Texts_e (A : List (List TC)) (C : List (List TC)) : runF tab FT D25 live 97 spec_l02Texts_lo [(false, [(.slice 9, TC.l A)]), (false, [(.slice 9, TC.l C)])] = (spec_l02Texts_t A C).run fun p => some (spec_l02Texts_mk p) := by kernel_rfl
theorem spec_l02Texts_s : ∀ xs r, spec_l02Texts_S xs = some (true, r) → runF tab FT D25 live 97 spec_l02Texts_lo xs = some r := by
  intro xs r h
  unfold spec_l02Texts_S at h
  split at h
  · simp only [Option.some.injEq, Prod.mk.injEq] at h
    obtain ⟨h1, rfl⟩ := h
    exact fun_told (spec_l02Texts_e _ _) (spec_l02Texts_l _ _) h1
  · cases h
noncomputable def D26 : Dt := also D25 97 spec_l02Texts_S
theorem d26 : DOk Go.Proofs.Try.prog tab D26 := d25.also mixed_ok tab_ok names_ok (fnLoops_one (by kernel_rfl) spec_l02Texts_is4) spec_l02Texts_s
/-! spec_l02Ints -/
def E_2 (x y : List TC) : Bool := ((nth x 0).int == (nth y 0).int)
abbrev spec_l02Ints_4_σ := List (List TC) × List (List TC) × Int
abbrev spec_l02Ints_4_ω := (Unit) ⊕ (Unit)
noncomputable def spec_l02Ints_4_step (A : List (List TC)) (C : List (List TC)) (i : Int) : Tr (spec_l02Ints_4_σ ⊕ spec_l02Ints_4_ω) := (.ite ((decide (i < (A.length : Int))) = true) (.ite ((0 : Int) ≤ i ∧ i < (A.length : Int)) (.ite ((0 : Int) ≤ i ∧ i < (C.length : Int)) (.ite ((!((nth (row A i) 0).int == (nth (row C i) 0).int)) = true) (.ok (.inr (.inl ())))
     (.ok (.inl (A, C, (IntKind.wrap .i64 (i + (1 : Int)))))))
    .no)
   .no)
  (.ok (.inr (.inr ()))))
noncomputable def spec_l02Ints_4_st : spec_l02Ints_4_σ → Tr (spec_l02Ints_4_σ ⊕ spec_l02Ints_4_ω) := fun x => (spec_l02Ints_4_step (x.1) (x.2.1) (x.2.2))
noncomputable def spec_l02Ints_k4_1 (A : List (List TC)) (C : List (List TC)) (i : Int) : Bool := allEq E_2 A C
noncomputable def spec_l02Ints_o4_2 (A : List (List TC)) (C : List (List TC)) (i : Int) : Bool := is (A.length = C.length ∧ i = 0 ∧ Typed tab (.slice 2) (.l A))
noncomputable def spec_l02Ints_o4_3 (A : List (List TC)) (C : List (List TC)) (i : Int) : Bool := is (A.length = C.length ∧ i = 0 ∧ Typed tab (.slice 2) (.l A))
noncomputable def spec_l02Ints_4_fin (A : List (List TC)) (C : List (List TC)) (i : Int) : Told spec_l02Ints_4_ω := (.br (spec_l02Ints_k4_1 A C i) (.leaf (spec_l02Ints_o4_2 A C i) (.inr ())) (.leaf (spec_l02Ints_o4_3 A C i) (.inl ())))
def spec_l02Ints_4_sl (x : spec_l02Ints_4_σ) : List Slot := [⟨.val false [⟨.slice 2, .sh, TC.l (x.1)⟩], ⟨0, 0⟩⟩, ⟨.val false [⟨.slice 2, .sh, TC.l (x.2.1)⟩], ⟨0, 0⟩⟩, ⟨.val false [⟨.int .i64, .sh, TC.i (x.2.2)⟩], ⟨0, 0⟩⟩]
def spec_l02Ints_4_out : spec_l02Ints_4_ω → Ex × List Slot := (Sum.elim (fun x => (.ret, [⟨.val false [⟨.bool, .sh, TC.b false⟩], ⟨0, 0⟩⟩])) (fun x => (.exit 0, [Slot.none])))
noncomputable def spec_l02Ints_lo4 : List Slot → Option (Told (Ex × List Slot)) := fun s => match s with
  | [⟨.val false [⟨.slice 2, .sh, TC.l A⟩], ⟨0, 0⟩⟩, ⟨.val false [⟨.slice 2, .sh, TC.l C⟩], ⟨0, 0⟩⟩, ⟨.val false [⟨.int .i64, .sh, TC.i i⟩], ⟨0, 0⟩⟩] => some (((spec_l02Ints_4_fin A C i)).map spec_l02Ints_4_out)
  | _ => .none
noncomputable def spec_l02Ints_lo : LoopTeller := fun r s => bif Nat.beq r 4 then spec_l02Ints_lo4 s else .none
theorem spec_l02Ints_4_r (A : List (List TC)) (C : List (List TC)) (i : Int) (fuel : Nat) : rounds (rnd tab FT D26 live 66 spec_l02Ints_lo 0 4) leave (fuel + 1) (spec_l02Ints_4_sl (A, C, i)) = ((spec_l02Ints_4_step A C i)).run (goOn (fun s => rounds (rnd tab FT D26 live 66 spec_l02Ints_lo 0 4) leave fuel (spec_l02Ints_4_sl s)) fun w => some (spec_l02Ints_4_out w)) := by kernel_rfl
theorem spec_l02Ints_4_h (A : List (List TC)) (C : List (List TC)) (i : Int) (ow : spec_l02Ints_4_ω) : ((spec_l02Ints_4_fin A C i)).val = some ow → ∃ fuel, loopN spec_l02Ints_4_st fuel (A, C, i) = some ow := by
  intro h
  have key : A.length = C.length → Typed tab (.slice 2) (.l A) → loopN spec_l02Ints_4_st (A.length + 1) (A, C, 0) = some (if allEq E_2 A C = true then .inr () else .inl ()) := by
    intro hl ht
    have hlen : A.length ≤ 140737488351232 := by have := typed_room ht; simp only [show (tab 2).bytes = 8 from rfl] at this; omega
    refine loopN_allEq A C E_2 (fun i => (A, C, (i : Int))) _ _ hl (fun i hi => ?_) ?_ A.length 0 (by omega)
    · show (spec_l02Ints_4_step A C (i : Int)).val = _
      unfold spec_l02Ints_4_step
      refine Tr.t (by simp; omega) ?_
      refine Tr.t (by constructor <;> omega) ?_
      refine Tr.t (by constructor <;> omega) ?_
      rw [wrap64 (i := (i : Int) + 1) (by omega) (by omega)]
      rw [Tr.val_br]
      show (if (!(E_2 (A.getD i []) (C.getD i []))) = true then _ else _) = _
      cases E_2 (A.getD i []) (C.getD i []) <;> rfl
    · show (spec_l02Ints_4_step A C (A.length : Int)).val = _
      refine Tr.n (by simp) ?_
      rfl
  simp only [spec_l02Ints_4_fin, Told.val] at h
  cases hk : allEq E_2 A C with
  | true =>
    rw [if_pos (show spec_l02Ints_k4_1 A C i = true from hk)] at h
    split at h
    · rename_i ho
      obtain ⟨hl, rfl, ht⟩ := is_iff.1 ho
      cases h
      refine ⟨_, (key hl ht).trans ?_⟩
      rw [hk]; rfl
    · cases h
  | false =>
    rw [if_neg (show ¬spec_l02Ints_k4_1 A C i = true from by rw [show spec_l02Ints_k4_1 A C i = allEq E_2 A C from rfl, hk]; simp)] at h
    split at h
    · rename_i ho
      obtain ⟨hl, rfl, ht⟩ := is_iff.1 ho
      cases h
      refine ⟨_, (key hl ht).trans ?_⟩
      rw [hk]; rfl
    · cases h
theorem spec_l02Ints_is4 : LoopIs tab FT D26 live 66 spec_l02Ints_lo 0 4 := by
  refine loop_told (sl := spec_l02Ints_4_sl) (step := spec_l02Ints_4_st) (out := spec_l02Ints_4_out) (lor := spec_l02Ints_lo4) (fin := fun x => (spec_l02Ints_4_fin (x.1) (x.2.1) (x.2.2))) (fun _ => rfl) ?_ (fun x n => spec_l02Ints_4_r x.1 x.2.1 x.2.2 n) (fun x ow => spec_l02Ints_4_h x.1 x.2.1 x.2.2 ow)
  intro s t h
  unfold spec_l02Ints_lo4 at h
  split at h
  · cases h; exact ⟨(_, _, _), rfl, rfl⟩
  · cases h
noncomputable def spec_l02Ints_t (A : List (List TC)) (C : List (List TC)) : Tr (Bool) := (.ite ((!((A.length : Int) == (C.length : Int))) = true) (.ok false)
  (.ite ((spec_l02Ints_k4_1 A C (0 : Int)) = true) (.ite ((spec_l02Ints_o4_2 A C (0 : Int)) = true) (.ok true)
    .no)
   (.ite ((spec_l02Ints_o4_3 A C (0 : Int)) = true) (.ok false)
    .no)))
def spec_l02Ints_mk (p : Bool) : Res := [(false, [⟨.bool, .sh, TC.b p⟩])]
noncomputable def spec_l02Ints_c (A : List (List TC)) (C : List (List TC)) : Bool := is (Typed tab (.slice 2) (.l A))
noncomputable def spec_l02Ints_v (A : List (List TC)) (C : List (List TC)) : Bool := allEq E_2 A C
theorem spec_l02Ints_l (A : List (List TC)) (C : List (List TC)) : (spec_l02Ints_c A C) = true → (spec_l02Ints_t A C).val = some (spec_l02Ints_v A C) := by
  intro h
  have ht := is_iff.1 h
  unfold spec_l02Ints_t
  by_cases hl : A.length = C.length
  · refine Tr.n (by simp [hl]) ?_
    cases hk : allEq E_2 A C with
    | true =>
      refine Tr.t (show allEq E_2 A C = true from hk) ?_
      refine Tr.t (is_true ⟨hl, rfl, ht⟩) ?_
      show _ = some (allEq E_2 A C); rw [hk]; rfl
    | false =>
      refine Tr.n (show ¬allEq E_2 A C = true from by rw [hk]; simp) ?_
      refine Tr.t (is_true ⟨hl, rfl, ht⟩) ?_
      show _ = some (allEq E_2 A C); rw [hk]; rfl
  · refine Tr.t (by simp; omega) ?_
    show _ = some (allEq E_2 A C)
    rw [allEq_ne hl]
    rfl
noncomputable def spec_l02Ints_S : List Arg → Option (Bool × Res) := fun xs => match xs with
  | [(false, [(.slice 2, TC.l A)]), (false, [(.slice 2, TC.l C)])] => some ((spec_l02Ints_c A C), spec_l02Ints_mk (spec_l02Ints_v A C))
  | _ => .none
theorem spec_l02Ints_e (A : List (List TC)) (C : List (List TC)) : runF tab FT D26 live 66 spec_l02Ints_lo [(false, [(.slice 2, TC.l A)]), (false, [(.slice 2, TC.l C)])] = (spec_l02Ints_t A C).run fun p => some (spec_l02Ints_mk p) := by kernel_rfl
theorem spec_l02Ints_s : ∀ xs r, spec_l02Ints_S xs = some (true, r) → runF tab FT D26 live 66 spec_l02Ints_lo xs = some r := by
  intro xs r h
  unfold spec_l02Ints_S at h
  split at h
  · simp only [Option.some.injEq, Prod.mk.injEq] at h
    obtain ⟨h1, rfl⟩ := h
    exact fun_told (spec_l02Ints_e _ _) (spec_l02Ints_l _ _) h1
  · cases h
noncomputable def D27 : Dt := also D26 66 spec_l02Ints_S
theorem d27 : DOk Go.Proofs.Try.prog tab D27 := d26.also mixed_ok tab_ok names_ok (fnLoops_one (by kernel_rfl) spec_l02Ints_is4) spec_l02Ints_s
/-! spec_SameType -/
noncomputable def spec_SameType_f9 (k : Int) (s : Int) (sg : Bool) (bg : Bool) (NA : List (List TC)) (NU : List (List TC)) (ME : List (List TC)) (BA : List (List TC)) (ct : Int) (k2 : Int) (s2 : Int) (sg2 : Bool) (bg2 : Bool) (NA2 : List (List TC)) (NU2 : List (List TC)) (ME2 : List (List TC)) (BA2 : List (List TC)) (ct2 : Int) (i : Int) : (Unit) ⊕ ((Int × Int × Bool × Bool × List (List TC) × List (List TC) × List (List TC) × List (List TC) × Int × Int × Int × Bool × Bool × List (List TC) × List (List TC) × List (List TC) × List (List TC) × Int) ⊕ (Int × Int × Bool × Bool × List (List TC) × List (List TC) × List (List TC) × List (List TC) × Int × Int × Int × Bool × Bool × List (List TC) × List (List TC) × List (List TC) × List (List TC) × Int)) := (bif (!(spec_SameType_rv ((nth (row BA i) 0).int) ((nth (row BA i) 1).int) ((nth (row BA i) 2).bool) ((nth (row BA i) 3).bool) ((nth (row BA i) 4).list) ((nth (row BA i) 5).list) ((nth (row BA i) 6).list) ((nth (row BA i) 7).list) ((nth (row BA i) 8).int) ((nth (row BA2 i) 0).int) ((nth (row BA2 i) 1).int) ((nth (row BA2 i) 2).bool) ((nth (row BA2 i) 3).bool) ((nth (row BA2 i) 4).list) ((nth (row BA2 i) 5).list) ((nth (row BA2 i) 6).list) ((nth (row BA2 i) 7).list) ((nth (row BA2 i) 8).int))) then (.inr (.inl (k, s, sg, bg, NA, NU, ME, BA, ct, k2, s2, sg2, bg2, NA2, NU2, ME2, BA2, ct2))) else (.inl ()))
noncomputable def spec_SameType_e9 (k : Int) (s : Int) (sg : Bool) (bg : Bool) (NA : List (List TC)) (NU : List (List TC)) (ME : List (List TC)) (BA : List (List TC)) (ct : Int) (k2 : Int) (s2 : Int) (sg2 : Bool) (bg2 : Bool) (NA2 : List (List TC)) (NU2 : List (List TC)) (ME2 : List (List TC)) (BA2 : List (List TC)) (ct2 : Int) : (Int × Int × Bool × Bool × List (List TC) × List (List TC) × List (List TC) × List (List TC) × Int × Int × Int × Bool × Bool × List (List TC) × List (List TC) × List (List TC) × List (List TC) × Int) ⊕ (Int × Int × Bool × Bool × List (List TC) × List (List TC) × List (List TC) × List (List TC) × Int × Int × Int × Bool × Bool × List (List TC) × List (List TC) × List (List TC) × List (List TC) × Int) := .inr (k, s, sg, bg, NA, NU, ME, BA, ct, k2, s2, sg2, bg2, NA2, NU2, ME2, BA2, ct2)
noncomputable def spec_SameType_R9 (k : Int) (s : Int) (sg : Bool) (bg : Bool) (NA : List (List TC)) (NU : List (List TC)) (ME : List (List TC)) (BA : List (List TC)) (ct : Int) (k2 : Int) (s2 : Int) (sg2 : Bool) (bg2 : Bool) (NA2 : List (List TC)) (NU2 : List (List TC)) (ME2 : List (List TC)) (BA2 : List (List TC)) (ct2 : Int) (i : Int) : (Int × Int × Bool × Bool × List (List TC) × List (List TC) × List (List TC) × List (List TC) × Int × Int × Int × Bool × Bool × List (List TC) × List (List TC) × List (List TC) × List (List TC) × Int) ⊕ (Int × Int × Bool × Bool × List (List TC) × List (List TC) × List (List TC) × List (List TC) × Int × Int × Int × Bool × Bool × List (List TC) × List (List TC) × List (List TC) × List (List TC) × Int) := iter (fun i a => (spec_SameType_f9 k s sg bg NA NU ME BA ct k2 s2 sg2 bg2 NA2 NU2 ME2 BA2 ct2 (i : Int))) (fun a => (spec_SameType_e9 k s sg bg NA NU ME BA ct k2 s2 sg2 bg2 NA2 NU2 ME2 BA2 ct2)) (BA.length) 0 ()
abbrev spec_SameType_9_σ := Int × Int × Bool × Bool × List (List TC) × List (List TC) × List (List TC) × List (List TC) × Int × Int × Int × Bool × Bool × List (List TC) × List (List TC) × List (List TC) × List (List TC) × Int × Int
abbrev spec_SameType_9_ω := (Int × Int × Bool × Bool × List (List TC) × List (List TC) × List (List TC) × List (List TC) × Int × Int × Int × Bool × Bool × List (List TC) × List (List TC) × List (List TC) × List (List TC) × Int) ⊕ (Int × Int × Bool × Bool × List (List TC) × List (List TC) × List (List TC) × List (List TC) × Int × Int × Int × Bool × Bool × List (List TC) × List (List TC) × List (List TC) × List (List TC) × Int)
noncomputable def spec_SameType_9_step (k : Int) (s : Int) (sg : Bool) (bg : Bool) (NA : List (List TC)) (NU : List (List TC)) (ME : List (List TC)) (BA : List (List TC)) (ct : Int) (k2 : Int) (s2 : Int) (sg2 : Bool) (bg2 : Bool) (NA2 : List (List TC)) (NU2 : List (List TC)) (ME2 : List (List TC)) (BA2 : List (List TC)) (ct2 : Int) (i : Int) : Tr (spec_SameType_9_σ ⊕ spec_SameType_9_ω) := (.ite ((decide (i < (BA.length : Int))) = true) (.ite ((0 : Int) ≤ i ∧ i < (BA.length : Int)) (.ite ((0 : Int) ≤ i ∧ i < (BA2.length : Int)) (.ite ((spec_SameType_rc ((nth (row BA i) 0).int) ((nth (row BA i) 1).int) ((nth (row BA i) 2).bool) ((nth (row BA i) 3).bool) ((nth (row BA i) 4).list) ((nth (row BA i) 5).list) ((nth (row BA i) 6).list) ((nth (row BA i) 7).list) ((nth (row BA i) 8).int) ((nth (row BA2 i) 0).int) ((nth (row BA2 i) 1).int) ((nth (row BA2 i) 2).bool) ((nth (row BA2 i) 3).bool) ((nth (row BA2 i) 4).list) ((nth (row BA2 i) 5).list) ((nth (row BA2 i) 6).list) ((nth (row BA2 i) 7).list) ((nth (row BA2 i) 8).int)) = true) (.ite ((!(spec_SameType_rv ((nth (row BA i) 0).int) ((nth (row BA i) 1).int) ((nth (row BA i) 2).bool) ((nth (row BA i) 3).bool) ((nth (row BA i) 4).list) ((nth (row BA i) 5).list) ((nth (row BA i) 6).list) ((nth (row BA i) 7).list) ((nth (row BA i) 8).int) ((nth (row BA2 i) 0).int) ((nth (row BA2 i) 1).int) ((nth (row BA2 i) 2).bool) ((nth (row BA2 i) 3).bool) ((nth (row BA2 i) 4).list) ((nth (row BA2 i) 5).list) ((nth (row BA2 i) 6).list) ((nth (row BA2 i) 7).list) ((nth (row BA2 i) 8).int))) = true) (.ok (.inr (.inl (k, s, sg, bg, NA, NU, ME, BA, ct, k2, s2, sg2, bg2, NA2, NU2, ME2, BA2, ct2))))
      (.ok (.inl (k, s, sg, bg, NA, NU, ME, BA, ct, k2, s2, sg2, bg2, NA2, NU2, ME2, BA2, ct2, (IntKind.wrap .i64 (i + (1 : Int)))))))
     .no)
    .no)
   .no)
  (.ok (.inr (.inr (k, s, sg, bg, NA, NU, ME, BA, ct, k2, s2, sg2, bg2, NA2, NU2, ME2, BA2, ct2)))))
noncomputable def spec_SameType_9_st : spec_SameType_9_σ → Tr (spec_SameType_9_σ ⊕ spec_SameType_9_ω) := fun x => (spec_SameType_9_step (x.1) (x.2.1) (x.2.2.1) (x.2.2.2.1) (x.2.2.2.2.1) (x.2.2.2.2.2.1) (x.2.2.2.2.2.2.1) (x.2.2.2.2.2.2.2.1) (x.2.2.2.2.2.2.2.2.1) (x.2.2.2.2.2.2.2.2.2.1) (x.2.2.2.2.2.2.2.2.2.2.1) (x.2.2.2.2.2.2.2.2.2.2.2.1) (x.2.2.2.2.2.2.2.2.2.2.2.2.1) (x.2.2.2.2.2.2.2.2.2.2.2.2.2.1) (x.2.2.2.2.2.2.2.2.2.2.2.2.2.2.1) (x.2.2.2.2.2.2.2.2.2.2.2.2.2.2.2.1) (x.2.2.2.2.2.2.2.2.2.2.2.2.2.2.2.2.1) (x.2.2.2.2.2.2.2.2.2.2.2.2.2.2.2.2.2.1) (x.2.2.2.2.2.2.2.2.2.2.2.2.2.2.2.2.2.2))
noncomputable def spec_SameType_k9_1 (k : Int) (s : Int) (sg : Bool) (bg : Bool) (NA : List (List TC)) (NU : List (List TC)) (ME : List (List TC)) (BA : List (List TC)) (ct : Int) (k2 : Int) (s2 : Int) (sg2 : Bool) (bg2 : Bool) (NA2 : List (List TC)) (NU2 : List (List TC)) (ME2 : List (List TC)) (BA2 : List (List TC)) (ct2 : Int) (i : Int) : Bool := sumIs (spec_SameType_R9 k s sg bg NA NU ME BA ct k2 s2 sg2 bg2 NA2 NU2 ME2 BA2 ct2 i)
noncomputable def spec_SameType_o9_2 (k : Int) (s : Int) (sg : Bool) (bg : Bool) (NA : List (List TC)) (NU : List (List TC)) (ME : List (List TC)) (BA : List (List TC)) (ct : Int) (k2 : Int) (s2 : Int) (sg2 : Bool) (bg2 : Bool) (NA2 : List (List TC)) (NU2 : List (List TC)) (ME2 : List (List TC)) (BA2 : List (List TC)) (ct2 : Int) (i : Int) : Bool := is (i = 0 ∧ BA.length = BA2.length ∧ BA.length ≤ 140737488355328 ∧ (∀ x y : List TC, x ∈ BA → y ∈ BA2 → spec_SameType_rc (nth x 0).int (nth x 1).int (nth x 2).bool (nth x 3).bool (nth x 4).list (nth x 5).list (nth x 6).list (nth x 7).list (nth x 8).int (nth y 0).int (nth y 1).int (nth y 2).bool (nth y 3).bool (nth y 4).list (nth y 5).list (nth y 6).list (nth y 7).list (nth y 8).int = true))
noncomputable def spec_SameType_o9_3 (k : Int) (s : Int) (sg : Bool) (bg : Bool) (NA : List (List TC)) (NU : List (List TC)) (ME : List (List TC)) (BA : List (List TC)) (ct : Int) (k2 : Int) (s2 : Int) (sg2 : Bool) (bg2 : Bool) (NA2 : List (List TC)) (NU2 : List (List TC)) (ME2 : List (List TC)) (BA2 : List (List TC)) (ct2 : Int) (i : Int) : Bool := is (i = 0 ∧ BA.length = BA2.length ∧ BA.length ≤ 140737488355328 ∧ (∀ x y : List TC, x ∈ BA → y ∈ BA2 → spec_SameType_rc (nth x 0).int (nth x 1).int (nth x 2).bool (nth x 3).bool (nth x 4).list (nth x 5).list (nth x 6).list (nth x 7).list (nth x 8).int (nth y 0).int (nth y 1).int (nth y 2).bool (nth y 3).bool (nth y 4).list (nth y 5).list (nth y 6).list (nth y 7).list (nth y 8).int = true))
noncomputable def spec_SameType_9_fin (k : Int) (s : Int) (sg : Bool) (bg : Bool) (NA : List (List TC)) (NU : List (List TC)) (ME : List (List TC)) (BA : List (List TC)) (ct : Int) (k2 : Int) (s2 : Int) (sg2 : Bool) (bg2 : Bool) (NA2 : List (List TC)) (NU2 : List (List TC)) (ME2 : List (List TC)) (BA2 : List (List TC)) (ct2 : Int) (i : Int) : Told spec_SameType_9_ω := (.br (spec_SameType_k9_1 k s sg bg NA NU ME BA ct k2 s2 sg2 bg2 NA2 NU2 ME2 BA2 ct2 i) (.leaf (spec_SameType_o9_2 k s sg bg NA NU ME BA ct k2 s2 sg2 bg2 NA2 NU2 ME2 BA2 ct2 i) (.inl (k, s, sg, bg, NA, NU, ME, BA, ct, k2, s2, sg2, bg2, NA2, NU2, ME2, BA2, ct2))) (.leaf (spec_SameType_o9_3 k s sg bg NA NU ME BA ct k2 s2 sg2 bg2 NA2 NU2 ME2 BA2 ct2 i) (.inr (k, s, sg, bg, NA, NU, ME, BA, ct, k2, s2, sg2, bg2, NA2, NU2, ME2, BA2, ct2))))
def spec_SameType_9_sl (x : spec_SameType_9_σ) : List Slot := [⟨.bx 55 [⟨.int .i64, .sh, TC.i (x.1)⟩, ⟨.int .i64, .sh, TC.i (x.2.1)⟩, ⟨.bool, .sh, TC.b (x.2.2.1)⟩, ⟨.bool, .sh, TC.b (x.2.2.2.1)⟩, ⟨.slice 9, .sh, TC.l (x.2.2.2.2.1)⟩, ⟨.slice 2, .sh, TC.l (x.2.2.2.2.2.1)⟩, ⟨.slice 147, .sh, TC.l (x.2.2.2.2.2.2.1)⟩, ⟨.slice 55, .sh, TC.l (x.2.2.2.2.2.2.2.1)⟩, ⟨.int .i64, .sh, TC.i (x.2.2.2.2.2.2.2.2.1)⟩], ⟨0, 0⟩⟩, ⟨.bx 55 [⟨.int .i64, .sh, TC.i (x.2.2.2.2.2.2.2.2.2.1)⟩, ⟨.int .i64, .sh, TC.i (x.2.2.2.2.2.2.2.2.2.2.1)⟩, ⟨.bool, .sh, TC.b (x.2.2.2.2.2.2.2.2.2.2.2.1)⟩, ⟨.bool, .sh, TC.b (x.2.2.2.2.2.2.2.2.2.2.2.2.1)⟩, ⟨.slice 9, .sh, TC.l (x.2.2.2.2.2.2.2.2.2.2.2.2.2.1)⟩, ⟨.slice 2, .sh, TC.l (x.2.2.2.2.2.2.2.2.2.2.2.2.2.2.1)⟩, ⟨.slice 147, .sh, TC.l (x.2.2.2.2.2.2.2.2.2.2.2.2.2.2.2.1)⟩, ⟨.slice 55, .sh, TC.l (x.2.2.2.2.2.2.2.2.2.2.2.2.2.2.2.2.1)⟩, ⟨.int .i64, .sh, TC.i (x.2.2.2.2.2.2.2.2.2.2.2.2.2.2.2.2.2.1)⟩], ⟨0, 0⟩⟩, ⟨.val false [⟨.int .i64, .sh, TC.i (x.2.2.2.2.2.2.2.2.2.2.2.2.2.2.2.2.2.2)⟩], ⟨0, 0⟩⟩]
def spec_SameType_9_out : spec_SameType_9_ω → Ex × List Slot := (Sum.elim (fun x => (.ret, [⟨.bx 55 [⟨.int .i64, .sh, TC.i (x.1)⟩, ⟨.int .i64, .sh, TC.i (x.2.1)⟩, ⟨.bool, .sh, TC.b (x.2.2.1)⟩, ⟨.bool, .sh, TC.b (x.2.2.2.1)⟩, ⟨.slice 9, .sh, TC.l (x.2.2.2.2.1)⟩, ⟨.slice 2, .sh, TC.l (x.2.2.2.2.2.1)⟩, ⟨.slice 147, .sh, TC.l (x.2.2.2.2.2.2.1)⟩, ⟨.slice 55, .sh, TC.l (x.2.2.2.2.2.2.2.1)⟩, ⟨.int .i64, .sh, TC.i (x.2.2.2.2.2.2.2.2.1)⟩], ⟨0, 0⟩⟩, ⟨.bx 55 [⟨.int .i64, .sh, TC.i (x.2.2.2.2.2.2.2.2.2.1)⟩, ⟨.int .i64, .sh, TC.i (x.2.2.2.2.2.2.2.2.2.2.1)⟩, ⟨.bool, .sh, TC.b (x.2.2.2.2.2.2.2.2.2.2.2.1)⟩, ⟨.bool, .sh, TC.b (x.2.2.2.2.2.2.2.2.2.2.2.2.1)⟩, ⟨.slice 9, .sh, TC.l (x.2.2.2.2.2.2.2.2.2.2.2.2.2.1)⟩, ⟨.slice 2, .sh, TC.l (x.2.2.2.2.2.2.2.2.2.2.2.2.2.2.1)⟩, ⟨.slice 147, .sh, TC.l (x.2.2.2.2.2.2.2.2.2.2.2.2.2.2.2.1)⟩, ⟨.slice 55, .sh, TC.l (x.2.2.2.2.2.2.2.2.2.2.2.2.2.2.2.2.1)⟩, ⟨.int .i64, .sh, TC.i (x.2.2.2.2.2.2.2.2.2.2.2.2.2.2.2.2.2)⟩], ⟨0, 0⟩⟩, ⟨.val false [⟨.bool, .sh, TC.b false⟩], ⟨0, 0⟩⟩])) (fun x => (.exit 2, [⟨.bx 55 [⟨.int .i64, .sh, TC.i (x.1)⟩, ⟨.int .i64, .sh, TC.i (x.2.1)⟩, ⟨.bool, .sh, TC.b (x.2.2.1)⟩, ⟨.bool, .sh, TC.b (x.2.2.2.1)⟩, ⟨.slice 9, .sh, TC.l (x.2.2.2.2.1)⟩, ⟨.slice 2, .sh, TC.l (x.2.2.2.2.2.1)⟩, ⟨.slice 147, .sh, TC.l (x.2.2.2.2.2.2.1)⟩, ⟨.slice 55, .sh, TC.l (x.2.2.2.2.2.2.2.1)⟩, ⟨.int .i64, .sh, TC.i (x.2.2.2.2.2.2.2.2.1)⟩], ⟨0, 0⟩⟩, ⟨.bx 55 [⟨.int .i64, .sh, TC.i (x.2.2.2.2.2.2.2.2.2.1)⟩, ⟨.int .i64, .sh, TC.i (x.2.2.2.2.2.2.2.2.2.2.1)⟩, ⟨.bool, .sh, TC.b (x.2.2.2.2.2.2.2.2.2.2.2.1)⟩, ⟨.bool, .sh, TC.b (x.2.2.2.2.2.2.2.2.2.2.2.2.1)⟩, ⟨.slice 9, .sh, TC.l (x.2.2.2.2.2.2.2.2.2.2.2.2.2.1)⟩, ⟨.slice 2, .sh, TC.l (x.2.2.2.2.2.2.2.2.2.2.2.2.2.2.1)⟩, ⟨.slice 147, .sh, TC.l (x.2.2.2.2.2.2.2.2.2.2.2.2.2.2.2.1)⟩, ⟨.slice 55, .sh, TC.l (x.2.2.2.2.2.2.2.2.2.2.2.2.2.2.2.2.1)⟩, ⟨.int .i64, .sh, TC.i (x.2.2.2.2.2.2.2.2.2.2.2.2.2.2.2.2.2)⟩], ⟨0, 0⟩⟩, Slot.none])))
noncomputable def spec_SameType_lo9 : List Slot → Option (Told (Ex × List Slot)) := fun s => match s with
  | [⟨.bx 55 [⟨.int .i64, .sh, TC.i k⟩, ⟨.int .i64, .sh, TC.i s⟩, ⟨.bool, .sh, TC.b sg⟩, ⟨.bool, .sh, TC.b bg⟩, ⟨.slice 9, .sh, TC.l NA⟩, ⟨.slice 2, .sh, TC.l NU⟩, ⟨.slice 147, .sh, TC.l ME⟩, ⟨.slice 55, .sh, TC.l BA⟩, ⟨.int .i64, .sh, TC.i ct⟩], ⟨0, 0⟩⟩, ⟨.bx 55 [⟨.int .i64, .sh, TC.i k2⟩, ⟨.int .i64, .sh, TC.i s2⟩, ⟨.bool, .sh, TC.b sg2⟩, ⟨.bool, .sh, TC.b bg2⟩, ⟨.slice 9, .sh, TC.l NA2⟩, ⟨.slice 2, .sh, TC.l NU2⟩, ⟨.slice 147, .sh, TC.l ME2⟩, ⟨.slice 55, .sh, TC.l BA2⟩, ⟨.int .i64, .sh, TC.i ct2⟩], ⟨0, 0⟩⟩, ⟨.val false [⟨.int .i64, .sh, TC.i i⟩], ⟨0, 0⟩⟩] => some (((spec_SameType_9_fin k s sg bg NA NU ME BA ct k2 s2 sg2 bg2 NA2 NU2 ME2 BA2 ct2 i)).map spec_SameType_9_out)
  | _ => .none
noncomputable def spec_SameType_f4 (k : Int) (s : Int) (sg : Bool) (bg : Bool) (NA : List (List TC)) (NU : List (List TC)) (ME : List (List TC)) (BA : List (List TC)) (ct : Int) (k2 : Int) (s2 : Int) (sg2 : Bool) (bg2 : Bool) (NA2 : List (List TC)) (NU2 : List (List TC)) (ME2 : List (List TC)) (BA2 : List (List TC)) (ct2 : Int) (i : Int) : (Unit) ⊕ ((Int × Int × Bool × Bool × List (List TC) × List (List TC) × List (List TC) × List (List TC) × Int × Int × Int × Bool × Bool × List (List TC) × List (List TC) × List (List TC) × List (List TC) × Int) ⊕ (Int × Int × Bool × Bool × List (List TC) × List (List TC) × List (List TC) × List (List TC) × Int × Int × Int × Bool × Bool × List (List TC) × List (List TC) × List (List TC) × List (List TC) × Int)) := (bif (!((nth (row ME i) 0).str == (nth (row ME2 i) 0).str)) then (.inr (.inl (k, s, sg, bg, NA, NU, ME, BA, ct, k2, s2, sg2, bg2, NA2, NU2, ME2, BA2, ct2))) else (bif (!((nth (row ME i) 1).int == (nth (row ME2 i) 1).int)) then (.inr (.inl (k, s, sg, bg, NA, NU, ME, BA, ct, k2, s2, sg2, bg2, NA2, NU2, ME2, BA2, ct2))) else (bif (!(spec_SameType_rv ((nth (row ME i) 2).int) ((nth (row ME i) 3).int) ((nth (row ME i) 4).bool) ((nth (row ME i) 5).bool) ((nth (row ME i) 6).list) ((nth (row ME i) 7).list) ((nth (row ME i) 8).list) ((nth (row ME i) 9).list) ((nth (row ME i) 10).int) ((nth (row ME2 i) 2).int) ((nth (row ME2 i) 3).int) ((nth (row ME2 i) 4).bool) ((nth (row ME2 i) 5).bool) ((nth (row ME2 i) 6).list) ((nth (row ME2 i) 7).list) ((nth (row ME2 i) 8).list) ((nth (row ME2 i) 9).list) ((nth (row ME2 i) 10).int))) then (.inr (.inl (k, s, sg, bg, NA, NU, ME, BA, ct, k2, s2, sg2, bg2, NA2, NU2, ME2, BA2, ct2))) else (.inl ()))))
noncomputable def spec_SameType_e4 (k : Int) (s : Int) (sg : Bool) (bg : Bool) (NA : List (List TC)) (NU : List (List TC)) (ME : List (List TC)) (BA : List (List TC)) (ct : Int) (k2 : Int) (s2 : Int) (sg2 : Bool) (bg2 : Bool) (NA2 : List (List TC)) (NU2 : List (List TC)) (ME2 : List (List TC)) (BA2 : List (List TC)) (ct2 : Int) : (Int × Int × Bool × Bool × List (List TC) × List (List TC) × List (List TC) × List (List TC) × Int × Int × Int × Bool × Bool × List (List TC) × List (List TC) × List (List TC) × List (List TC) × Int) ⊕ (Int × Int × Bool × Bool × List (List TC) × List (List TC) × List (List TC) × List (List TC) × Int × Int × Int × Bool × Bool × List (List TC) × List (List TC) × List (List TC) × List (List TC) × Int) := .inr (k, s, sg, bg, NA, NU, ME, BA, ct, k2, s2, sg2, bg2, NA2, NU2, ME2, BA2, ct2)
noncomputable def spec_SameType_R4 (k : Int) (s : Int) (sg : Bool) (bg : Bool) (NA : List (List TC)) (NU : List (List TC)) (ME : List (List TC)) (BA : List (List TC)) (ct : Int) (k2 : Int) (s2 : Int) (sg2 : Bool) (bg2 : Bool) (NA2 : List (List TC)) (NU2 : List (List TC)) (ME2 : List (List TC)) (BA2 : List (List TC)) (ct2 : Int) (i : Int) : (Int × Int × Bool × Bool × List (List TC) × List (List TC) × List (List TC) × List (List TC) × Int × Int × Int × Bool × Bool × List (List TC) × List (List TC) × List (List TC) × List (List TC) × Int) ⊕ (Int × Int × Bool × Bool × List (List TC) × List (List TC) × List (List TC) × List (List TC) × Int × Int × Int × Bool × Bool × List (List TC) × List (List TC) × List (List TC) × List (List TC) × Int) := iter (fun i a => (spec_SameType_f4 k s sg bg NA NU ME BA ct k2 s2 sg2 bg2 NA2 NU2 ME2 BA2 ct2 (i : Int))) (fun a => (spec_SameType_e4 k s sg bg NA NU ME BA ct k2 s2 sg2 bg2 NA2 NU2 ME2 BA2 ct2)) (ME.length) 0 ()
abbrev spec_SameType_4_σ := Int × Int × Bool × Bool × List (List TC) × List (List TC) × List (List TC) × List (List TC) × Int × Int × Int × Bool × Bool × List (List TC) × List (List TC) × List (List TC) × List (List TC) × Int × Int
abbrev spec_SameType_4_ω := (Int × Int × Bool × Bool × List (List TC) × List (List TC) × List (List TC) × List (List TC) × Int × Int × Int × Bool × Bool × List (List TC) × List (List TC) × List (List TC) × List (List TC) × Int) ⊕ (Int × Int × Bool × Bool × List (List TC) × List (List TC) × List (List TC) × List (List TC) × Int × Int × Int × Bool × Bool × List (List TC) × List (List TC) × List (List TC) × List (List TC) × Int)
noncomputable def spec_SameType_4_step (k : Int) (s : Int) (sg : Bool) (bg : Bool) (NA : List (List TC)) (NU : List (List TC)) (ME : List (List TC)) (BA : List (List TC)) (ct : Int) (k2 : Int) (s2 : Int) (sg2 : Bool) (bg2 : Bool) (NA2 : List (List TC)) (NU2 : List (List TC)) (ME2 : List (List TC)) (BA2 : List (List TC)) (ct2 : Int) (i : Int) : Tr (spec_SameType_4_σ ⊕ spec_SameType_4_ω) := (.ite ((decide (i < (ME.length : Int))) = true) (.ite ((0 : Int) ≤ i ∧ i < (ME.length : Int)) (.ite ((0 : Int) ≤ i ∧ i < (ME2.length : Int)) (.ite ((!((nth (row ME i) 0).str == (nth (row ME2 i) 0).str)) = true) (.ok (.inr (.inl (k, s, sg, bg, NA, NU, ME, BA, ct, k2, s2, sg2, bg2, NA2, NU2, ME2, BA2, ct2))))
     (.ite ((0 : Int) ≤ i ∧ i < (ME.length : Int)) (.ite ((0 : Int) ≤ i ∧ i < (ME2.length : Int)) (.ite ((!((nth (row ME i) 1).int == (nth (row ME2 i) 1).int)) = true) (.ok (.inr (.inl (k, s, sg, bg, NA, NU, ME, BA, ct, k2, s2, sg2, bg2, NA2, NU2, ME2, BA2, ct2))))
        (.ite ((0 : Int) ≤ i ∧ i < (ME.length : Int)) (.ite ((0 : Int) ≤ i ∧ i < (ME2.length : Int)) (.ite ((spec_SameType_rc ((nth (row ME i) 2).int) ((nth (row ME i) 3).int) ((nth (row ME i) 4).bool) ((nth (row ME i) 5).bool) ((nth (row ME i) 6).list) ((nth (row ME i) 7).list) ((nth (row ME i) 8).list) ((nth (row ME i) 9).list) ((nth (row ME i) 10).int) ((nth (row ME2 i) 2).int) ((nth (row ME2 i) 3).int) ((nth (row ME2 i) 4).bool) ((nth (row ME2 i) 5).bool) ((nth (row ME2 i) 6).list) ((nth (row ME2 i) 7).list) ((nth (row ME2 i) 8).list) ((nth (row ME2 i) 9).list) ((nth (row ME2 i) 10).int)) = true) (.ite ((!(spec_SameType_rv ((nth (row ME i) 2).int) ((nth (row ME i) 3).int) ((nth (row ME i) 4).bool) ((nth (row ME i) 5).bool) ((nth (row ME i) 6).list) ((nth (row ME i) 7).list) ((nth (row ME i) 8).list) ((nth (row ME i) 9).list) ((nth (row ME i) 10).int) ((nth (row ME2 i) 2).int) ((nth (row ME2 i) 3).int) ((nth (row ME2 i) 4).bool) ((nth (row ME2 i) 5).bool) ((nth (row ME2 i) 6).list) ((nth (row ME2 i) 7).list) ((nth (row ME2 i) 8).list) ((nth (row ME2 i) 9).list) ((nth (row ME2 i) 10).int))) = true) (.ok (.inr (.inl (k, s, sg, bg, NA, NU, ME, BA, ct, k2, s2, sg2, bg2, NA2, NU2, ME2, BA2, ct2))))
            (.ok (.inl (k, s, sg, bg, NA, NU, ME, BA, ct, k2, s2, sg2, bg2, NA2, NU2, ME2, BA2, ct2, (IntKind.wrap .i64 (i + (1 : Int)))))))
           .no)
          .no)
         .no))
       .no)
      .no))
    .no)
   .no)
  (.ok (.inr (.inr (k, s, sg, bg, NA, NU, ME, BA, ct, k2, s2, sg2, bg2, NA2, NU2, ME2, BA2, ct2)))))
noncomputable def spec_SameType_4_st : spec_SameType_4_σ → Tr (spec_SameType_4_σ ⊕ spec_SameType_4_ω) := fun x => (spec_SameType_4_step (x.1) (x.2.1) (x.2.2.1) (x.2.2.2.1) (x.2.2.2.2.1) (x.2.2.2.2.2.1) (x.2.2.2.2.2.2.1) (x.2.2.2.2.2.2.2.1) (x.2.2.2.2.2.2.2.2.1) (x.2.2.2.2.2.2.2.2.2.1) (x.2.2.2.2.2.2.2.2.2.2.1) (x.2.2.2.2.2.2.2.2.2.2.2.1) (x.2.2.2.2.2.2.2.2.2.2.2.2.1) (x.2.2.2.2.2.2.2.2.2.2.2.2.2.1) (x.2.2.2.2.2.2.2.2.2.2.2.2.2.2.1) (x.2.2.2.2.2.2.2.2.2.2.2.2.2.2.2.1) (x.2.2.2.2.2.2.2.2.2.2.2.2.2.2.2.2.1) (x.2.2.2.2.2.2.2.2.2.2.2.2.2.2.2.2.2.1) (x.2.2.2.2.2.2.2.2.2.2.2.2.2.2.2.2.2.2))
noncomputable def spec_SameType_k4_1 (k : Int) (s : Int) (sg : Bool) (bg : Bool) (NA : List (List TC)) (NU : List (List TC)) (ME : List (List TC)) (BA : List (List TC)) (ct : Int) (k2 : Int) (s2 : Int) (sg2 : Bool) (bg2 : Bool) (NA2 : List (List TC)) (NU2 : List (List TC)) (ME2 : List (List TC)) (BA2 : List (List TC)) (ct2 : Int) (i : Int) : Bool := sumIs (spec_SameType_R4 k s sg bg NA NU ME BA ct k2 s2 sg2 bg2 NA2 NU2 ME2 BA2 ct2 i)
noncomputable def spec_SameType_o4_2 (k : Int) (s : Int) (sg : Bool) (bg : Bool) (NA : List (List TC)) (NU : List (List TC)) (ME : List (List TC)) (BA : List (List TC)) (ct : Int) (k2 : Int) (s2 : Int) (sg2 : Bool) (bg2 : Bool) (NA2 : List (List TC)) (NU2 : List (List TC)) (ME2 : List (List TC)) (BA2 : List (List TC)) (ct2 : Int) (i : Int) : Bool := is (i = 0 ∧ ME.length = ME2.length ∧ ME.length ≤ 140737488355328 ∧ (∀ x y : List TC, x ∈ ME → y ∈ ME2 → spec_SameType_rc (nth x 2).int (nth x 3).int (nth x 4).bool (nth x 5).bool (nth x 6).list (nth x 7).list (nth x 8).list (nth x 9).list (nth x 10).int (nth y 2).int (nth y 3).int (nth y 4).bool (nth y 5).bool (nth y 6).list (nth y 7).list (nth y 8).list (nth y 9).list (nth y 10).int = true))
noncomputable def spec_SameType_o4_3 (k : Int) (s : Int) (sg : Bool) (bg : Bool) (NA : List (List TC)) (NU : List (List TC)) (ME : List (List TC)) (BA : List (List TC)) (ct : Int) (k2 : Int) (s2 : Int) (sg2 : Bool) (bg2 : Bool) (NA2 : List (List TC)) (NU2 : List (List TC)) (ME2 : List (List TC)) (BA2 : List (List TC)) (ct2 : Int) (i : Int) : Bool := is (i = 0 ∧ ME.length = ME2.length ∧ ME.length ≤ 140737488355328 ∧ (∀ x y : List TC, x ∈ ME → y ∈ ME2 → spec_SameType_rc (nth x 2).int (nth x 3).int (nth x 4).bool (nth x 5).bool (nth x 6).list (nth x 7).list (nth x 8).list (nth x 9).list (nth x 10).int (nth y 2).int (nth y 3).int (nth y 4).bool (nth y 5).bool (nth y 6).list (nth y 7).list (nth y 8).list (nth y 9).list (nth y 10).int = true))
noncomputable def spec_SameType_4_fin (k : Int) (s : Int) (sg : Bool) (bg : Bool) (NA : List (List TC)) (NU : List (List TC)) (ME : List (List TC)) (BA : List (List TC)) (ct : Int) (k2 : Int) (s2 : Int) (sg2 : Bool) (bg2 : Bool) (NA2 : List (List TC)) (NU2 : List (List TC)) (ME2 : List (List TC)) (BA2 : List (List TC)) (ct2 : Int) (i : Int) : Told spec_SameType_4_ω := (.br (spec_SameType_k4_1 k s sg bg NA NU ME BA ct k2 s2 sg2 bg2 NA2 NU2 ME2 BA2 ct2 i) (.leaf (spec_SameType_o4_2 k s sg bg NA NU ME BA ct k2 s2 sg2 bg2 NA2 NU2 ME2 BA2 ct2 i) (.inl (k, s, sg, bg, NA, NU, ME, BA, ct, k2, s2, sg2, bg2, NA2, NU2, ME2, BA2, ct2))) (.leaf (spec_SameType_o4_3 k s sg bg NA NU ME BA ct k2 s2 sg2 bg2 NA2 NU2 ME2 BA2 ct2 i) (.inr (k, s, sg, bg, NA, NU, ME, BA, ct, k2, s2, sg2, bg2, NA2, NU2, ME2, BA2, ct2))))
def spec_SameType_4_sl (x : spec_SameType_4_σ) : List Slot := [⟨.bx 55 [⟨.int .i64, .sh, TC.i (x.1)⟩, ⟨.int .i64, .sh, TC.i (x.2.1)⟩, ⟨.bool, .sh, TC.b (x.2.2.1)⟩, ⟨.bool, .sh, TC.b (x.2.2.2.1)⟩, ⟨.slice 9, .sh, TC.l (x.2.2.2.2.1)⟩, ⟨.slice 2, .sh, TC.l (x.2.2.2.2.2.1)⟩, ⟨.slice 147, .sh, TC.l (x.2.2.2.2.2.2.1)⟩, ⟨.slice 55, .sh, TC.l (x.2.2.2.2.2.2.2.1)⟩, ⟨.int .i64, .sh, TC.i (x.2.2.2.2.2.2.2.2.1)⟩], ⟨0, 0⟩⟩, ⟨.bx 55 [⟨.int .i64, .sh, TC.i (x.2.2.2.2.2.2.2.2.2.1)⟩, ⟨.int .i64, .sh, TC.i (x.2.2.2.2.2.2.2.2.2.2.1)⟩, ⟨.bool, .sh, TC.b (x.2.2.2.2.2.2.2.2.2.2.2.1)⟩, ⟨.bool, .sh, TC.b (x.2.2.2.2.2.2.2.2.2.2.2.2.1)⟩, ⟨.slice 9, .sh, TC.l (x.2.2.2.2.2.2.2.2.2.2.2.2.2.1)⟩, ⟨.slice 2, .sh, TC.l (x.2.2.2.2.2.2.2.2.2.2.2.2.2.2.1)⟩, ⟨.slice 147, .sh, TC.l (x.2.2.2.2.2.2.2.2.2.2.2.2.2.2.2.1)⟩, ⟨.slice 55, .sh, TC.l (x.2.2.2.2.2.2.2.2.2.2.2.2.2.2.2.2.1)⟩, ⟨.int .i64, .sh, TC.i (x.2.2.2.2.2.2.2.2.2.2.2.2.2.2.2.2.2.1)⟩], ⟨0, 0⟩⟩, ⟨.val false [⟨.int .i64, .sh, TC.i (x.2.2.2.2.2.2.2.2.2.2.2.2.2.2.2.2.2.2)⟩], ⟨0, 0⟩⟩]
def spec_SameType_4_out : spec_SameType_4_ω → Ex × List Slot := (Sum.elim (fun x => (.ret, [⟨.bx 55 [⟨.int .i64, .sh, TC.i (x.1)⟩, ⟨.int .i64, .sh, TC.i (x.2.1)⟩, ⟨.bool, .sh, TC.b (x.2.2.1)⟩, ⟨.bool, .sh, TC.b (x.2.2.2.1)⟩, ⟨.slice 9, .sh, TC.l (x.2.2.2.2.1)⟩, ⟨.slice 2, .sh, TC.l (x.2.2.2.2.2.1)⟩, ⟨.slice 147, .sh, TC.l (x.2.2.2.2.2.2.1)⟩, ⟨.slice 55, .sh, TC.l (x.2.2.2.2.2.2.2.1)⟩, ⟨.int .i64, .sh, TC.i (x.2.2.2.2.2.2.2.2.1)⟩], ⟨0, 0⟩⟩, ⟨.bx 55 [⟨.int .i64, .sh, TC.i (x.2.2.2.2.2.2.2.2.2.1)⟩, ⟨.int .i64, .sh, TC.i (x.2.2.2.2.2.2.2.2.2.2.1)⟩, ⟨.bool, .sh, TC.b (x.2.2.2.2.2.2.2.2.2.2.2.1)⟩, ⟨.bool, .sh, TC.b (x.2.2.2.2.2.2.2.2.2.2.2.2.1)⟩, ⟨.slice 9, .sh, TC.l (x.2.2.2.2.2.2.2.2.2.2.2.2.2.1)⟩, ⟨.slice 2, .sh, TC.l (x.2.2.2.2.2.2.2.2.2.2.2.2.2.2.1)⟩, ⟨.slice 147, .sh, TC.l (x.2.2.2.2.2.2.2.2.2.2.2.2.2.2.2.1)⟩, ⟨.slice 55, .sh, TC.l (x.2.2.2.2.2.2.2.2.2.2.2.2.2.2.2.2.1)⟩, ⟨.int .i64, .sh, TC.i (x.2.2.2.2.2.2.2.2.2.2.2.2.2.2.2.2.2)⟩], ⟨0, 0⟩⟩, ⟨.val false [⟨.bool, .sh, TC.b false⟩], ⟨0, 0⟩⟩])) (fun x => (.exit 0, [⟨.bx 55 [⟨.int .i64, .sh, TC.i (x.1)⟩, ⟨.int .i64, .sh, TC.i (x.2.1)⟩, ⟨.bool, .sh, TC.b (x.2.2.1)⟩, ⟨.bool, .sh, TC.b (x.2.2.2.1)⟩, ⟨.slice 9, .sh, TC.l (x.2.2.2.2.1)⟩, ⟨.slice 2, .sh, TC.l (x.2.2.2.2.2.1)⟩, ⟨.slice 147, .sh, TC.l (x.2.2.2.2.2.2.1)⟩, ⟨.slice 55, .sh, TC.l (x.2.2.2.2.2.2.2.1)⟩, ⟨.int .i64, .sh, TC.i (x.2.2.2.2.2.2.2.2.1)⟩], ⟨0, 0⟩⟩, ⟨.bx 55 [⟨.int .i64, .sh, TC.i (x.2.2.2.2.2.2.2.2.2.1)⟩, ⟨.int .i64, .sh, TC.i (x.2.2.2.2.2.2.2.2.2.2.1)⟩, ⟨.bool, .sh, TC.b (x.2.2.2.2.2.2.2.2.2.2.2.1)⟩, ⟨.bool, .sh, TC.b (x.2.2.2.2.2.2.2.2.2.2.2.2.1)⟩, ⟨.slice 9, .sh, TC.l (x.2.2.2.2.2.2.2.2.2.2.2.2.2.1)⟩, ⟨.slice 2, .sh, TC.l (x.2.2.2.2.2.2.2.2.2.2.2.2.2.2.1)⟩, ⟨.slice 147, .sh, TC.l (x.2.2.2.2.2.2.2.2.2.2.2.2.2.2.2.1)⟩, ⟨.slice 55, .sh, TC.l (x.2.2.2.2.2.2.2.2.2.2.2.2.2.2.2.2.1)⟩, ⟨.int .i64, .sh, TC.i (x.2.2.2.2.2.2.2.2.2.2.2.2.2.2.2.2.2)⟩], ⟨0, 0⟩⟩, Slot.none])))
noncomputable def spec_SameType_lo4 : List Slot → Option (Told (Ex × List Slot)) := fun s => match s with
  | [⟨.bx 55 [⟨.int .i64, .sh, TC.i k⟩, ⟨.int .i64, .sh, TC.i s⟩, ⟨.bool, .sh, TC.b sg⟩, ⟨.bool, .sh, TC.b bg⟩, ⟨.slice 9, .sh, TC.l NA⟩, ⟨.slice 2, .sh, TC.l NU⟩, ⟨.slice 147, .sh, TC.l ME⟩, ⟨.slice 55, .sh, TC.l BA⟩, ⟨.int .i64, .sh, TC.i ct⟩], ⟨0, 0⟩⟩, ⟨.bx 55 [⟨.int .i64, .sh, TC.i k2⟩, ⟨.int .i64, .sh, TC.i s2⟩, ⟨.bool, .sh, TC.b sg2⟩, ⟨.bool, .sh, TC.b bg2⟩, ⟨.slice 9, .sh, TC.l NA2⟩, ⟨.slice 2, .sh, TC.l NU2⟩, ⟨.slice 147, .sh, TC.l ME2⟩, ⟨.slice 55, .sh, TC.l BA2⟩, ⟨.int .i64, .sh, TC.i ct2⟩], ⟨0, 0⟩⟩, ⟨.val false [⟨.int .i64, .sh, TC.i i⟩], ⟨0, 0⟩⟩] => some (((spec_SameType_4_fin k s sg bg NA NU ME BA ct k2 s2 sg2 bg2 NA2 NU2 ME2 BA2 ct2 i)).map spec_SameType_4_out)
  | _ => .none
noncomputable def spec_SameType_lo : LoopTeller := fun r s => bif Nat.beq r 4 then spec_SameType_lo4 s else bif Nat.beq r 9 then spec_SameType_lo9 s else .none
theorem spec_SameType_9_r (k : Int) (s : Int) (sg : Bool) (bg : Bool) (NA : List (List TC)) (NU : List (List TC)) (ME : List (List TC)) (BA : List (List TC)) (ct : Int) (k2 : Int) (s2 : Int) (sg2 : Bool) (bg2 : Bool) (NA2 : List (List TC)) (NU2 : List (List TC)) (ME2 : List (List TC)) (BA2 : List (List TC)) (ct2 : Int) (i : Int) (fuel : Nat) : rounds (rnd tab FT D27 live 64 spec_SameType_lo 1 9) leave (fuel + 1) (spec_SameType_9_sl (k, s, sg, bg, NA, NU, ME, BA, ct, k2, s2, sg2, bg2, NA2, NU2, ME2, BA2, ct2, i)) = ((spec_SameType_9_step k s sg bg NA NU ME BA ct k2 s2 sg2 bg2 NA2 NU2 ME2 BA2 ct2 i)).run (goOn (fun s => rounds (rnd tab FT D27 live 64 spec_SameType_lo 1 9) leave fuel (spec_SameType_9_sl s)) fun w => some (spec_SameType_9_out w)) := by kernel_rfl
theorem spec_SameType_f9_eq (k s : Int) (sg bg : Bool) (NA NU ME BA : List (List TC)) (ct : Int) (k2 s2 : Int) (sg2 bg2 : Bool) (NA2 NU2 ME2 BA2 : List (List TC)) (ct2 : Int) (i : Int) : spec_SameType_f9 k s sg bg NA NU ME BA ct k2 s2 sg2 bg2 NA2 NU2 ME2 BA2 ct2 i = bif spec_SameType_rv (nth (row BA i) 0).int (nth (row BA i) 1).int (nth (row BA i) 2).bool (nth (row BA i) 3).bool (nth (row BA i) 4).list (nth (row BA i) 5).list (nth (row BA i) 6).list (nth (row BA i) 7).list (nth (row BA i) 8).int (nth (row BA2 i) 0).int (nth (row BA2 i) 1).int (nth (row BA2 i) 2).bool (nth (row BA2 i) 3).bool (nth (row BA2 i) 4).list (nth (row BA2 i) 5).list (nth (row BA2 i) 6).list (nth (row BA2 i) 7).list (nth (row BA2 i) 8).int then Sum.inl () else Sum.inr (Sum.inl (k, s, sg, bg, NA, NU, ME, BA, ct, k2, s2, sg2, bg2, NA2, NU2, ME2, BA2, ct2)) := by
  unfold spec_SameType_f9 
  skip
  generalize spec_SameType_rv (nth (row BA i) 0).int (nth (row BA i) 1).int (nth (row BA i) 2).bool (nth (row BA i) 3).bool (nth (row BA i) 4).list (nth (row BA i) 5).list (nth (row BA i) 6).list (nth (row BA i) 7).list (nth (row BA i) 8).int (nth (row BA2 i) 0).int (nth (row BA2 i) 1).int (nth (row BA2 i) 2).bool (nth (row BA2 i) 3).bool (nth (row BA2 i) 4).list (nth (row BA2 i) 5).list (nth (row BA2 i) 6).list (nth (row BA2 i) 7).list (nth (row BA2 i) 8).int = p0
  cases p0 <;> rfl
theorem spec_SameType_R9_eq (k s : Int) (sg bg : Bool) (NA NU ME BA : List (List TC)) (ct : Int) (k2 s2 : Int) (sg2 bg2 : Bool) (NA2 NU2 ME2 BA2 : List (List TC)) (ct2 : Int)  : spec_SameType_R9 k s sg bg NA NU ME BA ct k2 s2 sg2 bg2 NA2 NU2 ME2 BA2 ct2 0 = bif allI (fun i : Nat => spec_SameType_rv (nth (row BA (i : Int)) 0).int (nth (row BA (i : Int)) 1).int (nth (row BA (i : Int)) 2).bool (nth (row BA (i : Int)) 3).bool (nth (row BA (i : Int)) 4).list (nth (row BA (i : Int)) 5).list (nth (row BA (i : Int)) 6).list (nth (row BA (i : Int)) 7).list (nth (row BA (i : Int)) 8).int (nth (row BA2 (i : Int)) 0).int (nth (row BA2 (i : Int)) 1).int (nth (row BA2 (i : Int)) 2).bool (nth (row BA2 (i : Int)) 3).bool (nth (row BA2 (i : Int)) 4).list (nth (row BA2 (i : Int)) 5).list (nth (row BA2 (i : Int)) 6).list (nth (row BA2 (i : Int)) 7).list (nth (row BA2 (i : Int)) 8).int) (BA.length) then Sum.inr (k, s, sg, bg, NA, NU, ME, BA, ct, k2, s2, sg2, bg2, NA2, NU2, ME2, BA2, ct2) else (Sum.inl (k, s, sg, bg, NA, NU, ME, BA, ct, k2, s2, sg2, bg2, NA2, NU2, ME2, BA2, ct2)) := by
  unfold spec_SameType_R9
  exact (iter_all (P := (fun i : Nat => spec_SameType_rv (nth (row BA (i : Int)) 0).int (nth (row BA (i : Int)) 1).int (nth (row BA (i : Int)) 2).bool (nth (row BA (i : Int)) 3).bool (nth (row BA (i : Int)) 4).list (nth (row BA (i : Int)) 5).list (nth (row BA (i : Int)) 6).list (nth (row BA (i : Int)) 7).list (nth (row BA (i : Int)) 8).int (nth (row BA2 (i : Int)) 0).int (nth (row BA2 (i : Int)) 1).int (nth (row BA2 (i : Int)) 2).bool (nth (row BA2 (i : Int)) 3).bool (nth (row BA2 (i : Int)) 4).list (nth (row BA2 (i : Int)) 5).list (nth (row BA2 (i : Int)) 6).list (nth (row BA2 (i : Int)) 7).list (nth (row BA2 (i : Int)) 8).int)) (g := fun _ a => a) (w := Sum.inl (k, s, sg, bg, NA, NU, ME, BA, ct, k2, s2, sg2, bg2, NA2, NU2, ME2, BA2, ct2)) fun j a _ => spec_SameType_f9_eq k s sg bg NA NU ME BA ct k2 s2 sg2 bg2 NA2 NU2 ME2 BA2 ct2 _)
theorem spec_SameType_9_h (k : Int) (s : Int) (sg : Bool) (bg : Bool) (NA : List (List TC)) (NU : List (List TC)) (ME : List (List TC)) (BA : List (List TC)) (ct : Int) (k2 : Int) (s2 : Int) (sg2 : Bool) (bg2 : Bool) (NA2 : List (List TC)) (NU2 : List (List TC)) (ME2 : List (List TC)) (BA2 : List (List TC)) (ct2 : Int) (i : Int) (ow : spec_SameType_9_ω) : ((spec_SameType_9_fin k s sg bg NA NU ME BA ct k2 s2 sg2 bg2 NA2 NU2 ME2 BA2 ct2 i)).val = some ow → ∃ fuel, loopN spec_SameType_9_st fuel (k, s, sg, bg, NA, NU, ME, BA, ct, k2, s2, sg2, bg2, NA2, NU2, ME2, BA2, ct2, i) = some ow := by
  refine auto_const (R := (spec_SameType_R9 k s sg bg NA NU ME BA ct k2 s2 sg2 bg2 NA2 NU2 ME2 BA2 ct2 i)) rfl (iter_onR (f := (fun i a => (spec_SameType_f9 k s sg bg NA NU ME BA ct k2 s2 sg2 bg2 NA2 NU2 ME2 BA2 ct2 (i : Int)))) (fin := (fun a => (spec_SameType_e9 k s sg bg NA NU ME BA ct k2 s2 sg2 bg2 NA2 NU2 ME2 BA2 ct2))) (Q := endsAs (k, s, sg, bg, NA, NU, ME, BA, ct, k2, s2, sg2, bg2, NA2, NU2, ME2, BA2, ct2) (k, s, sg, bg, NA, NU, ME, BA, ct, k2, s2, sg2, bg2, NA2, NU2, ME2, BA2, ct2)) (fun i a => by unfold spec_SameType_f9; exact (onR_bif rfl trivial)) (fun _ => rfl) _ _ _) ?_
  intro ho
  have ho : is (i = 0 ∧ BA.length = BA2.length ∧ BA.length ≤ 140737488355328 ∧ (∀ x y : List TC, x ∈ BA → y ∈ BA2 → spec_SameType_rc (nth x 0).int (nth x 1).int (nth x 2).bool (nth x 3).bool (nth x 4).list (nth x 5).list (nth x 6).list (nth x 7).list (nth x 8).int (nth y 0).int (nth y 1).int (nth y 2).bool (nth y 3).bool (nth y 4).list (nth y 5).list (nth y 6).list (nth y 7).list (nth y 8).int = true)) = true := ho.elim id id
  obtain ⟨rfl, hl, hm, hr⟩ := is_iff.1 ho
  skip
  refine ⟨(BA.length) + 1, ?_⟩
  refine iter_loop (step := spec_SameType_9_st) (BA.length) (fun i a => (spec_SameType_f9 k s sg bg NA NU ME BA ct k2 s2 sg2 bg2 NA2 NU2 ME2 BA2 ct2 (i : Int))) (fun a => (spec_SameType_e9 k s sg bg NA NU ME BA ct k2 s2 sg2 bg2 NA2 NU2 ME2 BA2 ct2)) (fun i a => (k, s, sg, bg, NA, NU, ME, BA, ct, k2, s2, sg2, bg2, NA2, NU2, ME2, BA2, ct2, (i : Int))) (fun _ _ => True) trivial (fun i a hi hI => ⟨?_, fun _ _ => trivial⟩) (fun a hI => ?_)
  · show (spec_SameType_9_step k s sg bg NA NU ME BA ct k2 s2 sg2 bg2 NA2 NU2 ME2 BA2 ct2 (i : Int)).val = _
    unfold spec_SameType_9_step spec_SameType_f9
    skip
    refine Tr.t (by simp; omega) ?_
    exact (Tr.t (by first | omega | (constructor <;> omega) | (exact hr _ _ (mem_getD (by omega)) (mem_getD (by omega)))) (Tr.t (by first | omega | (constructor <;> omega) | (exact hr _ _ (mem_getD (by omega)) (mem_getD (by omega)))) (Tr.t (by first | omega | (constructor <;> omega) | (exact hr _ _ (mem_getD (by omega)) (mem_getD (by omega)))) (Tr.bf rfl (by rw [Tr.val_ok, wrap64 (i := (i : Int) + 1) (by omega) (by omega)]; rfl)))))
  · show (spec_SameType_9_step k s sg bg NA NU ME BA ct k2 s2 sg2 bg2 NA2 NU2 ME2 BA2 ct2 (BA.length : Int)).val = _
    refine Tr.n (by first | (simp; done) | (simp; omega) | omega) ?_
    rfl
theorem spec_SameType_is9 : LoopIs tab FT D27 live 64 spec_SameType_lo 1 9 := by
  refine loop_told (sl := spec_SameType_9_sl) (step := spec_SameType_9_st) (out := spec_SameType_9_out) (lor := spec_SameType_lo9) (fin := fun x => (spec_SameType_9_fin (x.1) (x.2.1) (x.2.2.1) (x.2.2.2.1) (x.2.2.2.2.1) (x.2.2.2.2.2.1) (x.2.2.2.2.2.2.1) (x.2.2.2.2.2.2.2.1) (x.2.2.2.2.2.2.2.2.1) (x.2.2.2.2.2.2.2.2.2.1) (x.2.2.2.2.2.2.2.2.2.2.1) (x.2.2.2.2.2.2.2.2.2.2.2.1) (x.2.2.2.2.2.2.2.2.2.2.2.2.1) (x.2.2.2.2.2.2.2.2.2.2.2.2.2.1) (x.2.2.2.2.2.2.2.2.2.2.2.2.2.2.1) (x.2.2.2.2.2.2.2.2.2.2.2.2.2.2.2.1) (x.2.2.2.2.2.2.2.2.2.2.2.2.2.2.2.2.1) (x.2.2.2.2.2.2.2.2.2.2.2.2.2.2.2.2.2.1) (x.2.2.2.2.2.2.2.2.2.2.2.2.2.2.2.2.2.2))) (fun _ => rfl) ?_ (fun x n => spec_SameType_9_r x.1 x.2.1 x.2.2.1 x.2.2.2.1 x.2.2.2.2.1 x.2.2.2.2.2.1 x.2.2.2.2.2.2.1 x.2.2.2.2.2.2.2.1 x.2.2.2.2.2.2.2.2.1 x.2.2.2.2.2.2.2.2.2.1 x.2.2.2.2.2.2.2.2.2.2.1 x.2.2.2.2.2.2.2.2.2.2.2.1 x.2.2.2.2.2.2.2.2.2.2.2.2.1 x.2.2.2.2.2.2.2.2.2.2.2.2.2.1 x.2.2.2.2.2.2.2.2.2.2.2.2.2.2.1 x.2.2.2.2.2.2.2.2.2.2.2.2.2.2.2.1 x.2.2.2.2.2.2.2.2.2.2.2.2.2.2.2.2.1 x.2.2.2.2.2.2.2.2.2.2.2.2.2.2.2.2.2.1 x.2.2.2.2.2.2.2.2.2.2.2.2.2.2.2.2.2.2 n) (fun x ow => spec_SameType_9_h x.1 x.2.1 x.2.2.1 x.2.2.2.1 x.2.2.2.2.1 x.2.2.2.2.2.1 x.2.2.2.2.2.2.1 x.2.2.2.2.2.2.2.1 x.2.2.2.2.2.2.2.2.1 x.2.2.2.2.2.2.2.2.2.1 x.2.2.2.2.2.2.2.2.2.2.1 x.2.2.2.2.2.2.2.2.2.2.2.1 x.2.2.2.2.2.2.2.2.2.2.2.2.1 x.2.2.2.2.2.2.2.2.2.2.2.2.2.1 x.2.2.2.2.2.2.2.2.2.2.2.2.2.2.1 x.2.2.2.2.2.2.2.2.2.2.2.2.2.2.2.1 x.2.2.2.2.2.2.2.2.2.2.2.2.2.2.2.2.1 x.2.2.2.2.2.2.2.2.2.2.2.2.2.2.2.2.2.1 x.2.2.2.2.2.2.2.2.2.2.2.2.2.2.2.2.2.2 ow)
  intro s t h
  unfold spec_SameType_lo9 at h
  split at h
  · cases h; exact ⟨(_, _, _, _, _, _, _, _, _, _, _, _, _, _, _, _, _, _, _), rfl, rfl⟩
  · cases h
theorem spec_SameType_4_r (k : Int) (s : Int) (sg : Bool) (bg : Bool) (NA : List (List TC)) (NU : List (List TC)) (ME : List (List TC)) (BA : List (List TC)) (ct : Int) (k2 : Int) (s2 : Int) (sg2 : Bool) (bg2 : Bool) (NA2 : List (List TC)) (NU2 : List (List TC)) (ME2 : List (List TC)) (BA2 : List (List TC)) (ct2 : Int) (i : Int) (fuel : Nat) : rounds (rnd tab FT D27 live 64 spec_SameType_lo 0 4) leave (fuel + 1) (spec_SameType_4_sl (k, s, sg, bg, NA, NU, ME, BA, ct, k2, s2, sg2, bg2, NA2, NU2, ME2, BA2, ct2, i)) = ((spec_SameType_4_step k s sg bg NA NU ME BA ct k2 s2 sg2 bg2 NA2 NU2 ME2 BA2 ct2 i)).run (goOn (fun s => rounds (rnd tab FT D27 live 64 spec_SameType_lo 0 4) leave fuel (spec_SameType_4_sl s)) fun w => some (spec_SameType_4_out w)) := by kernel_rfl
theorem spec_SameType_f4_eq (k s : Int) (sg bg : Bool) (NA NU ME BA : List (List TC)) (ct : Int) (k2 s2 : Int) (sg2 bg2 : Bool) (NA2 NU2 ME2 BA2 : List (List TC)) (ct2 : Int) (i : Int) : spec_SameType_f4 k s sg bg NA NU ME BA ct k2 s2 sg2 bg2 NA2 NU2 ME2 BA2 ct2 i = bif ((nth (row ME i) 0).str == (nth (row ME2 i) 0).str) && (((nth (row ME i) 1).int == (nth (row ME2 i) 1).int) && spec_SameType_rv (nth (row ME i) 2).int (nth (row ME i) 3).int (nth (row ME i) 4).bool (nth (row ME i) 5).bool (nth (row ME i) 6).list (nth (row ME i) 7).list (nth (row ME i) 8).list (nth (row ME i) 9).list (nth (row ME i) 10).int (nth (row ME2 i) 2).int (nth (row ME2 i) 3).int (nth (row ME2 i) 4).bool (nth (row ME2 i) 5).bool (nth (row ME2 i) 6).list (nth (row ME2 i) 7).list (nth (row ME2 i) 8).list (nth (row ME2 i) 9).list (nth (row ME2 i) 10).int) then Sum.inl () else Sum.inr (Sum.inl (k, s, sg, bg, NA, NU, ME, BA, ct, k2, s2, sg2, bg2, NA2, NU2, ME2, BA2, ct2)) := by
  unfold spec_SameType_f4 
  skip
  generalize ((nth (row ME i) 0).str == (nth (row ME2 i) 0).str) = p0, ((nth (row ME i) 1).int == (nth (row ME2 i) 1).int) = p1, spec_SameType_rv (nth (row ME i) 2).int (nth (row ME i) 3).int (nth (row ME i) 4).bool (nth (row ME i) 5).bool (nth (row ME i) 6).list (nth (row ME i) 7).list (nth (row ME i) 8).list (nth (row ME i) 9).list (nth (row ME i) 10).int (nth (row ME2 i) 2).int (nth (row ME2 i) 3).int (nth (row ME2 i) 4).bool (nth (row ME2 i) 5).bool (nth (row ME2 i) 6).list (nth (row ME2 i) 7).list (nth (row ME2 i) 8).list (nth (row ME2 i) 9).list (nth (row ME2 i) 10).int = p2
  cases p0 <;> cases p1 <;> cases p2 <;> rfl
theorem spec_SameType_R4_eq (k s : Int) (sg bg : Bool) (NA NU ME BA : List (List TC)) (ct : Int) (k2 s2 : Int) (sg2 bg2 : Bool) (NA2 NU2 ME2 BA2 : List (List TC)) (ct2 : Int)  : spec_SameType_R4 k s sg bg NA NU ME BA ct k2 s2 sg2 bg2 NA2 NU2 ME2 BA2 ct2 0 = bif allI (fun i : Nat => ((nth (row ME (i : Int)) 0).str == (nth (row ME2 (i : Int)) 0).str) && (((nth (row ME (i : Int)) 1).int == (nth (row ME2 (i : Int)) 1).int) && spec_SameType_rv (nth (row ME (i : Int)) 2).int (nth (row ME (i : Int)) 3).int (nth (row ME (i : Int)) 4).bool (nth (row ME (i : Int)) 5).bool (nth (row ME (i : Int)) 6).list (nth (row ME (i : Int)) 7).list (nth (row ME (i : Int)) 8).list (nth (row ME (i : Int)) 9).list (nth (row ME (i : Int)) 10).int (nth (row ME2 (i : Int)) 2).int (nth (row ME2 (i : Int)) 3).int (nth (row ME2 (i : Int)) 4).bool (nth (row ME2 (i : Int)) 5).bool (nth (row ME2 (i : Int)) 6).list (nth (row ME2 (i : Int)) 7).list (nth (row ME2 (i : Int)) 8).list (nth (row ME2 (i : Int)) 9).list (nth (row ME2 (i : Int)) 10).int)) (ME.length) then Sum.inr (k, s, sg, bg, NA, NU, ME, BA, ct, k2, s2, sg2, bg2, NA2, NU2, ME2, BA2, ct2) else (Sum.inl (k, s, sg, bg, NA, NU, ME, BA, ct, k2, s2, sg2, bg2, NA2, NU2, ME2, BA2, ct2)) := by
  unfold spec_SameType_R4
  exact (iter_all (P := (fun i : Nat => ((nth (row ME (i : Int)) 0).str == (nth (row ME2 (i : Int)) 0).str) && (((nth (row ME (i : Int)) 1).int == (nth (row ME2 (i : Int)) 1).int) && spec_SameType_rv (nth (row ME (i : Int)) 2).int (nth (row ME (i : Int)) 3).int (nth (row ME (i : Int)) 4).bool (nth (row ME (i : Int)) 5).bool (nth (row ME (i : Int)) 6).list (nth (row ME (i : Int)) 7).list (nth (row ME (i : Int)) 8).list (nth (row ME (i : Int)) 9).list (nth (row ME (i : Int)) 10).int (nth (row ME2 (i : Int)) 2).int (nth (row ME2 (i : Int)) 3).int (nth (row ME2 (i : Int)) 4).bool (nth (row ME2 (i : Int)) 5).bool (nth (row ME2 (i : Int)) 6).list (nth (row ME2 (i : Int)) 7).list (nth (row ME2 (i : Int)) 8).list (nth (row ME2 (i : Int)) 9).list (nth (row ME2 (i : Int)) 10).int))) (g := fun _ a => a) (w := Sum.inl (k, s, sg, bg, NA, NU, ME, BA, ct, k2, s2, sg2, bg2, NA2, NU2, ME2, BA2, ct2)) fun j a _ => spec_SameType_f4_eq k s sg bg NA NU ME BA ct k2 s2 sg2 bg2 NA2 NU2 ME2 BA2 ct2 _)
theorem spec_SameType_4_h (k : Int) (s : Int) (sg : Bool) (bg : Bool) (NA : List (List TC)) (NU : List (List TC)) (ME : List (List TC)) (BA : List (List TC)) (ct : Int) (k2 : Int) (s2 : Int) (sg2 : Bool) (bg2 : Bool) (NA2 : List (List TC)) (NU2 : List (List TC)) (ME2 : List (List TC)) (BA2 : List (List TC)) (ct2 : Int) (i : Int) (ow : spec_SameType_4_ω) : ((spec_SameType_4_fin k s sg bg NA NU ME BA ct k2 s2 sg2 bg2 NA2 NU2 ME2 BA2 ct2 i)).val = some ow → ∃ fuel, loopN spec_SameType_4_st fuel (k, s, sg, bg, NA, NU, ME, BA, ct, k2, s2, sg2, bg2, NA2, NU2, ME2, BA2, ct2, i) = some ow := by
  refine auto_const (R := (spec_SameType_R4 k s sg bg NA NU ME BA ct k2 s2 sg2 bg2 NA2 NU2 ME2 BA2 ct2 i)) rfl (iter_onR (f := (fun i a => (spec_SameType_f4 k s sg bg NA NU ME BA ct k2 s2 sg2 bg2 NA2 NU2 ME2 BA2 ct2 (i : Int)))) (fin := (fun a => (spec_SameType_e4 k s sg bg NA NU ME BA ct k2 s2 sg2 bg2 NA2 NU2 ME2 BA2 ct2))) (Q := endsAs (k, s, sg, bg, NA, NU, ME, BA, ct, k2, s2, sg2, bg2, NA2, NU2, ME2, BA2, ct2) (k, s, sg, bg, NA, NU, ME, BA, ct, k2, s2, sg2, bg2, NA2, NU2, ME2, BA2, ct2)) (fun i a => by unfold spec_SameType_f4; exact (onR_bif rfl (onR_bif rfl (onR_bif rfl trivial)))) (fun _ => rfl) _ _ _) ?_
  intro ho
  have ho : is (i = 0 ∧ ME.length = ME2.length ∧ ME.length ≤ 140737488355328 ∧ (∀ x y : List TC, x ∈ ME → y ∈ ME2 → spec_SameType_rc (nth x 2).int (nth x 3).int (nth x 4).bool (nth x 5).bool (nth x 6).list (nth x 7).list (nth x 8).list (nth x 9).list (nth x 10).int (nth y 2).int (nth y 3).int (nth y 4).bool (nth y 5).bool (nth y 6).list (nth y 7).list (nth y 8).list (nth y 9).list (nth y 10).int = true)) = true := ho.elim id id
  obtain ⟨rfl, hl, hm, hr⟩ := is_iff.1 ho
  skip
  refine ⟨(ME.length) + 1, ?_⟩
  refine iter_loop (step := spec_SameType_4_st) (ME.length) (fun i a => (spec_SameType_f4 k s sg bg NA NU ME BA ct k2 s2 sg2 bg2 NA2 NU2 ME2 BA2 ct2 (i : Int))) (fun a => (spec_SameType_e4 k s sg bg NA NU ME BA ct k2 s2 sg2 bg2 NA2 NU2 ME2 BA2 ct2)) (fun i a => (k, s, sg, bg, NA, NU, ME, BA, ct, k2, s2, sg2, bg2, NA2, NU2, ME2, BA2, ct2, (i : Int))) (fun _ _ => True) trivial (fun i a hi hI => ⟨?_, fun _ _ => trivial⟩) (fun a hI => ?_)
  · show (spec_SameType_4_step k s sg bg NA NU ME BA ct k2 s2 sg2 bg2 NA2 NU2 ME2 BA2 ct2 (i : Int)).val = _
    unfold spec_SameType_4_step spec_SameType_f4
    skip
    refine Tr.t (by simp; omega) ?_
    exact (Tr.t (by first | omega | (constructor <;> omega) | (exact hr _ _ (mem_getD (by omega)) (mem_getD (by omega)))) (Tr.t (by first | omega | (constructor <;> omega) | (exact hr _ _ (mem_getD (by omega)) (mem_getD (by omega)))) (Tr.bf rfl (Tr.t (by first | omega | (constructor <;> omega) | (exact hr _ _ (mem_getD (by omega)) (mem_getD (by omega)))) (Tr.t (by first | omega | (constructor <;> omega) | (exact hr _ _ (mem_getD (by omega)) (mem_getD (by omega)))) (Tr.bf rfl (Tr.t (by first | omega | (constructor <;> omega) | (exact hr _ _ (mem_getD (by omega)) (mem_getD (by omega)))) (Tr.t (by first | omega | (constructor <;> omega) | (exact hr _ _ (mem_getD (by omega)) (mem_getD (by omega)))) (Tr.t (by first | omega | (constructor <;> omega) | (exact hr _ _ (mem_getD (by omega)) (mem_getD (by omega)))) (Tr.bf rfl (by rw [Tr.val_ok, wrap64 (i := (i : Int) + 1) (by omega) (by omega)]; rfl)))))))))))
  · show (spec_SameType_4_step k s sg bg NA NU ME BA ct k2 s2 sg2 bg2 NA2 NU2 ME2 BA2 ct2 (ME.length : Int)).val = _
    refine Tr.n (by first | (simp; done) | (simp; omega) | omega) ?_
    rfl
theorem spec_SameType_is4 : LoopIs tab FT D27 live 64 spec_SameType_lo 0 4 := by
  refine loop_told (sl := spec_SameType_4_sl) (step := spec_SameType_4_st) (out := spec_SameType_4_out) (lor := spec_SameType_lo4) (fin := fun x => (spec_SameType_4_fin (x.1) (x.2.1) (x.2.2.1) (x.2.2.2.1) (x.2.2.2.2.1) (x.2.2.2.2.2.1) (x.2.2.2.2.2.2.1) (x.2.2.2.2.2.2.2.1) (x.2.2.2.2.2.2.2.2.1) (x.2.2.2.2.2.2.2.2.2.1) (x.2.2.2.2.2.2.2.2.2.2.1) (x.2.2.2.2.2.2.2.2.2.2.2.1) (x.2.2.2.2.2.2.2.2.2.2.2.2.1) (x.2.2.2.2.2.2.2.2.2.2.2.2.2.1) (x.2.2.2.2.2.2.2.2.2.2.2.2.2.2.1) (x.2.2.2.2.2.2.2.2.2.2.2.2.2.2.2.1) (x.2.2.2.2.2.2.2.2.2.2.2.2.2.2.2.2.1) (x.2.2.2.2.2.2.2.2.2.2.2.2.2.2.2.2.2.1) (x.2.2.2.2.2.2.2.2.2.2.2.2.2.2.2.2.2.2))) (fun _ => rfl) ?_ (fun x n => spec_SameType_4_r x.1 x.2.1 x.2.2.1 x.2.2.2.1 x.2.2.2.2.1 x.2.2.2.2.2.1 x.2.2.2.2.2.2.1 x.2.2.2.2.2.2.2.1 x.2.2.2.2.2.2.2.2.1 x.2.2.2.2.2.2.2.2.2.1 x.2.2.2.2.2.2.2.2.2.2.1 x.2.2.2.2.2.2.2.2.2.2.2.1 x.2.2.2.2.2.2.2.2.2.2.2.2.1 x.2.2.2.2.2.2.2.2.2.2.2.2.2.1 x.2.2.2.2.2.2.2.2.2.2.2.2.2.2.1 x.2.2.2.2.2.2.2.2.2.2.2.2.2.2.2.1 x.2.2.2.2.2.2.2.2.2.2.2.2.2.2.2.2.1 x.2.2.2.2.2.2.2.2.2.2.2.2.2.2.2.2.2.1 x.2.2.2.2.2.2.2.2.2.2.2.2.2.2.2.2.2.2 n) (fun x ow => spec_SameType_4_h x.1 x.2.1 x.2.2.1 x.2.2.2.1 x.2.2.2.2.1 x.2.2.2.2.2.1 x.2.2.2.2.2.2.1 x.2.2.2.2.2.2.2.1 x.2.2.2.2.2.2.2.2.1 x.2.2.2.2.2.2.2.2.2.1 x.2.2.2.2.2.2.2.2.2.2.1 x.2.2.2.2.2.2.2.2.2.2.2.1 x.2.2.2.2.2.2.2.2.2.2.2.2.1 x.2.2.2.2.2.2.2.2.2.2.2.2.2.1 x.2.2.2.2.2.2.2.2.2.2.2.2.2.2.1 x.2.2.2.2.2.2.2.2.2.2.2.2.2.2.2.1 x.2.2.2.2.2.2.2.2.2.2.2.2.2.2.2.2.1 x.2.2.2.2.2.2.2.2.2.2.2.2.2.2.2.2.2.1 x.2.2.2.2.2.2.2.2.2.2.2.2.2.2.2.2.2.2 ow)
  intro s t h
  unfold spec_SameType_lo4 at h
  split at h
  · cases h; exact ⟨(_, _, _, _, _, _, _, _, _, _, _, _, _, _, _, _, _, _, _), rfl, rfl⟩
  · cases h
noncomputable def spec_SameType_t (k : Int) (s : Int) (sg : Bool) (bg : Bool) (NA : List (List TC)) (NU : List (List TC)) (ME : List (List TC)) (BA : List (List TC)) (ct : Int) (k2 : Int) (s2 : Int) (sg2 : Bool) (bg2 : Bool) (NA2 : List (List TC)) (NU2 : List (List TC)) (ME2 : List (List TC)) (BA2 : List (List TC)) (ct2 : Int) : Tr (Bool) := (.ite ((!(k == k2)) = true) (.ok false)
  (.ite ((!(s == s2)) = true) (.ok false)
   (.ite ((!(sg == sg2)) = true) (.ok false)
    (.ite ((!(bg == bg2)) = true) (.ok false)
     (.ite ((!(ct == ct2)) = true) (.ok false)
      (.ite ((!((ME.length : Int) == (ME2.length : Int))) = true) (.ok false)
       (.ite ((!((BA.length : Int) == (BA2.length : Int))) = true) (.ok false)
        (.ite ((spec_SameType_k4_1 k s sg bg NA NU ME BA ct k2 s2 sg2 bg2 NA2 NU2 ME2 BA2 ct2 (0 : Int)) = true) (.ite ((spec_SameType_o4_2 k s sg bg NA NU ME BA ct k2 s2 sg2 bg2 NA2 NU2 ME2 BA2 ct2 (0 : Int)) = true) (.ok false)
          .no)
         (.ite ((spec_SameType_o4_3 k s sg bg NA NU ME BA ct k2 s2 sg2 bg2 NA2 NU2 ME2 BA2 ct2 (0 : Int)) = true) (.ite ((spec_SameType_k9_1 k s sg bg NA NU ME BA ct k2 s2 sg2 bg2 NA2 NU2 ME2 BA2 ct2 (0 : Int)) = true) (.ite ((spec_SameType_o9_2 k s sg bg NA NU ME BA ct k2 s2 sg2 bg2 NA2 NU2 ME2 BA2 ct2 (0 : Int)) = true) (.ok false)
            .no)
           (.ite ((spec_SameType_o9_3 k s sg bg NA NU ME BA ct k2 s2 sg2 bg2 NA2 NU2 ME2 BA2 ct2 (0 : Int)) = true) (.ite ((spec_l02Texts_c NA NA2) = true) (.ite ((spec_l02Texts_v NA NA2) = true) (.ite ((spec_l02Ints_c NU NU2) = true) (.ok (spec_l02Ints_v NU NU2))
               .no)
              (.ok false))
             .no)
            .no))
          .no)))))))))
def spec_SameType_mk (p : Bool) : Res := [(false, [⟨.bool, .sh, TC.b p⟩])]
noncomputable def spec_SameType_c (k : Int) (s : Int) (sg : Bool) (bg : Bool) (NA : List (List TC)) (NU : List (List TC)) (ME : List (List TC)) (BA : List (List TC)) (ct : Int) (k2 : Int) (s2 : Int) (sg2 : Bool) (bg2 : Bool) (NA2 : List (List TC)) (NU2 : List (List TC)) (ME2 : List (List TC)) (BA2 : List (List TC)) (ct2 : Int) : Bool := (bif (!(k == k2)) then true else (bif (!(s == s2)) then true else (bif (!(sg == sg2)) then true else (bif (!(bg == bg2)) then true else (bif (!(ct == ct2)) then true else (bif (!((ME.length : Int) == (ME2.length : Int))) then true else (bif (!((BA.length : Int) == (BA2.length : Int))) then true else (bif (spec_SameType_k4_1 k s sg bg NA NU ME BA ct k2 s2 sg2 bg2 NA2 NU2 ME2 BA2 ct2 (0 : Int)) then ((spec_SameType_o4_2 k s sg bg NA NU ME BA ct k2 s2 sg2 bg2 NA2 NU2 ME2 BA2 ct2 (0 : Int)) && true) else ((spec_SameType_o4_3 k s sg bg NA NU ME BA ct k2 s2 sg2 bg2 NA2 NU2 ME2 BA2 ct2 (0 : Int)) && (bif (spec_SameType_k9_1 k s sg bg NA NU ME BA ct k2 s2 sg2 bg2 NA2 NU2 ME2 BA2 ct2 (0 : Int)) then ((spec_SameType_o9_2 k s sg bg NA NU ME BA ct k2 s2 sg2 bg2 NA2 NU2 ME2 BA2 ct2 (0 : Int)) && true) else ((spec_SameType_o9_3 k s sg bg NA NU ME BA ct k2 s2 sg2 bg2 NA2 NU2 ME2 BA2 ct2 (0 : Int)) && ((spec_l02Texts_c NA NA2) && (bif (spec_l02Texts_v NA NA2) then ((spec_l02Ints_c NU NU2) && true) else true)))))))))))))
noncomputable def spec_SameType_v (k : Int) (s : Int) (sg : Bool) (bg : Bool) (NA : List (List TC)) (NU : List (List TC)) (ME : List (List TC)) (BA : List (List TC)) (ct : Int) (k2 : Int) (s2 : Int) (sg2 : Bool) (bg2 : Bool) (NA2 : List (List TC)) (NU2 : List (List TC)) (ME2 : List (List TC)) (BA2 : List (List TC)) (ct2 : Int) : Bool := (bif (!(k == k2)) then false else (bif (!(s == s2)) then false else (bif (!(sg == sg2)) then false else (bif (!(bg == bg2)) then false else (bif (!(ct == ct2)) then false else (bif (!((ME.length : Int) == (ME2.length : Int))) then false else (bif (!((BA.length : Int) == (BA2.length : Int))) then false else (bif (spec_SameType_k4_1 k s sg bg NA NU ME BA ct k2 s2 sg2 bg2 NA2 NU2 ME2 BA2 ct2 (0 : Int)) then false else (bif (spec_SameType_k9_1 k s sg bg NA NU ME BA ct k2 s2 sg2 bg2 NA2 NU2 ME2 BA2 ct2 (0 : Int)) then false else (bif (spec_l02Texts_v NA NA2) then (spec_l02Ints_v NU NU2) else false))))))))))
theorem spec_SameType_l (k : Int) (s : Int) (sg : Bool) (bg : Bool) (NA : List (List TC)) (NU : List (List TC)) (ME : List (List TC)) (BA : List (List TC)) (ct : Int) (k2 : Int) (s2 : Int) (sg2 : Bool) (bg2 : Bool) (NA2 : List (List TC)) (NU2 : List (List TC)) (ME2 : List (List TC)) (BA2 : List (List TC)) (ct2 : Int) : (spec_SameType_c k s sg bg NA NU ME BA ct k2 s2 sg2 bg2 NA2 NU2 ME2 BA2 ct2) = true → (spec_SameType_t k s sg bg NA NU ME BA ct k2 s2 sg2 bg2 NA2 NU2 ME2 BA2 ct2).val = some (spec_SameType_v k s sg bg NA NU ME BA ct k2 s2 sg2 bg2 NA2 NU2 ME2 BA2 ct2) := by
  unfold spec_SameType_t spec_SameType_v spec_SameType_c
  exact fun h => (Tr.ss h (fun h => rfl) (fun h => (Tr.ss h (fun h => rfl) (fun h => (Tr.ss h (fun h => rfl) (fun h => (Tr.ss h (fun h => rfl) (fun h => (Tr.ss h (fun h => rfl) (fun h => (Tr.ss h (fun h => rfl) (fun h => (Tr.ss h (fun h => rfl) (fun h => (Tr.ss h (fun h => (Tr.gb h fun h => rfl)) (fun h => (Tr.gb h fun h => (Tr.ss h (fun h => (Tr.gb h fun h => rfl)) (fun h => (Tr.gb h fun h => (Tr.gb h fun h => (Tr.ss h (fun h => (Tr.gb h fun h => rfl)) (fun h => rfl)))))))))))))))))))))))
noncomputable def spec_SameType_S : List Arg → Option (Bool × Res) := fun xs => match xs with
  | [(true, [(.int .i64, TC.i k), (.int .i64, TC.i s), (.bool, TC.b sg), (.bool, TC.b bg), (.slice 9, TC.l NA), (.slice 2, TC.l NU), (.slice 147, TC.l ME), (.slice 55, TC.l BA), (.int .i64, TC.i ct)]), (true, [(.int .i64, TC.i k2), (.int .i64, TC.i s2), (.bool, TC.b sg2), (.bool, TC.b bg2), (.slice 9, TC.l NA2), (.slice 2, TC.l NU2), (.slice 147, TC.l ME2), (.slice 55, TC.l BA2), (.int .i64, TC.i ct2)])] => some ((spec_SameType_c k s sg bg NA NU ME BA ct k2 s2 sg2 bg2 NA2 NU2 ME2 BA2 ct2), spec_SameType_mk (spec_SameType_v k s sg bg NA NU ME BA ct k2 s2 sg2 bg2 NA2 NU2 ME2 BA2 ct2))
  | _ => .none
theorem spec_SameType_e (k : Int) (s : Int) (sg : Bool) (bg : Bool) (NA : List (List TC)) (NU : List (List TC)) (ME : List (List TC)) (BA : List (List TC)) (ct : Int) (k2 : Int) (s2 : Int) (sg2 : Bool) (bg2 : Bool) (NA2 : List (List TC)) (NU2 : List (List TC)) (ME2 : List (List TC)) (BA2 : List (List TC)) (ct2 : Int) : runF tab FT D27 live 64 spec_SameType_lo [(true, [(.int .i64, TC.i k), (.int .i64, TC.i s), (.bool, TC.b sg), (.bool, TC.b bg), (.slice 9, TC.l NA), (.slice 2, TC.l NU), (.slice 147, TC.l ME), (.slice 55, TC.l BA), (.int .i64, TC.i ct)]), (true, [(.int .i64, TC.i k2), (.int .i64, TC.i s2), (.bool, TC.b sg2), (.bool, TC.b bg2), (.slice 9, TC.l NA2), (.slice 2, TC.l NU2), (.slice 147, TC.l ME2), (.slice 55, TC.l BA2), (.int .i64, TC.i ct2)])] = (spec_SameType_t k s sg bg NA NU ME BA ct k2 s2 sg2 bg2 NA2 NU2 ME2 BA2 ct2).run fun p => some (spec_SameType_mk p) := by kernel_rfl
theorem spec_SameType_s : ∀ xs r, spec_SameType_S xs = some (true, r) → runF tab FT D27 live 64 spec_SameType_lo xs = some r := by
  intro xs r h
  unfold spec_SameType_S at h
  split at h
  · simp only [Option.some.injEq, Prod.mk.injEq] at h
    obtain ⟨h1, rfl⟩ := h
    exact fun_told (spec_SameType_e _ _ _ _ _ _ _ _ _ _ _ _ _ _ _ _ _ _) (spec_SameType_l _ _ _ _ _ _ _ _ _ _ _ _ _ _ _ _ _ _) h1
  · cases h
theorem spec_SameType_nx (k : Int) (s : Int) (sg : Bool) (bg : Bool) (NA : List (List TC)) (NU : List (List TC)) (ME : List (List TC)) (BA : List (List TC)) (ct : Int) (k2 : Int) (s2 : Int) (sg2 : Bool) (bg2 : Bool) (NA2 : List (List TC)) (NU2 : List (List TC)) (ME2 : List (List TC)) (BA2 : List (List TC)) (ct2 : Int) : is (max (rowsDep ME) (rowsDep BA) < spec_SameType_O.n + 1 ∧ Typed tab (.slice 9) (.l NA) ∧ Typed tab (.slice 2) (.l NU) ∧ Typed tab (.slice 147) (.l ME) ∧ Typed tab (.slice 55) (.l BA) ∧ Typed tab (.slice 9) (.l NA2) ∧ Typed tab (.slice 2) (.l NU2) ∧ Typed tab (.slice 147) (.l ME2) ∧ Typed tab (.slice 55) (.l BA2)) = true → (spec_SameType_c k s sg bg NA NU ME BA ct k2 s2 sg2 bg2 NA2 NU2 ME2 BA2 ct2) = true ∧ (spec_SameType_v k s sg bg NA NU ME BA ct k2 s2 sg2 bg2 NA2 NU2 ME2 BA2 ct2) = sameV k s sg bg NA NU ME BA ct k2 s2 sg2 bg2 NA2 NU2 ME2 BA2 ct2 := by
  intro h
  obtain ⟨hM, a4, a5, a6, a7, b4, b5, b6, b7⟩ := is_iff.1 h
  have q6 : ∀ x y, x ∈ ME → y ∈ ME2 → spec_SameType_rc (nth x 2).int (nth x 3).int (nth x 4).bool (nth x 5).bool (nth x 6).list (nth x 7).list (nth x 8).list (nth x 9).list (nth x 10).int (nth y 2).int (nth y 3).int (nth y 4).bool (nth y 5).bool (nth y 6).list (nth y 7).list (nth y 8).list (nth y 9).list (nth y 10).int = true := fun x y hx hy => is_true ⟨by have a := dep_cell hx 8; have b := dep_cell hx 9; omega, typed_list ((typed_elem a6 hx).2 6 (by decide)), typed_list ((typed_elem a6 hx).2 7 (by decide)), typed_list ((typed_elem a6 hx).2 8 (by decide)), typed_list ((typed_elem a6 hx).2 9 (by decide)), typed_list ((typed_elem b6 hy).2 6 (by decide)), typed_list ((typed_elem b6 hy).2 7 (by decide)), typed_list ((typed_elem b6 hy).2 8 (by decide)), typed_list ((typed_elem b6 hy).2 9 (by decide))⟩
  have q7 : ∀ x y, x ∈ BA → y ∈ BA2 → spec_SameType_rc (nth x 0).int (nth x 1).int (nth x 2).bool (nth x 3).bool (nth x 4).list (nth x 5).list (nth x 6).list (nth x 7).list (nth x 8).int (nth y 0).int (nth y 1).int (nth y 2).bool (nth y 3).bool (nth y 4).list (nth y 5).list (nth y 6).list (nth y 7).list (nth y 8).int = true := fun x y hx hy => is_true ⟨by have a := dep_cell hx 6; have b := dep_cell hx 7; omega, typed_list ((typed_elem a7 hx).2 4 (by decide)), typed_list ((typed_elem a7 hx).2 5 (by decide)), typed_list ((typed_elem a7 hx).2 6 (by decide)), typed_list ((typed_elem a7 hx).2 7 (by decide)), typed_list ((typed_elem b7 hy).2 4 (by decide)), typed_list ((typed_elem b7 hy).2 5 (by decide)), typed_list ((typed_elem b7 hy).2 6 (by decide)), typed_list ((typed_elem b7 hy).2 7 (by decide))⟩
  have c4 : spec_l02Texts_c NA NA2 = true := is_true a4
  have c5 : spec_l02Ints_c NU NU2 = true := is_true a5
  have v4 : spec_l02Texts_v NA NA2 = eqL NA NA2 := allEq_eqL (E := E_9) (fun x y hx hy => by
    constructor
    · intro h
      have hh : (nth x 0).str = (nth y 0).str := by
        simpa [E_9] using h
      have e0 := hh
      have hx' := form_9 a4 hx
      have hy' := form_9 b4 hy
      rw [hx', hy', e0]
    · rintro rfl
      simp [E_9])
  have v5 : spec_l02Ints_v NU NU2 = eqL NU NU2 := allEq_eqL (E := E_2) (fun x y hx hy => by
    constructor
    · intro h
      have hh : (nth x 0).int = (nth y 0).int := by
        simpa [E_2] using h
      have e0 := hh
      have hx' := form_2 a5 hx
      have hy' := form_2 b5 hy
      rw [hx', hy', e0]
    · rintro rfl
      simp [E_2])
  have v6 : ME.length = ME2.length → allI (fun i : Nat => ((nth (row ME (i : Int)) 0).str == (nth (row ME2 (i : Int)) 0).str) && (((nth (row ME (i : Int)) 1).int == (nth (row ME2 (i : Int)) 1).int) && spec_SameType_rv (nth (row ME (i : Int)) 2).int (nth (row ME (i : Int)) 3).int (nth (row ME (i : Int)) 4).bool (nth (row ME (i : Int)) 5).bool (nth (row ME (i : Int)) 6).list (nth (row ME (i : Int)) 7).list (nth (row ME (i : Int)) 8).list (nth (row ME (i : Int)) 9).list (nth (row ME (i : Int)) 10).int (nth (row ME2 (i : Int)) 2).int (nth (row ME2 (i : Int)) 3).int (nth (row ME2 (i : Int)) 4).bool (nth (row ME2 (i : Int)) 5).bool (nth (row ME2 (i : Int)) 6).list (nth (row ME2 (i : Int)) 7).list (nth (row ME2 (i : Int)) 8).list (nth (row ME2 (i : Int)) 9).list (nth (row ME2 (i : Int)) 10).int)) ME.length = eqL ME ME2 := fun hl => (allI_allEq (E := fun x y => ((nth x 0).str == (nth y 0).str) && (((nth x 1).int == (nth y 1).int) && spec_SameType_rv (nth x 2).int (nth x 3).int (nth x 4).bool (nth x 5).bool (nth x 6).list (nth x 7).list (nth x 8).list (nth x 9).list (nth x 10).int (nth y 2).int (nth y 3).int (nth y 4).bool (nth y 5).bool (nth y 6).list (nth y 7).list (nth y 8).list (nth y 9).list (nth y 10).int)) hl).trans (allEq_eqL (fun x y hx hy => by
    constructor
    · intro h
      have hh : (nth x 0).str = (nth y 0).str ∧ (nth x 1).int = (nth y 1).int ∧ (nth x 2).int = (nth y 2).int ∧ (nth x 3).int = (nth y 3).int ∧ (nth x 4).bool = (nth y 4).bool ∧ (nth x 5).bool = (nth y 5).bool ∧ (nth x 6).list = (nth y 6).list ∧ (nth x 7).list = (nth y 7).list ∧ (nth x 8).list = (nth y 8).list ∧ (nth x 9).list = (nth y 9).list ∧ (nth x 10).int = (nth y 10).int := by
        have h : (((nth x 0).str == (nth y 0).str) && (((nth x 1).int == (nth y 1).int) && sameV (nth x 2).int (nth x 3).int (nth x 4).bool (nth x 5).bool (nth x 6).list (nth x 7).list (nth x 8).list (nth x 9).list (nth x 10).int (nth y 2).int (nth y 3).int (nth y 4).bool (nth y 5).bool (nth y 6).list (nth y 7).list (nth y 8).list (nth y 9).list (nth y 10).int)) = true := h
        simp only [sameV, Bool.and_eq_true, beq_iff_eq, eqL_iff] at h
        obtain ⟨n, o, h⟩ := h
        exact ⟨n, o, h.1, h.2.1, h.2.2.1, h.2.2.2.1, h.2.2.2.2.2.1, h.2.2.2.2.2.2.1, h.2.2.2.2.2.2.2.1, h.2.2.2.2.2.2.2.2, h.2.2.2.2.1⟩
      obtain ⟨e0, e1, e2, e3, e4, e5, e6, e7, e8, e9, e10⟩ := hh
      have hx' := form_147 a6 hx
      have hy' := form_147 b6 hy
      rw [hx', hy', e0, e1, e2, e3, e4, e5, e6, e7, e8, e9, e10]
    · rintro rfl
      show (((nth x 0).str == (nth x 0).str) && (((nth x 1).int == (nth x 1).int) && sameV (nth x 2).int (nth x 3).int (nth x 4).bool (nth x 5).bool (nth x 6).list (nth x 7).list (nth x 8).list (nth x 9).list (nth x 10).int (nth x 2).int (nth x 3).int (nth x 4).bool (nth x 5).bool (nth x 6).list (nth x 7).list (nth x 8).list (nth x 9).list (nth x 10).int)) = true
      simp [sameV, eqL_refl]))
  have v7 : BA.length = BA2.length → allI (fun i : Nat => spec_SameType_rv (nth (row BA (i : Int)) 0).int (nth (row BA (i : Int)) 1).int (nth (row BA (i : Int)) 2).bool (nth (row BA (i : Int)) 3).bool (nth (row BA (i : Int)) 4).list (nth (row BA (i : Int)) 5).list (nth (row BA (i : Int)) 6).list (nth (row BA (i : Int)) 7).list (nth (row BA (i : Int)) 8).int (nth (row BA2 (i : Int)) 0).int (nth (row BA2 (i : Int)) 1).int (nth (row BA2 (i : Int)) 2).bool (nth (row BA2 (i : Int)) 3).bool (nth (row BA2 (i : Int)) 4).list (nth (row BA2 (i : Int)) 5).list (nth (row BA2 (i : Int)) 6).list (nth (row BA2 (i : Int)) 7).list (nth (row BA2 (i : Int)) 8).int) BA.length = eqL BA BA2 := fun hl => (allI_allEq (E := fun x y => spec_SameType_rv (nth x 0).int (nth x 1).int (nth x 2).bool (nth x 3).bool (nth x 4).list (nth x 5).list (nth x 6).list (nth x 7).list (nth x 8).int (nth y 0).int (nth y 1).int (nth y 2).bool (nth y 3).bool (nth y 4).list (nth y 5).list (nth y 6).list (nth y 7).list (nth y 8).int) hl).trans (allEq_eqL (fun x y hx hy => by
    constructor
    · intro h
      have hh : (nth x 0).int = (nth y 0).int ∧ (nth x 1).int = (nth y 1).int ∧ (nth x 2).bool = (nth y 2).bool ∧ (nth x 3).bool = (nth y 3).bool ∧ (nth x 4).list = (nth y 4).list ∧ (nth x 5).list = (nth y 5).list ∧ (nth x 6).list = (nth y 6).list ∧ (nth x 7).list = (nth y 7).list ∧ (nth x 8).int = (nth y 8).int := by
        have h : sameV (nth x 0).int (nth x 1).int (nth x 2).bool (nth x 3).bool (nth x 4).list (nth x 5).list (nth x 6).list (nth x 7).list (nth x 8).int (nth y 0).int (nth y 1).int (nth y 2).bool (nth y 3).bool (nth y 4).list (nth y 5).list (nth y 6).list (nth y 7).list (nth y 8).int = true := h
        simp only [sameV, Bool.and_eq_true, beq_iff_eq, eqL_iff] at h
        exact ⟨h.1, h.2.1, h.2.2.1, h.2.2.2.1, h.2.2.2.2.2.1, h.2.2.2.2.2.2.1, h.2.2.2.2.2.2.2.1, h.2.2.2.2.2.2.2.2, h.2.2.2.2.1⟩
      obtain ⟨e0, e1, e2, e3, e4, e5, e6, e7, e8⟩ := hh
      have hx' := form_55 a7 hx
      have hy' := form_55 b7 hy
      rw [hx', hy', e0, e1, e2, e3, e4, e5, e6, e7, e8]
    · rintro rfl
      show sameV (nth x 0).int (nth x 1).int (nth x 2).bool (nth x 3).bool (nth x 4).list (nth x 5).list (nth x 6).list (nth x 7).list (nth x 8).int (nth x 0).int (nth x 1).int (nth x 2).bool (nth x 3).bool (nth x 4).list (nth x 5).list (nth x 6).list (nth x 7).list (nth x 8).int = true
      simp [sameV, eqL_refl]))
  have w6 : ME.length ≤ 140737488355328 := by have := typed_room a6; simp only [show (tab 147).bytes = 152 from rfl] at this; omega
  have w7 : BA.length ≤ 140737488355328 := by have := typed_room a7; simp only [show (tab 55).bytes = 128 from rfl] at this; omega
  have ne : ∀ A C : List (List TC), ¬A.length = C.length → eqL A C = false := fun A C hn => by
    cases he : eqL A C with
    | false => rfl
    | true => exact absurd (congrArg List.length (eqL_iff.1 he)) hn
  unfold spec_SameType_c spec_SameType_v sameV
  by_cases l6 : ME.length = ME2.length
  · by_cases l7 : BA.length = BA2.length
    · have o0 : spec_SameType_o4_2 k s sg bg NA NU ME BA ct k2 s2 sg2 bg2 NA2 NU2 ME2 BA2 ct2 0 = true ∧ spec_SameType_o4_3 k s sg bg NA NU ME BA ct k2 s2 sg2 bg2 NA2 NU2 ME2 BA2 ct2 0 = true := ⟨is_true ⟨rfl, l6, w6, q6⟩, is_true ⟨rfl, l6, w6, q6⟩⟩
      have o1 : spec_SameType_o9_2 k s sg bg NA NU ME BA ct k2 s2 sg2 bg2 NA2 NU2 ME2 BA2 ct2 0 = true ∧ spec_SameType_o9_3 k s sg bg NA NU ME BA ct k2 s2 sg2 bg2 NA2 NU2 ME2 BA2 ct2 0 = true := ⟨is_true ⟨rfl, l7, w7, q7⟩, is_true ⟨rfl, l7, w7, q7⟩⟩
      rw [show ((ME.length : Int) == (ME2.length : Int)) = true from by simp [l6], show ((BA.length : Int) == (BA2.length : Int)) = true from by simp [l7]]
      have k0 : spec_SameType_k4_1 k s sg bg NA NU ME BA ct k2 s2 sg2 bg2 NA2 NU2 ME2 BA2 ct2 0 = !(eqL ME ME2) := by
        unfold spec_SameType_k4_1
        rw [spec_SameType_R4_eq, v6 l6]
        cases eqL ME ME2 <;> rfl
      have k1 : spec_SameType_k9_1 k s sg bg NA NU ME BA ct k2 s2 sg2 bg2 NA2 NU2 ME2 BA2 ct2 0 = !(eqL BA BA2) := by
        unfold spec_SameType_k9_1
        rw [spec_SameType_R9_eq, v7 l7]
        cases eqL BA BA2 <;> rfl
      simp only [o0.1, o0.2, o1.1, o1.2, k0, k1, c4, c5, v4, v5, bif_nf, bif_tf, bif_ft, Bool.not_true, cond_false, Bool.not_not, Bool.and_true, Bool.true_and, bif_same, true_and]
      ac_rfl
    · have e4 : ((BA.length : Int) == (BA2.length : Int)) = false := by simp; omega
      simp only [e4, ne _ _ l7, bif_nf, bif_tf, bif_ft, Bool.not_false, cond_true, Bool.false_and, Bool.and_false, bif_same, and_self]
  · have e3 : ((ME.length : Int) == (ME2.length : Int)) = false := by simp; omega
    simp only [e3, ne _ _ l6, bif_nf, bif_tf, bif_ft, Bool.not_false, cond_true, Bool.false_and, Bool.and_false, bif_same, and_self]
theorem spec_SameType_nxr (k : Int) (s : Int) (sg : Bool) (bg : Bool) (NA : List (List TC)) (NU : List (List TC)) (ME : List (List TC)) (BA : List (List TC)) (ct : Int) (k2 : Int) (s2 : Int) (sg2 : Bool) (bg2 : Bool) (NA2 : List (List TC)) (NU2 : List (List TC)) (ME2 : List (List TC)) (BA2 : List (List TC)) (ct2 : Int) : spec_SameType_rc (i_spec_SameType := ⟨spec_SameType_O.n + 1⟩) k s sg bg NA NU ME BA ct k2 s2 sg2 bg2 NA2 NU2 ME2 BA2 ct2 = true → (spec_SameType_c k s sg bg NA NU ME BA ct k2 s2 sg2 bg2 NA2 NU2 ME2 BA2 ct2) = true ∧ (spec_SameType_v k s sg bg NA NU ME BA ct k2 s2 sg2 bg2 NA2 NU2 ME2 BA2 ct2) = (spec_SameType_rv k s sg bg NA NU ME BA ct k2 s2 sg2 bg2 NA2 NU2 ME2 BA2 ct2) := fun h => spec_SameType_nx k s sg bg NA NU ME BA ct k2 s2 sg2 bg2 NA2 NU2 ME2 BA2 ct2 h
theorem spec_SameType_rs : ∀ xs r, spec_SameType_rS (i_spec_SameType := ⟨spec_SameType_O.n + 1⟩) xs = some (true, r) → runF tab FT D27 live 64 spec_SameType_lo xs = some r := by
  intro xs r h
  unfold spec_SameType_rS at h
  split at h
  · simp only [Option.some.injEq, Prod.mk.injEq] at h
    obtain ⟨h1, rfl⟩ := h
    have hx := spec_SameType_nxr _ _ _ _ _ _ _ _ _ _ _ _ _ _ _ _ _ _ h1
    have ht := fun_told (spec_SameType_e _ _ _ _ _ _ _ _ _ _ _ _ _ _ _ _ _ _) (spec_SameType_l _ _ _ _ _ _ _ _ _ _ _ _ _ _ _ _ _ _) hx.1
    rw [hx.2] at ht
    exact ht
  · cases h
theorem spec_SameType_step : spec_SameType_G (i_spec_SameType := ⟨spec_SameType_O.n + 1⟩) := by
  have h := DOk.also2 (S := spec_SameType_rS (i_spec_SameType := ⟨spec_SameType_O.n + 1⟩)) mixed_ok tab_ok names_ok d24 d27 (fnLoops_two (by kernel_rfl) spec_SameType_is4 spec_SameType_is9) spec_SameType_rs
  refine spec_SameType_G.mk (i_spec_SameType := ⟨spec_SameType_O.n + 1⟩) ?_
  exact h
/-! spec_l00Same -/
abbrev spec_l00Same_4_σ := List (List TC) × List (List TC) × Int
abbrev spec_l00Same_4_ω := (Unit) ⊕ (Unit)
noncomputable def spec_l00Same_4_step (A : List (List TC)) (C : List (List TC)) (i : Int) : Tr (spec_l00Same_4_σ ⊕ spec_l00Same_4_ω) := (.ite ((decide (i < (A.length : Int))) = true) (.ite ((0 : Int) ≤ i ∧ i < (A.length : Int)) (.ite ((0 : Int) ≤ i ∧ i < (C.length : Int)) (.ite ((!((nth (row A i) 0).int == (nth (row C i) 0).int)) = true) (.ok (.inr (.inl ())))
     (.ok (.inl (A, C, (IntKind.wrap .i64 (i + (1 : Int)))))))
    .no)
   .no)
  (.ok (.inr (.inr ()))))
noncomputable def spec_l00Same_4_st : spec_l00Same_4_σ → Tr (spec_l00Same_4_σ ⊕ spec_l00Same_4_ω) := fun x => (spec_l00Same_4_step (x.1) (x.2.1) (x.2.2))
noncomputable def spec_l00Same_k4_1 (A : List (List TC)) (C : List (List TC)) (i : Int) : Bool := allEq E_2 A C
noncomputable def spec_l00Same_o4_2 (A : List (List TC)) (C : List (List TC)) (i : Int) : Bool := is (A.length = C.length ∧ i = 0 ∧ Typed tab (.slice 2) (.l A))
noncomputable def spec_l00Same_o4_3 (A : List (List TC)) (C : List (List TC)) (i : Int) : Bool := is (A.length = C.length ∧ i = 0 ∧ Typed tab (.slice 2) (.l A))
noncomputable def spec_l00Same_4_fin (A : List (List TC)) (C : List (List TC)) (i : Int) : Told spec_l00Same_4_ω := (.br (spec_l00Same_k4_1 A C i) (.leaf (spec_l00Same_o4_2 A C i) (.inr ())) (.leaf (spec_l00Same_o4_3 A C i) (.inl ())))
def spec_l00Same_4_sl (x : spec_l00Same_4_σ) : List Slot := [⟨.val false [⟨.slice 2, .sh, TC.l (x.1)⟩], ⟨0, 0⟩⟩, ⟨.val false [⟨.slice 2, .sh, TC.l (x.2.1)⟩], ⟨0, 0⟩⟩, ⟨.val false [⟨.int .i64, .sh, TC.i (x.2.2)⟩], ⟨0, 0⟩⟩]
def spec_l00Same_4_out : spec_l00Same_4_ω → Ex × List Slot := (Sum.elim (fun x => (.ret, [⟨.val false [⟨.bool, .sh, TC.b false⟩], ⟨0, 0⟩⟩])) (fun x => (.exit 0, [Slot.none])))
noncomputable def spec_l00Same_lo4 : List Slot → Option (Told (Ex × List Slot)) := fun s => match s with
  | [⟨.val false [⟨.slice 2, .sh, TC.l A⟩], ⟨0, 0⟩⟩, ⟨.val false [⟨.slice 2, .sh, TC.l C⟩], ⟨0, 0⟩⟩, ⟨.val false [⟨.int .i64, .sh, TC.i i⟩], ⟨0, 0⟩⟩] => some (((spec_l00Same_4_fin A C i)).map spec_l00Same_4_out)
  | _ => .none
noncomputable def spec_l00Same_lo : LoopTeller := fun r s => bif Nat.beq r 4 then spec_l00Same_lo4 s else .none
theorem spec_l00Same_4_r (A : List (List TC)) (C : List (List TC)) (i : Int) (fuel : Nat) : rounds (rnd tab FT D27 live 81 spec_l00Same_lo 0 4) leave (fuel + 1) (spec_l00Same_4_sl (A, C, i)) = ((spec_l00Same_4_step A C i)).run (goOn (fun s => rounds (rnd tab FT D27 live 81 spec_l00Same_lo 0 4) leave fuel (spec_l00Same_4_sl s)) fun w => some (spec_l00Same_4_out w)) := by kernel_rfl
theorem spec_l00Same_4_h (A : List (List TC)) (C : List (List TC)) (i : Int) (ow : spec_l00Same_4_ω) : ((spec_l00Same_4_fin A C i)).val = some ow → ∃ fuel, loopN spec_l00Same_4_st fuel (A, C, i) = some ow := by
  intro h
  have key : A.length = C.length → Typed tab (.slice 2) (.l A) → loopN spec_l00Same_4_st (A.length + 1) (A, C, 0) = some (if allEq E_2 A C = true then .inr () else .inl ()) := by
    intro hl ht
    have hlen : A.length ≤ 140737488351232 := by have := typed_room ht; simp only [show (tab 2).bytes = 8 from rfl] at this; omega
    refine loopN_allEq A C E_2 (fun i => (A, C, (i : Int))) _ _ hl (fun i hi => ?_) ?_ A.length 0 (by omega)
    · show (spec_l00Same_4_step A C (i : Int)).val = _
      unfold spec_l00Same_4_step
      refine Tr.t (by simp; omega) ?_
      refine Tr.t (by constructor <;> omega) ?_
      refine Tr.t (by constructor <;> omega) ?_
      rw [wrap64 (i := (i : Int) + 1) (by omega) (by omega)]
      rw [Tr.val_br]
      show (if (!(E_2 (A.getD i []) (C.getD i []))) = true then _ else _) = _
      cases E_2 (A.getD i []) (C.getD i []) <;> rfl
    · show (spec_l00Same_4_step A C (A.length : Int)).val = _
      refine Tr.n (by simp) ?_
      rfl
  simp only [spec_l00Same_4_fin, Told.val] at h
  cases hk : allEq E_2 A C with
  | true =>
    rw [if_pos (show spec_l00Same_k4_1 A C i = true from hk)] at h
    split at h
    · rename_i ho
      obtain ⟨hl, rfl, ht⟩ := is_iff.1 ho
      cases h
      refine ⟨_, (key hl ht).trans ?_⟩
      rw [hk]; rfl
    · cases h
  | false =>
    rw [if_neg (show ¬spec_l00Same_k4_1 A C i = true from by rw [show spec_l00Same_k4_1 A C i = allEq E_2 A C from rfl, hk]; simp)] at h
    split at h
    · rename_i ho
      obtain ⟨hl, rfl, ht⟩ := is_iff.1 ho
      cases h
      refine ⟨_, (key hl ht).trans ?_⟩
      rw [hk]; rfl
    · cases h
theorem spec_l00Same_is4 : LoopIs tab FT D27 live 81 spec_l00Same_lo 0 4 := by
  refine loop_told (sl := spec_l00Same_4_sl) (step := spec_l00Same_4_st) (out := spec_l00Same_4_out) (lor := spec_l00Same_lo4) (fin := fun x => (spec_l00Same_4_fin (x.1) (x.2.1) (x.2.2))) (fun _ => rfl) ?_ (fun x n => spec_l00Same_4_r x.1 x.2.1 x.2.2 n) (fun x ow => spec_l00Same_4_h x.1 x.2.1 x.2.2 ow)
  intro s t h
  unfold spec_l00Same_lo4 at h
  split at h
  · cases h; exact ⟨(_, _, _), rfl, rfl⟩
  · cases h
noncomputable def spec_l00Same_t (A : List (List TC)) (C : List (List TC)) : Tr (Bool) := (.ite ((!((A.length : Int) == (C.length : Int))) = true) (.ok false)
  (.ite ((spec_l00Same_k4_1 A C (0 : Int)) = true) (.ite ((spec_l00Same_o4_2 A C (0 : Int)) = true) (.ok true)
    .no)
   (.ite ((spec_l00Same_o4_3 A C (0 : Int)) = true) (.ok false)
    .no)))
def spec_l00Same_mk (p : Bool) : Res := [(false, [⟨.bool, .sh, TC.b p⟩])]
noncomputable def spec_l00Same_c (A : List (List TC)) (C : List (List TC)) : Bool := is (Typed tab (.slice 2) (.l A))
noncomputable def spec_l00Same_v (A : List (List TC)) (C : List (List TC)) : Bool := allEq E_2 A C
theorem spec_l00Same_l (A : List (List TC)) (C : List (List TC)) : (spec_l00Same_c A C) = true → (spec_l00Same_t A C).val = some (spec_l00Same_v A C) := by
  intro h
  have ht := is_iff.1 h
  unfold spec_l00Same_t
  by_cases hl : A.length = C.length
  · refine Tr.n (by simp [hl]) ?_
    cases hk : allEq E_2 A C with
    | true =>
      refine Tr.t (show allEq E_2 A C = true from hk) ?_
      refine Tr.t (is_true ⟨hl, rfl, ht⟩) ?_
      show _ = some (allEq E_2 A C); rw [hk]; rfl
    | false =>
      refine Tr.n (show ¬allEq E_2 A C = true from by rw [hk]; simp) ?_
      refine Tr.t (is_true ⟨hl, rfl, ht⟩) ?_
      show _ = some (allEq E_2 A C); rw [hk]; rfl
  · refine Tr.t (by simp; omega) ?_
    show _ = some (allEq E_2 A C)
    rw [allEq_ne hl]
    rfl
noncomputable def spec_l00Same_S : List Arg → Option (Bool × Res) := fun xs => match xs with
  | [(false, [(.slice 2, TC.l A)]), (false, [(.slice 2, TC.l C)])] => some ((spec_l00Same_c A C), spec_l00Same_mk (spec_l00Same_v A C))
  | _ => .none
theorem spec_l00Same_e (A : List (List TC)) (C : List (List TC)) : runF tab FT D27 live 81 spec_l00Same_lo [(false, [(.slice 2, TC.l A)]), (false, [(.slice 2, TC.l C)])] = (spec_l00Same_t A C).run fun p => some (spec_l00Same_mk p) := by kernel_rfl
theorem spec_l00Same_s : ∀ xs r, spec_l00Same_S xs = some (true, r) → runF tab FT D27 live 81 spec_l00Same_lo xs = some r := by
  intro xs r h
  unfold spec_l00Same_S at h
  split at h
  · simp only [Option.some.injEq, Prod.mk.injEq] at h
    obtain ⟨h1, rfl⟩ := h
    exact fun_told (spec_l00Same_e _ _) (spec_l00Same_l _ _) h1
  · cases h
noncomputable def D28 : Dt := also D27 81 spec_l00Same_S
theorem d28 : DOk Go.Proofs.Try.prog tab D28 := d27.also mixed_ok tab_ok names_ok (fnLoops_one (by kernel_rfl) spec_l00Same_is4) spec_l00Same_s
/-! spec_l06SamePoints -/
noncomputable def spec_l06SamePoints_E (x y : List TC) : Bool := spec_l00Same_v ((nth x 0).list) ((nth y 0).list)
abbrev spec_l06SamePoints_4_σ := List (List TC) × List (List TC) × Int
abbrev spec_l06SamePoints_4_ω := (Unit) ⊕ (Unit)
noncomputable def spec_l06SamePoints_4_step (A : List (List TC)) (C : List (List TC)) (i : Int) : Tr (spec_l06SamePoints_4_σ ⊕ spec_l06SamePoints_4_ω) := (.ite ((decide (i < (A.length : Int))) = true) (.ite ((0 : Int) ≤ i ∧ i < (A.length : Int)) (.ite ((0 : Int) ≤ i ∧ i < (C.length : Int)) (.ite ((spec_l00Same_c ((nth (row A i) 0).list) ((nth (row C i) 0).list)) = true) (.ite ((!(spec_l00Same_v ((nth (row A i) 0).list) ((nth (row C i) 0).list))) = true) (.ok (.inr (.inl ())))
      (.ok (.inl (A, C, (IntKind.wrap .i64 (i + (1 : Int)))))))
     .no)
    .no)
   .no)
  (.ok (.inr (.inr ()))))
noncomputable def spec_l06SamePoints_4_st : spec_l06SamePoints_4_σ → Tr (spec_l06SamePoints_4_σ ⊕ spec_l06SamePoints_4_ω) := fun x => (spec_l06SamePoints_4_step (x.1) (x.2.1) (x.2.2))
noncomputable def spec_l06SamePoints_k4_1 (A : List (List TC)) (C : List (List TC)) (i : Int) : Bool := allEq spec_l06SamePoints_E A C
noncomputable def spec_l06SamePoints_o4_2 (A : List (List TC)) (C : List (List TC)) (i : Int) : Bool := is (A.length = C.length ∧ i = 0 ∧ Typed tab (.slice 193) (.l A) ∧ (∀ x y : List TC, x ∈ A → y ∈ C → spec_l00Same_c ((nth x 0).list) ((nth y 0).list) = true))
noncomputable def spec_l06SamePoints_o4_3 (A : List (List TC)) (C : List (List TC)) (i : Int) : Bool := is (A.length = C.length ∧ i = 0 ∧ Typed tab (.slice 193) (.l A) ∧ (∀ x y : List TC, x ∈ A → y ∈ C → spec_l00Same_c ((nth x 0).list) ((nth y 0).list) = true))
noncomputable def spec_l06SamePoints_4_fin (A : List (List TC)) (C : List (List TC)) (i : Int) : Told spec_l06SamePoints_4_ω := (.br (spec_l06SamePoints_k4_1 A C i) (.leaf (spec_l06SamePoints_o4_2 A C i) (.inr ())) (.leaf (spec_l06SamePoints_o4_3 A C i) (.inl ())))
def spec_l06SamePoints_4_sl (x : spec_l06SamePoints_4_σ) : List Slot := [⟨.val false [⟨.slice 193, .sh, TC.l (x.1)⟩], ⟨0, 0⟩⟩, ⟨.val false [⟨.slice 193, .sh, TC.l (x.2.1)⟩], ⟨0, 0⟩⟩, ⟨.val false [⟨.int .i64, .sh, TC.i (x.2.2)⟩], ⟨0, 0⟩⟩]
def spec_l06SamePoints_4_out : spec_l06SamePoints_4_ω → Ex × List Slot := (Sum.elim (fun x => (.ret, [⟨.val false [⟨.bool, .sh, TC.b false⟩], ⟨0, 0⟩⟩])) (fun x => (.exit 0, [Slot.none])))
noncomputable def spec_l06SamePoints_lo4 : List Slot → Option (Told (Ex × List Slot)) := fun s => match s with
  | [⟨.val false [⟨.slice 193, .sh, TC.l A⟩], ⟨0, 0⟩⟩, ⟨.val false [⟨.slice 193, .sh, TC.l C⟩], ⟨0, 0⟩⟩, ⟨.val false [⟨.int .i64, .sh, TC.i i⟩], ⟨0, 0⟩⟩] => some (((spec_l06SamePoints_4_fin A C i)).map spec_l06SamePoints_4_out)
  | _ => .none
noncomputable def spec_l06SamePoints_lo : LoopTeller := fun r s => bif Nat.beq r 4 then spec_l06SamePoints_lo4 s else .none
theorem spec_l06SamePoints_4_r (A : List (List TC)) (C : List (List TC)) (i : Int) (fuel : Nat) : rounds (rnd tab FT D28 live 110 spec_l06SamePoints_lo 0 4) leave (fuel + 1) (spec_l06SamePoints_4_sl (A, C, i)) = ((spec_l06SamePoints_4_step A C i)).run (goOn (fun s => rounds (rnd tab FT D28 live 110 spec_l06SamePoints_lo 0 4) leave fuel (spec_l06SamePoints_4_sl s)) fun w => some (spec_l06SamePoints_4_out w)) := by kernel_rfl
theorem spec_l06SamePoints_4_h (A : List (List TC)) (C : List (List TC)) (i : Int) (ow : spec_l06SamePoints_4_ω) : ((spec_l06SamePoints_4_fin A C i)).val = some ow → ∃ fuel, loopN spec_l06SamePoints_4_st fuel (A, C, i) = some ow := by
  intro h
  have key : A.length = C.length → Typed tab (.slice 193) (.l A) → (∀ x y : List TC, x ∈ A → y ∈ C → spec_l00Same_c ((nth x 0).list) ((nth y 0).list) = true) → loopN spec_l06SamePoints_4_st (A.length + 1) (A, C, 0) = some (if allEq spec_l06SamePoints_E A C = true then .inr () else .inl ()) := by
    intro hl ht hr
    have hlen : A.length ≤ 140737488351232 := by have := typed_room ht; simp only [show (tab 193).bytes = 24 from rfl] at this; omega
    refine loopN_allEq A C spec_l06SamePoints_E (fun i => (A, C, (i : Int))) _ _ hl (fun i hi => ?_) ?_ A.length 0 (by omega)
    · show (spec_l06SamePoints_4_step A C (i : Int)).val = _
      unfold spec_l06SamePoints_4_step
      refine Tr.t (by simp; omega) ?_
      refine Tr.t (by constructor <;> omega) ?_
      refine Tr.t (by constructor <;> omega) ?_
      refine Tr.t (hr _ _ (mem_getD hi) (mem_getD (by omega))) ?_
      rw [wrap64 (i := (i : Int) + 1) (by omega) (by omega)]
      rw [Tr.val_br]
      show (if (!(spec_l06SamePoints_E (A.getD i []) (C.getD i []))) = true then _ else _) = _
      cases spec_l06SamePoints_E (A.getD i []) (C.getD i []) <;> rfl
    · show (spec_l06SamePoints_4_step A C (A.length : Int)).val = _
      refine Tr.n (by simp) ?_
      rfl
  simp only [spec_l06SamePoints_4_fin, Told.val] at h
  cases hk : allEq spec_l06SamePoints_E A C with
  | true =>
    rw [if_pos (show spec_l06SamePoints_k4_1 A C i = true from hk)] at h
    split at h
    · rename_i ho
      obtain ⟨hl, rfl, ht, hr⟩ := is_iff.1 ho
      cases h
      refine ⟨_, (key hl ht hr).trans ?_⟩
      rw [hk]; rfl
    · cases h
  | false =>
    rw [if_neg (show ¬spec_l06SamePoints_k4_1 A C i = true from by rw [show spec_l06SamePoints_k4_1 A C i = allEq spec_l06SamePoints_E A C from rfl, hk]; simp)] at h
    split at h
    · rename_i ho
      obtain ⟨hl, rfl, ht, hr⟩ := is_iff.1 ho
      cases h
      refine ⟨_, (key hl ht hr).trans ?_⟩
      rw [hk]; rfl
    · cases h
theorem spec_l06SamePoints_is4 : LoopIs tab FT D28 live 110 spec_l06SamePoints_lo 0 4 := by
  refine loop_told (sl := spec_l06SamePoints_4_sl) (step := spec_l06SamePoints_4_st) (out := spec_l06SamePoints_4_out) (lor := spec_l06SamePoints_lo4) (fin := fun x => (spec_l06SamePoints_4_fin (x.1) (x.2.1) (x.2.2))) (fun _ => rfl) ?_ (fun x n => spec_l06SamePoints_4_r x.1 x.2.1 x.2.2 n) (fun x ow => spec_l06SamePoints_4_h x.1 x.2.1 x.2.2 ow)
  intro s t h
  unfold spec_l06SamePoints_lo4 at h
  split at h
  · cases h; exact ⟨(_, _, _), rfl, rfl⟩
  · cases h
noncomputable def spec_l06SamePoints_t (A : List (List TC)) (C : List (List TC)) : Tr (Bool) := (.ite ((!((A.length : Int) == (C.length : Int))) = true) (.ok false)
  (.ite ((spec_l06SamePoints_k4_1 A C (0 : Int)) = true) (.ite ((spec_l06SamePoints_o4_2 A C (0 : Int)) = true) (.ok true)
    .no)
   (.ite ((spec_l06SamePoints_o4_3 A C (0 : Int)) = true) (.ok false)
    .no)))
def spec_l06SamePoints_mk (p : Bool) : Res := [(false, [⟨.bool, .sh, TC.b p⟩])]
noncomputable def spec_l06SamePoints_c (A : List (List TC)) (C : List (List TC)) : Bool := is (Typed tab (.slice 193) (.l A) ∧ (∀ x y : List TC, x ∈ A → y ∈ C → spec_l00Same_c ((nth x 0).list) ((nth y 0).list) = true))
noncomputable def spec_l06SamePoints_v (A : List (List TC)) (C : List (List TC)) : Bool := allEq spec_l06SamePoints_E A C
theorem spec_l06SamePoints_l (A : List (List TC)) (C : List (List TC)) : (spec_l06SamePoints_c A C) = true → (spec_l06SamePoints_t A C).val = some (spec_l06SamePoints_v A C) := by
  intro h
  obtain ⟨ht, hr⟩ := is_iff.1 h
  unfold spec_l06SamePoints_t
  by_cases hl : A.length = C.length
  · refine Tr.n (by simp [hl]) ?_
    cases hk : allEq spec_l06SamePoints_E A C with
    | true =>
      refine Tr.t (show allEq spec_l06SamePoints_E A C = true from hk) ?_
      refine Tr.t (is_true ⟨hl, rfl, ht, hr⟩) ?_
      show _ = some (allEq spec_l06SamePoints_E A C); rw [hk]; rfl
    | false =>
      refine Tr.n (show ¬allEq spec_l06SamePoints_E A C = true from by rw [hk]; simp) ?_
      refine Tr.t (is_true ⟨hl, rfl, ht, hr⟩) ?_
      show _ = some (allEq spec_l06SamePoints_E A C); rw [hk]; rfl
  · refine Tr.t (by simp; omega) ?_
    show _ = some (allEq spec_l06SamePoints_E A C)
    rw [allEq_ne hl]; rfl
noncomputable def spec_l06SamePoints_S : List Arg → Option (Bool × Res) := fun xs => match xs with
  | [(false, [(.slice 193, TC.l A)]), (false, [(.slice 193, TC.l C)])] => some ((spec_l06SamePoints_c A C), spec_l06SamePoints_mk (spec_l06SamePoints_v A C))
  | _ => .none
theorem spec_l06SamePoints_e (A : List (List TC)) (C : List (List TC)) : runF tab FT D28 live 110 spec_l06SamePoints_lo [(false, [(.slice 193, TC.l A)]), (false, [(.slice 193, TC.l C)])] = (spec_l06SamePoints_t A C).run fun p => some (spec_l06SamePoints_mk p) := by kernel_rfl
theorem spec_l06SamePoints_s : ∀ xs r, spec_l06SamePoints_S xs = some (true, r) → runF tab FT D28 live 110 spec_l06SamePoints_lo xs = some r := by
  intro xs r h
  unfold spec_l06SamePoints_S at h
  split at h
  · simp only [Option.some.injEq, Prod.mk.injEq] at h
    obtain ⟨h1, rfl⟩ := h
    exact fun_told (spec_l06SamePoints_e _ _) (spec_l06SamePoints_l _ _) h1
  · cases h
noncomputable def D29 : Dt := also D28 110 spec_l06SamePoints_S
theorem d29 : DOk Go.Proofs.Try.prog tab D29 := d28.also mixed_ok tab_ok names_ok (fnLoops_one (by kernel_rfl) spec_l06SamePoints_is4) spec_l06SamePoints_s
/-! spec_SameSelection -/
noncomputable def spec_SameSelection_t (sk : Int) (A : List (List TC)) (B : List (List TC)) (C : List (List TC)) (Q : List (List TC)) (P : List (List TC)) (sk2 : Int) (A2 : List (List TC)) (B2 : List (List TC)) (C2 : List (List TC)) (Q2 : List (List TC)) (P2 : List (List TC)) : Tr (Bool) := (.ite ((sk == sk2) = true) (.ite ((spec_l00Same_c A A2) = true) (.ite ((spec_l00Same_v A A2) = true) (.ite ((spec_l00Same_c B B2) = true) (.ite ((spec_l00Same_v B B2) = true) (.ite ((spec_l00Same_c C C2) = true) (.ite ((spec_l00Same_v C C2) = true) (.ite ((spec_l00Same_c Q Q2) = true) (.ite ((spec_l00Same_v Q Q2) = true) (.ite ((spec_l06SamePoints_c P P2) = true) (.ok (spec_l06SamePoints_v P P2))
           .no)
          (.ok false))
         .no)
        (.ok false))
       .no)
      (.ok false))
     .no)
    (.ok false))
   .no)
  (.ok false))
def spec_SameSelection_mk (p : Bool) : Res := [(false, [⟨.bool, .sh, TC.b p⟩])]
noncomputable def spec_SameSelection_c (sk : Int) (A : List (List TC)) (B : List (List TC)) (C : List (List TC)) (Q : List (List TC)) (P : List (List TC)) (sk2 : Int) (A2 : List (List TC)) (B2 : List (List TC)) (C2 : List (List TC)) (Q2 : List (List TC)) (P2 : List (List TC)) : Bool := (bif (sk == sk2) then ((spec_l00Same_c A A2) && (bif (spec_l00Same_v A A2) then ((spec_l00Same_c B B2) && (bif (spec_l00Same_v B B2) then ((spec_l00Same_c C C2) && (bif (spec_l00Same_v C C2) then ((spec_l00Same_c Q Q2) && (bif (spec_l00Same_v Q Q2) then ((spec_l06SamePoints_c P P2) && true) else true)) else true)) else true)) else true)) else true)
noncomputable def spec_SameSelection_v (sk : Int) (A : List (List TC)) (B : List (List TC)) (C : List (List TC)) (Q : List (List TC)) (P : List (List TC)) (sk2 : Int) (A2 : List (List TC)) (B2 : List (List TC)) (C2 : List (List TC)) (Q2 : List (List TC)) (P2 : List (List TC)) : Bool := (bif (sk == sk2) then (bif (spec_l00Same_v A A2) then (bif (spec_l00Same_v B B2) then (bif (spec_l00Same_v C C2) then (bif (spec_l00Same_v Q Q2) then (spec_l06SamePoints_v P P2) else false) else false) else false) else false) else false)
theorem spec_SameSelection_l (sk : Int) (A : List (List TC)) (B : List (List TC)) (C : List (List TC)) (Q : List (List TC)) (P : List (List TC)) (sk2 : Int) (A2 : List (List TC)) (B2 : List (List TC)) (C2 : List (List TC)) (Q2 : List (List TC)) (P2 : List (List TC)) : (spec_SameSelection_c sk A B C Q P sk2 A2 B2 C2 Q2 P2) = true → (spec_SameSelection_t sk A B C Q P sk2 A2 B2 C2 Q2 P2).val = some (spec_SameSelection_v sk A B C Q P sk2 A2 B2 C2 Q2 P2) := by
  unfold spec_SameSelection_t spec_SameSelection_v spec_SameSelection_c
  exact fun h => (Tr.ss h (fun h => (Tr.gb h fun h => (Tr.ss h (fun h => (Tr.gb h fun h => (Tr.ss h (fun h => (Tr.gb h fun h => (Tr.ss h (fun h => (Tr.gb h fun h => (Tr.ss h (fun h => (Tr.gb h fun h => rfl)) (fun h => rfl)))) (fun h => rfl)))) (fun h => rfl)))) (fun h => rfl)))) (fun h => rfl))
noncomputable def spec_SameSelection_S : List Arg → Option (Bool × Res) := fun xs => match xs with
  | [(true, [(.int .i64, TC.i sk), (.slice 2, TC.l A), (.slice 2, TC.l B), (.slice 2, TC.l C), (.slice 2, TC.l Q), (.slice 193, TC.l P)]), (true, [(.int .i64, TC.i sk2), (.slice 2, TC.l A2), (.slice 2, TC.l B2), (.slice 2, TC.l C2), (.slice 2, TC.l Q2), (.slice 193, TC.l P2)])] => some ((spec_SameSelection_c sk A B C Q P sk2 A2 B2 C2 Q2 P2), spec_SameSelection_mk (spec_SameSelection_v sk A B C Q P sk2 A2 B2 C2 Q2 P2))
  | _ => .none
theorem spec_SameSelection_e (sk : Int) (A : List (List TC)) (B : List (List TC)) (C : List (List TC)) (Q : List (List TC)) (P : List (List TC)) (sk2 : Int) (A2 : List (List TC)) (B2 : List (List TC)) (C2 : List (List TC)) (Q2 : List (List TC)) (P2 : List (List TC)) : runF tab FT D29 live 82 noLoops [(true, [(.int .i64, TC.i sk), (.slice 2, TC.l A), (.slice 2, TC.l B), (.slice 2, TC.l C), (.slice 2, TC.l Q), (.slice 193, TC.l P)]), (true, [(.int .i64, TC.i sk2), (.slice 2, TC.l A2), (.slice 2, TC.l B2), (.slice 2, TC.l C2), (.slice 2, TC.l Q2), (.slice 193, TC.l P2)])] = (spec_SameSelection_t sk A B C Q P sk2 A2 B2 C2 Q2 P2).run fun p => some (spec_SameSelection_mk p) := by kernel_rfl
theorem spec_SameSelection_s : ∀ xs r, spec_SameSelection_S xs = some (true, r) → runF tab FT D29 live 82 noLoops xs = some r := by
  intro xs r h
  unfold spec_SameSelection_S at h
  split at h
  · simp only [Option.some.injEq, Prod.mk.injEq] at h
    obtain ⟨h1, rfl⟩ := h
    exact fun_told (spec_SameSelection_e _ _ _ _ _ _ _ _ _ _ _ _) (spec_SameSelection_l _ _ _ _ _ _ _ _ _ _ _ _) h1
  · cases h
noncomputable def D30 : Dt := also D29 82 spec_SameSelection_S
theorem d30 : DOk Go.Proofs.Try.prog tab D30 := d29.also mixed_ok tab_ok names_ok noLoops_ok spec_SameSelection_s
theorem spec_SameSelection_cc {sk : Int} {A : List (List TC)} {B : List (List TC)} {C : List (List TC)} {Q : List (List TC)} {P : List (List TC)} {sk2 : Int} {A2 : List (List TC)} {B2 : List (List TC)} {C2 : List (List TC)} {Q2 : List (List TC)} {P2 : List (List TC)} (tA : Typed tab (.slice 2) (.l A)) (tB : Typed tab (.slice 2) (.l B)) (tC : Typed tab (.slice 2) (.l C)) (tQ : Typed tab (.slice 2) (.l Q)) (tP : Typed tab (.slice 193) (.l P)) : (spec_SameSelection_c sk A B C Q P sk2 A2 B2 C2 Q2 P2) = true := by
  unfold spec_SameSelection_c
  refine bifT (fun b1 => ?_) (fun b1 => ?_)
  · skip
    refine andT (by exact is_true tA) ?_
    refine bifT (fun b2 => ?_) (fun b2 => ?_)
    · skip
      refine andT (by exact is_true tB) ?_
      refine bifT (fun b3 => ?_) (fun b3 => ?_)
      · skip
        refine andT (by exact is_true tC) ?_
        refine bifT (fun b4 => ?_) (fun b4 => ?_)
        · skip
          refine andT (by exact is_true tQ) ?_
          refine bifT (fun b5 => ?_) (fun b5 => ?_)
          · skip
            refine andT (by exact is_true ⟨tP, fun x y hx hy => is_true (typed_list ((typed_elem tP hx).2 0 (by decide)))⟩) ?_
            rfl
          · skip
            rfl
        · skip
          rfl
      · skip
        rfl
    · skip
      rfl
  · skip
    rfl

theorem form_193 {A : List (List TC)} (h : Typed tab (.slice 193) (.l A)) {x : List TC} (hx : x ∈ A) : x = [TC.l (nth x 0).list] := by
  obtain ⟨hl, hk⟩ := typed_elem h hx
  have e0 : TC.l (nth x 0).list = nth x 0 := typed_list_eq (hk 0 (by decide))
  rw [e0]
  exact row_eta hl
theorem l00_eqL {A C : List (List TC)} (a : Typed tab (.slice 2) (.l A)) (c : Typed tab (.slice 2) (.l C)) : allEq E_2 A C = eqL A C := allEq_eqL (E := E_2) (fun x y hx hy => by
    constructor
    · intro h
      have hh : (nth x 0).int = (nth y 0).int := by
        simpa [E_2] using h
      have e0 := hh
      have hx' := form_2 a hx
      have hy' := form_2 c hy
      rw [hx', hy', e0]
    · rintro rfl
      simp [E_2])
theorem pts_eqL {E : List TC → List TC → Bool} {A C : List (List TC)} (hE : ∀ x y, E x y = allEq E_2 (nth x 0).list (nth y 0).list) (a : Typed tab (.slice 193) (.l A)) (c : Typed tab (.slice 193) (.l C)) : allEq E A C = eqL A C := allEq_eqL (fun x y hx hy => by
    rw [hE, l00_eqL (typed_list ((typed_elem a hx).2 0 (by decide))) (typed_list ((typed_elem c hy).2 0 (by decide))), eqL_iff]
    constructor
    · intro h
      have hx' := form_193 a hx
      have hy' := form_193 c hy
      rw [hx', hy', h]
    · rintro rfl; rfl)
theorem spec_SameSelection_q {sk sk2 : Int} {A B C Q P A2 B2 C2 Q2 P2 : List (List TC)} (tA : Typed tab (.slice 2) (.l A)) (tB : Typed tab (.slice 2) (.l B)) (tC : Typed tab (.slice 2) (.l C)) (tQ : Typed tab (.slice 2) (.l Q)) (tP : Typed tab (.slice 193) (.l P)) (tA2 : Typed tab (.slice 2) (.l A2)) (tB2 : Typed tab (.slice 2) (.l B2)) (tC2 : Typed tab (.slice 2) (.l C2)) (tQ2 : Typed tab (.slice 2) (.l Q2)) (tP2 : Typed tab (.slice 193) (.l P2)) : spec_SameSelection_v sk A B C Q P sk2 A2 B2 C2 Q2 P2 = selV sk A B C Q P sk2 A2 B2 C2 Q2 P2 := by
  unfold spec_SameSelection_v selV
  rw [show spec_l00Same_v A A2 = eqL A A2 from l00_eqL tA tA2, show spec_l00Same_v B B2 = eqL B B2 from l00_eqL tB tB2, show spec_l00Same_v C C2 = eqL C C2 from l00_eqL tC tC2, show spec_l00Same_v Q Q2 = eqL Q Q2 from l00_eqL tQ tQ2, show spec_l06SamePoints_v P P2 = eqL P P2 from pts_eqL (E := spec_l06SamePoints_E) (fun _ _ => rfl) tP tP2]
  simp only [bif_ft]
/-! spec_SameVirtual -/
noncomputable def spec_SameVirtual_f4 (k : Int) (s : Int) (sg : Bool) (bg : Bool) (NA : List (List TC)) (NU : List (List TC)) (ME : List (List TC)) (BA : List (List TC)) (ct : Int) (DI : List (List TC)) (FI : List UInt8) (MA : List (List TC)) (k2 : Int) (s2 : Int) (sg2 : Bool) (bg2 : Bool) (NA2 : List (List TC)) (NU2 : List (List TC)) (ME2 : List (List TC)) (BA2 : List (List TC)) (ct2 : Int) (DI2 : List (List TC)) (FI2 : List UInt8) (MA2 : List (List TC)) (i : Int) : (Unit) ⊕ ((Unit) ⊕ (Unit)) := (bif (!((nth (row MA i) 0).str == (nth (row MA2 i) 0).str)) then (.inr (.inl ())) else (bif (!(spec_SameSelection_v ((nth (row MA i) 1).int) ((nth (row MA i) 2).list) ((nth (row MA i) 3).list) ((nth (row MA i) 4).list) ((nth (row MA i) 5).list) ((nth (row MA i) 6).list) ((nth (row MA2 i) 1).int) ((nth (row MA2 i) 2).list) ((nth (row MA2 i) 3).list) ((nth (row MA2 i) 4).list) ((nth (row MA2 i) 5).list) ((nth (row MA2 i) 6).list))) then (.inr (.inl ())) else (bif (!(spec_SameSelection_v ((nth (row MA i) 7).int) ((nth (row MA i) 8).list) ((nth (row MA i) 9).list) ((nth (row MA i) 10).list) ((nth (row MA i) 11).list) ((nth (row MA i) 12).list) ((nth (row MA2 i) 7).int) ((nth (row MA2 i) 8).list) ((nth (row MA2 i) 9).list) ((nth (row MA2 i) 10).list) ((nth (row MA2 i) 11).list) ((nth (row MA2 i) 12).list))) then (.inr (.inl ())) else (.inl ()))))
noncomputable def spec_SameVirtual_e4 (k : Int) (s : Int) (sg : Bool) (bg : Bool) (NA : List (List TC)) (NU : List (List TC)) (ME : List (List TC)) (BA : List (List TC)) (ct : Int) (DI : List (List TC)) (FI : List UInt8) (MA : List (List TC)) (k2 : Int) (s2 : Int) (sg2 : Bool) (bg2 : Bool) (NA2 : List (List TC)) (NU2 : List (List TC)) (ME2 : List (List TC)) (BA2 : List (List TC)) (ct2 : Int) (DI2 : List (List TC)) (FI2 : List UInt8) (MA2 : List (List TC)) : (Unit) ⊕ (Unit) := .inr ()
noncomputable def spec_SameVirtual_R4 (k : Int) (s : Int) (sg : Bool) (bg : Bool) (NA : List (List TC)) (NU : List (List TC)) (ME : List (List TC)) (BA : List (List TC)) (ct : Int) (DI : List (List TC)) (FI : List UInt8) (MA : List (List TC)) (k2 : Int) (s2 : Int) (sg2 : Bool) (bg2 : Bool) (NA2 : List (List TC)) (NU2 : List (List TC)) (ME2 : List (List TC)) (BA2 : List (List TC)) (ct2 : Int) (DI2 : List (List TC)) (FI2 : List UInt8) (MA2 : List (List TC)) (i : Int) : (Unit) ⊕ (Unit) := iter (fun i a => (spec_SameVirtual_f4 k s sg bg NA NU ME BA ct DI FI MA k2 s2 sg2 bg2 NA2 NU2 ME2 BA2 ct2 DI2 FI2 MA2 (i : Int))) (fun a => (spec_SameVirtual_e4 k s sg bg NA NU ME BA ct DI FI MA k2 s2 sg2 bg2 NA2 NU2 ME2 BA2 ct2 DI2 FI2 MA2)) (MA.length) 0 ()
abbrev spec_SameVirtual_4_σ := Int × Int × Bool × Bool × List (List TC) × List (List TC) × List (List TC) × List (List TC) × Int × List (List TC) × List UInt8 × List (List TC) × Int × Int × Bool × Bool × List (List TC) × List (List TC) × List (List TC) × List (List TC) × Int × List (List TC) × List UInt8 × List (List TC) × Int
abbrev spec_SameVirtual_4_ω := (Unit) ⊕ (Unit)
noncomputable def spec_SameVirtual_4_step (k : Int) (s : Int) (sg : Bool) (bg : Bool) (NA : List (List TC)) (NU : List (List TC)) (ME : List (List TC)) (BA : List (List TC)) (ct : Int) (DI : List (List TC)) (FI : List UInt8) (MA : List (List TC)) (k2 : Int) (s2 : Int) (sg2 : Bool) (bg2 : Bool) (NA2 : List (List TC)) (NU2 : List (List TC)) (ME2 : List (List TC)) (BA2 : List (List TC)) (ct2 : Int) (DI2 : List (List TC)) (FI2 : List UInt8) (MA2 : List (List TC)) (i : Int) : Tr (spec_SameVirtual_4_σ ⊕ spec_SameVirtual_4_ω) := (.ite ((decide (i < (MA.length : Int))) = true) (.ite ((0 : Int) ≤ i ∧ i < (MA.length : Int)) (.ite ((0 : Int) ≤ i ∧ i < (MA2.length : Int)) (.ite ((!((nth (row MA i) 0).str == (nth (row MA2 i) 0).str)) = true) (.ok (.inr (.inl ())))
     (.ite ((spec_SameSelection_c ((nth (row MA i) 1).int) ((nth (row MA i) 2).list) ((nth (row MA i) 3).list) ((nth (row MA i) 4).list) ((nth (row MA i) 5).list) ((nth (row MA i) 6).list) ((nth (row MA2 i) 1).int) ((nth (row MA2 i) 2).list) ((nth (row MA2 i) 3).list) ((nth (row MA2 i) 4).list) ((nth (row MA2 i) 5).list) ((nth (row MA2 i) 6).list)) = true) (.ite ((!(spec_SameSelection_v ((nth (row MA i) 1).int) ((nth (row MA i) 2).list) ((nth (row MA i) 3).list) ((nth (row MA i) 4).list) ((nth (row MA i) 5).list) ((nth (row MA i) 6).list) ((nth (row MA2 i) 1).int) ((nth (row MA2 i) 2).list) ((nth (row MA2 i) 3).list) ((nth (row MA2 i) 4).list) ((nth (row MA2 i) 5).list) ((nth (row MA2 i) 6).list))) = true) (.ok (.inr (.inl ())))
       (.ite ((spec_SameSelection_c ((nth (row MA i) 7).int) ((nth (row MA i) 8).list) ((nth (row MA i) 9).list) ((nth (row MA i) 10).list) ((nth (row MA i) 11).list) ((nth (row MA i) 12).list) ((nth (row MA2 i) 7).int) ((nth (row MA2 i) 8).list) ((nth (row MA2 i) 9).list) ((nth (row MA2 i) 10).list) ((nth (row MA2 i) 11).list) ((nth (row MA2 i) 12).list)) = true) (.ite ((!(spec_SameSelection_v ((nth (row MA i) 7).int) ((nth (row MA i) 8).list) ((nth (row MA i) 9).list) ((nth (row MA i) 10).list) ((nth (row MA i) 11).list) ((nth (row MA i) 12).list) ((nth (row MA2 i) 7).int) ((nth (row MA2 i) 8).list) ((nth (row MA2 i) 9).list) ((nth (row MA2 i) 10).list) ((nth (row MA2 i) 11).list) ((nth (row MA2 i) 12).list))) = true) (.ok (.inr (.inl ())))
         (.ok (.inl (k, s, sg, bg, NA, NU, ME, BA, ct, DI, FI, MA, k2, s2, sg2, bg2, NA2, NU2, ME2, BA2, ct2, DI2, FI2, MA2, (IntKind.wrap .i64 (i + (1 : Int)))))))
        .no))
      .no))
    .no)
   .no)
  (.ok (.inr (.inr ()))))
noncomputable def spec_SameVirtual_4_st : spec_SameVirtual_4_σ → Tr (spec_SameVirtual_4_σ ⊕ spec_SameVirtual_4_ω) := fun x => (spec_SameVirtual_4_step (x.1) (x.2.1) (x.2.2.1) (x.2.2.2.1) (x.2.2.2.2.1) (x.2.2.2.2.2.1) (x.2.2.2.2.2.2.1) (x.2.2.2.2.2.2.2.1) (x.2.2.2.2.2.2.2.2.1) (x.2.2.2.2.2.2.2.2.2.1) (x.2.2.2.2.2.2.2.2.2.2.1) (x.2.2.2.2.2.2.2.2.2.2.2.1) (x.2.2.2.2.2.2.2.2.2.2.2.2.1) (x.2.2.2.2.2.2.2.2.2.2.2.2.2.1) (x.2.2.2.2.2.2.2.2.2.2.2.2.2.2.1) (x.2.2.2.2.2.2.2.2.2.2.2.2.2.2.2.1) (x.2.2.2.2.2.2.2.2.2.2.2.2.2.2.2.2.1) (x.2.2.2.2.2.2.2.2.2.2.2.2.2.2.2.2.2.1) (x.2.2.2.2.2.2.2.2.2.2.2.2.2.2.2.2.2.2.1) (x.2.2.2.2.2.2.2.2.2.2.2.2.2.2.2.2.2.2.2.1) (x.2.2.2.2.2.2.2.2.2.2.2.2.2.2.2.2.2.2.2.2.1) (x.2.2.2.2.2.2.2.2.2.2.2.2.2.2.2.2.2.2.2.2.2.1) (x.2.2.2.2.2.2.2.2.2.2.2.2.2.2.2.2.2.2.2.2.2.2.1) (x.2.2.2.2.2.2.2.2.2.2.2.2.2.2.2.2.2.2.2.2.2.2.2.1) (x.2.2.2.2.2.2.2.2.2.2.2.2.2.2.2.2.2.2.2.2.2.2.2.2))
noncomputable def spec_SameVirtual_k4_1 (k : Int) (s : Int) (sg : Bool) (bg : Bool) (NA : List (List TC)) (NU : List (List TC)) (ME : List (List TC)) (BA : List (List TC)) (ct : Int) (DI : List (List TC)) (FI : List UInt8) (MA : List (List TC)) (k2 : Int) (s2 : Int) (sg2 : Bool) (bg2 : Bool) (NA2 : List (List TC)) (NU2 : List (List TC)) (ME2 : List (List TC)) (BA2 : List (List TC)) (ct2 : Int) (DI2 : List (List TC)) (FI2 : List UInt8) (MA2 : List (List TC)) (i : Int) : Bool := sumIs (spec_SameVirtual_R4 k s sg bg NA NU ME BA ct DI FI MA k2 s2 sg2 bg2 NA2 NU2 ME2 BA2 ct2 DI2 FI2 MA2 i)
noncomputable def spec_SameVirtual_o4_2 (k : Int) (s : Int) (sg : Bool) (bg : Bool) (NA : List (List TC)) (NU : List (List TC)) (ME : List (List TC)) (BA : List (List TC)) (ct : Int) (DI : List (List TC)) (FI : List UInt8) (MA : List (List TC)) (k2 : Int) (s2 : Int) (sg2 : Bool) (bg2 : Bool) (NA2 : List (List TC)) (NU2 : List (List TC)) (ME2 : List (List TC)) (BA2 : List (List TC)) (ct2 : Int) (DI2 : List (List TC)) (FI2 : List UInt8) (MA2 : List (List TC)) (i : Int) : Bool := is (i = 0 ∧ MA.length = MA2.length ∧ MA.length ≤ 140737488355328 ∧ (∀ x : List TC, x ∈ MA → ∀ y : List TC, spec_SameSelection_c (nth x 1).int (nth x 2).list (nth x 3).list (nth x 4).list (nth x 5).list (nth x 6).list (nth y 1).int (nth y 2).list (nth y 3).list (nth y 4).list (nth y 5).list (nth y 6).list = true ∧ spec_SameSelection_c (nth x 7).int (nth x 8).list (nth x 9).list (nth x 10).list (nth x 11).list (nth x 12).list (nth y 7).int (nth y 8).list (nth y 9).list (nth y 10).list (nth y 11).list (nth y 12).list = true))
noncomputable def spec_SameVirtual_o4_3 (k : Int) (s : Int) (sg : Bool) (bg : Bool) (NA : List (List TC)) (NU : List (List TC)) (ME : List (List TC)) (BA : List (List TC)) (ct : Int) (DI : List (List TC)) (FI : List UInt8) (MA : List (List TC)) (k2 : Int) (s2 : Int) (sg2 : Bool) (bg2 : Bool) (NA2 : List (List TC)) (NU2 : List (List TC)) (ME2 : List (List TC)) (BA2 : List (List TC)) (ct2 : Int) (DI2 : List (List TC)) (FI2 : List UInt8) (MA2 : List (List TC)) (i : Int) : Bool := is (i = 0 ∧ MA.length = MA2.length ∧ MA.length ≤ 140737488355328 ∧ (∀ x : List TC, x ∈ MA → ∀ y : List TC, spec_SameSelection_c (nth x 1).int (nth x 2).list (nth x 3).list (nth x 4).list (nth x 5).list (nth x 6).list (nth y 1).int (nth y 2).list (nth y 3).list (nth y 4).list (nth y 5).list (nth y 6).list = true ∧ spec_SameSelection_c (nth x 7).int (nth x 8).list (nth x 9).list (nth x 10).list (nth x 11).list (nth x 12).list (nth y 7).int (nth y 8).list (nth y 9).list (nth y 10).list (nth y 11).list (nth y 12).list = true))
noncomputable def spec_SameVirtual_4_fin (k : Int) (s : Int) (sg : Bool) (bg : Bool) (NA : List (List TC)) (NU : List (List TC)) (ME : List (List TC)) (BA : List (List TC)) (ct : Int) (DI : List (List TC)) (FI : List UInt8) (MA : List (List TC)) (k2 : Int) (s2 : Int) (sg2 : Bool) (bg2 : Bool) (NA2 : List (List TC)) (NU2 : List (List TC)) (ME2 : List (List TC)) (BA2 : List (List TC)) (ct2 : Int) (DI2 : List (List TC)) (FI2 : List UInt8) (MA2 : List (List TC)) (i : Int) : Told spec_SameVirtual_4_ω := (.br (spec_SameVirtual_k4_1 k s sg bg NA NU ME BA ct DI FI MA k2 s2 sg2 bg2 NA2 NU2 ME2 BA2 ct2 DI2 FI2 MA2 i) (.leaf (spec_SameVirtual_o4_2 k s sg bg NA NU ME BA ct DI FI MA k2 s2 sg2 bg2 NA2 NU2 ME2 BA2 ct2 DI2 FI2 MA2 i) (.inl ())) (.leaf (spec_SameVirtual_o4_3 k s sg bg NA NU ME BA ct DI FI MA k2 s2 sg2 bg2 NA2 NU2 ME2 BA2 ct2 DI2 FI2 MA2 i) (.inr ())))
def spec_SameVirtual_4_sl : spec_SameVirtual_4_σ → List Slot := fun x => match x with | (k, s, sg, bg, NA, NU, ME, BA, ct, DI, FI, MA, k2, s2, sg2, bg2, NA2, NU2, ME2, BA2, ct2, DI2, FI2, MA2, i) => [⟨.bx 82 [⟨.int .i64, .sh, TC.i k⟩, ⟨.int .i64, .sh, TC.i s⟩, ⟨.bool, .sh, TC.b sg⟩, ⟨.bool, .sh, TC.b bg⟩, ⟨.slice 9, .sh, TC.l NA⟩, ⟨.slice 2, .sh, TC.l NU⟩, ⟨.slice 147, .sh, TC.l ME⟩, ⟨.slice 55, .sh, TC.l BA⟩, ⟨.int .i64, .sh, TC.i ct⟩, ⟨.slice 2, .sh, TC.l DI⟩, ⟨.str, .sh, TC.s FI⟩, ⟨.slice 128, .sh, TC.l MA⟩], ⟨0, 0⟩⟩, ⟨.bx 82 [⟨.int .i64, .sh, TC.i k2⟩, ⟨.int .i64, .sh, TC.i s2⟩, ⟨.bool, .sh, TC.b sg2⟩, ⟨.bool, .sh, TC.b bg2⟩, ⟨.slice 9, .sh, TC.l NA2⟩, ⟨.slice 2, .sh, TC.l NU2⟩, ⟨.slice 147, .sh, TC.l ME2⟩, ⟨.slice 55, .sh, TC.l BA2⟩, ⟨.int .i64, .sh, TC.i ct2⟩, ⟨.slice 2, .sh, TC.l DI2⟩, ⟨.str, .sh, TC.s FI2⟩, ⟨.slice 128, .sh, TC.l MA2⟩], ⟨0, 0⟩⟩, ⟨.val false [⟨.int .i64, .sh, TC.i i⟩], ⟨0, 0⟩⟩]
def spec_SameVirtual_4_out : spec_SameVirtual_4_ω → Ex × List Slot := (Sum.elim (fun x => (.ret, [⟨.val false [⟨.bool, .sh, TC.b false⟩], ⟨0, 0⟩⟩])) (fun x => (.exit 0, [Slot.none])))
noncomputable def spec_SameVirtual_lo4 : List Slot → Option (Told (Ex × List Slot)) := fun s => match s with
  | [⟨.bx 82 [⟨.int .i64, .sh, TC.i k⟩, ⟨.int .i64, .sh, TC.i s⟩, ⟨.bool, .sh, TC.b sg⟩, ⟨.bool, .sh, TC.b bg⟩, ⟨.slice 9, .sh, TC.l NA⟩, ⟨.slice 2, .sh, TC.l NU⟩, ⟨.slice 147, .sh, TC.l ME⟩, ⟨.slice 55, .sh, TC.l BA⟩, ⟨.int .i64, .sh, TC.i ct⟩, ⟨.slice 2, .sh, TC.l DI⟩, ⟨.str, .sh, TC.s FI⟩, ⟨.slice 128, .sh, TC.l MA⟩], ⟨0, 0⟩⟩, ⟨.bx 82 [⟨.int .i64, .sh, TC.i k2⟩, ⟨.int .i64, .sh, TC.i s2⟩, ⟨.bool, .sh, TC.b sg2⟩, ⟨.bool, .sh, TC.b bg2⟩, ⟨.slice 9, .sh, TC.l NA2⟩, ⟨.slice 2, .sh, TC.l NU2⟩, ⟨.slice 147, .sh, TC.l ME2⟩, ⟨.slice 55, .sh, TC.l BA2⟩, ⟨.int .i64, .sh, TC.i ct2⟩, ⟨.slice 2, .sh, TC.l DI2⟩, ⟨.str, .sh, TC.s FI2⟩, ⟨.slice 128, .sh, TC.l MA2⟩], ⟨0, 0⟩⟩, ⟨.val false [⟨.int .i64, .sh, TC.i i⟩], ⟨0, 0⟩⟩] => some (((spec_SameVirtual_4_fin k s sg bg NA NU ME BA ct DI FI MA k2 s2 sg2 bg2 NA2 NU2 ME2 BA2 ct2 DI2 FI2 MA2 i)).map spec_SameVirtual_4_out)
  | _ => .none
noncomputable def spec_SameVirtual_lo : LoopTeller := fun r s => bif Nat.beq r 4 then spec_SameVirtual_lo4 s else .none
theorem spec_SameVirtual_4_r (k : Int) (s : Int) (sg : Bool) (bg : Bool) (NA : List (List TC)) (NU : List (List TC)) (ME : List (List TC)) (BA : List (List TC)) (ct : Int) (DI : List (List TC)) (FI : List UInt8) (MA : List (List TC)) (k2 : Int) (s2 : Int) (sg2 : Bool) (bg2 : Bool) (NA2 : List (List TC)) (NU2 : List (List TC)) (ME2 : List (List TC)) (BA2 : List (List TC)) (ct2 : Int) (DI2 : List (List TC)) (FI2 : List UInt8) (MA2 : List (List TC)) (i : Int) (fuel : Nat) : rounds (rnd tab FT D30 live 33 spec_SameVirtual_lo 0 4) leave (fuel + 1) (spec_SameVirtual_4_sl (k, s, sg, bg, NA, NU, ME, BA, ct, DI, FI, MA, k2, s2, sg2, bg2, NA2, NU2, ME2, BA2, ct2, DI2, FI2, MA2, i)) = ((spec_SameVirtual_4_step k s sg bg NA NU ME BA ct DI FI MA k2 s2 sg2 bg2 NA2 NU2 ME2 BA2 ct2 DI2 FI2 MA2 i)).run (goOn (fun s => rounds (rnd tab FT D30 live 33 spec_SameVirtual_lo 0 4) leave fuel (spec_SameVirtual_4_sl s)) fun w => some (spec_SameVirtual_4_out w)) := by kernel_rfl
theorem spec_SameVirtual_f4_eq (k s : Int) (sg bg : Bool) (NA NU ME BA : List (List TC)) (ct : Int) (DI : List (List TC)) (FI : List UInt8) (MA : List (List TC)) (k2 s2 : Int) (sg2 bg2 : Bool) (NA2 NU2 ME2 BA2 : List (List TC)) (ct2 : Int) (DI2 : List (List TC)) (FI2 : List UInt8) (MA2 : List (List TC)) (i : Int) : spec_SameVirtual_f4 k s sg bg NA NU ME BA ct DI FI MA k2 s2 sg2 bg2 NA2 NU2 ME2 BA2 ct2 DI2 FI2 MA2 i = bif ((nth (row MA i) 0).str == (nth (row MA2 i) 0).str) && (spec_SameSelection_v (nth (row MA i) 1).int (nth (row MA i) 2).list (nth (row MA i) 3).list (nth (row MA i) 4).list (nth (row MA i) 5).list (nth (row MA i) 6).list (nth (row MA2 i) 1).int (nth (row MA2 i) 2).list (nth (row MA2 i) 3).list (nth (row MA2 i) 4).list (nth (row MA2 i) 5).list (nth (row MA2 i) 6).list && spec_SameSelection_v (nth (row MA i) 7).int (nth (row MA i) 8).list (nth (row MA i) 9).list (nth (row MA i) 10).list (nth (row MA i) 11).list (nth (row MA i) 12).list (nth (row MA2 i) 7).int (nth (row MA2 i) 8).list (nth (row MA2 i) 9).list (nth (row MA2 i) 10).list (nth (row MA2 i) 11).list (nth (row MA2 i) 12).list) then Sum.inl () else Sum.inr (Sum.inl ()) := by
  unfold spec_SameVirtual_f4 
  skip
  generalize ((nth (row MA i) 0).str == (nth (row MA2 i) 0).str) = p0, spec_SameSelection_v (nth (row MA i) 1).int (nth (row MA i) 2).list (nth (row MA i) 3).list (nth (row MA i) 4).list (nth (row MA i) 5).list (nth (row MA i) 6).list (nth (row MA2 i) 1).int (nth (row MA2 i) 2).list (nth (row MA2 i) 3).list (nth (row MA2 i) 4).list (nth (row MA2 i) 5).list (nth (row MA2 i) 6).list = p1, spec_SameSelection_v (nth (row MA i) 7).int (nth (row MA i) 8).list (nth (row MA i) 9).list (nth (row MA i) 10).list (nth (row MA i) 11).list (nth (row MA i) 12).list (nth (row MA2 i) 7).int (nth (row MA2 i) 8).list (nth (row MA2 i) 9).list (nth (row MA2 i) 10).list (nth (row MA2 i) 11).list (nth (row MA2 i) 12).list = p2
  cases p0 <;> cases p1 <;> cases p2 <;> rfl
theorem spec_SameVirtual_R4_eq (k s : Int) (sg bg : Bool) (NA NU ME BA : List (List TC)) (ct : Int) (DI : List (List TC)) (FI : List UInt8) (MA : List (List TC)) (k2 s2 : Int) (sg2 bg2 : Bool) (NA2 NU2 ME2 BA2 : List (List TC)) (ct2 : Int) (DI2 : List (List TC)) (FI2 : List UInt8) (MA2 : List (List TC))  : spec_SameVirtual_R4 k s sg bg NA NU ME BA ct DI FI MA k2 s2 sg2 bg2 NA2 NU2 ME2 BA2 ct2 DI2 FI2 MA2 0 = bif allI (fun i : Nat => ((nth (row MA (i : Int)) 0).str == (nth (row MA2 (i : Int)) 0).str) && (spec_SameSelection_v (nth (row MA (i : Int)) 1).int (nth (row MA (i : Int)) 2).list (nth (row MA (i : Int)) 3).list (nth (row MA (i : Int)) 4).list (nth (row MA (i : Int)) 5).list (nth (row MA (i : Int)) 6).list (nth (row MA2 (i : Int)) 1).int (nth (row MA2 (i : Int)) 2).list (nth (row MA2 (i : Int)) 3).list (nth (row MA2 (i : Int)) 4).list (nth (row MA2 (i : Int)) 5).list (nth (row MA2 (i : Int)) 6).list && spec_SameSelection_v (nth (row MA (i : Int)) 7).int (nth (row MA (i : Int)) 8).list (nth (row MA (i : Int)) 9).list (nth (row MA (i : Int)) 10).list (nth (row MA (i : Int)) 11).list (nth (row MA (i : Int)) 12).list (nth (row MA2 (i : Int)) 7).int (nth (row MA2 (i : Int)) 8).list (nth (row MA2 (i : Int)) 9).list (nth (row MA2 (i : Int)) 10).list (nth (row MA2 (i : Int)) 11).list (nth (row MA2 (i : Int)) 12).list)) (MA.length) then Sum.inr () else (Sum.inl ()) := by
  unfold spec_SameVirtual_R4
  exact (iter_all (P := (fun i : Nat => ((nth (row MA (i : Int)) 0).str == (nth (row MA2 (i : Int)) 0).str) && (spec_SameSelection_v (nth (row MA (i : Int)) 1).int (nth (row MA (i : Int)) 2).list (nth (row MA (i : Int)) 3).list (nth (row MA (i : Int)) 4).list (nth (row MA (i : Int)) 5).list (nth (row MA (i : Int)) 6).list (nth (row MA2 (i : Int)) 1).int (nth (row MA2 (i : Int)) 2).list (nth (row MA2 (i : Int)) 3).list (nth (row MA2 (i : Int)) 4).list (nth (row MA2 (i : Int)) 5).list (nth (row MA2 (i : Int)) 6).list && spec_SameSelection_v (nth (row MA (i : Int)) 7).int (nth (row MA (i : Int)) 8).list (nth (row MA (i : Int)) 9).list (nth (row MA (i : Int)) 10).list (nth (row MA (i : Int)) 11).list (nth (row MA (i : Int)) 12).list (nth (row MA2 (i : Int)) 7).int (nth (row MA2 (i : Int)) 8).list (nth (row MA2 (i : Int)) 9).list (nth (row MA2 (i : Int)) 10).list (nth (row MA2 (i : Int)) 11).list (nth (row MA2 (i : Int)) 12).list))) (g := fun _ a => a) (w := Sum.inl ()) fun j a _ => spec_SameVirtual_f4_eq k s sg bg NA NU ME BA ct DI FI MA k2 s2 sg2 bg2 NA2 NU2 ME2 BA2 ct2 DI2 FI2 MA2 _)
theorem spec_SameVirtual_4_h (k : Int) (s : Int) (sg : Bool) (bg : Bool) (NA : List (List TC)) (NU : List (List TC)) (ME : List (List TC)) (BA : List (List TC)) (ct : Int) (DI : List (List TC)) (FI : List UInt8) (MA : List (List TC)) (k2 : Int) (s2 : Int) (sg2 : Bool) (bg2 : Bool) (NA2 : List (List TC)) (NU2 : List (List TC)) (ME2 : List (List TC)) (BA2 : List (List TC)) (ct2 : Int) (DI2 : List (List TC)) (FI2 : List UInt8) (MA2 : List (List TC)) (i : Int) (ow : spec_SameVirtual_4_ω) : ((spec_SameVirtual_4_fin k s sg bg NA NU ME BA ct DI FI MA k2 s2 sg2 bg2 NA2 NU2 ME2 BA2 ct2 DI2 FI2 MA2 i)).val = some ow → ∃ fuel, loopN spec_SameVirtual_4_st fuel (k, s, sg, bg, NA, NU, ME, BA, ct, DI, FI, MA, k2, s2, sg2, bg2, NA2, NU2, ME2, BA2, ct2, DI2, FI2, MA2, i) = some ow := by
  refine auto_const (R := (spec_SameVirtual_R4 k s sg bg NA NU ME BA ct DI FI MA k2 s2 sg2 bg2 NA2 NU2 ME2 BA2 ct2 DI2 FI2 MA2 i)) rfl (iter_onR (f := (fun i a => (spec_SameVirtual_f4 k s sg bg NA NU ME BA ct DI FI MA k2 s2 sg2 bg2 NA2 NU2 ME2 BA2 ct2 DI2 FI2 MA2 (i : Int)))) (fin := (fun a => (spec_SameVirtual_e4 k s sg bg NA NU ME BA ct DI FI MA k2 s2 sg2 bg2 NA2 NU2 ME2 BA2 ct2 DI2 FI2 MA2))) (Q := endsAs () ()) (fun i a => by unfold spec_SameVirtual_f4; exact (onR_bif rfl (onR_bif rfl (onR_bif rfl trivial)))) (fun _ => rfl) _ _ _) ?_
  intro ho
  have ho : is (i = 0 ∧ MA.length = MA2.length ∧ MA.length ≤ 140737488355328 ∧ (∀ x : List TC, x ∈ MA → ∀ y : List TC, spec_SameSelection_c (nth x 1).int (nth x 2).list (nth x 3).list (nth x 4).list (nth x 5).list (nth x 6).list (nth y 1).int (nth y 2).list (nth y 3).list (nth y 4).list (nth y 5).list (nth y 6).list = true ∧ spec_SameSelection_c (nth x 7).int (nth x 8).list (nth x 9).list (nth x 10).list (nth x 11).list (nth x 12).list (nth y 7).int (nth y 8).list (nth y 9).list (nth y 10).list (nth y 11).list (nth y 12).list = true)) = true := ho.elim id id
  obtain ⟨rfl, hl, hm, hr⟩ := is_iff.1 ho
  skip
  refine ⟨(MA.length) + 1, ?_⟩
  refine iter_loop (step := spec_SameVirtual_4_st) (MA.length) (fun i a => (spec_SameVirtual_f4 k s sg bg NA NU ME BA ct DI FI MA k2 s2 sg2 bg2 NA2 NU2 ME2 BA2 ct2 DI2 FI2 MA2 (i : Int))) (fun a => (spec_SameVirtual_e4 k s sg bg NA NU ME BA ct DI FI MA k2 s2 sg2 bg2 NA2 NU2 ME2 BA2 ct2 DI2 FI2 MA2)) (fun i a => (k, s, sg, bg, NA, NU, ME, BA, ct, DI, FI, MA, k2, s2, sg2, bg2, NA2, NU2, ME2, BA2, ct2, DI2, FI2, MA2, (i : Int))) (fun _ _ => True) trivial (fun i a hi hI => ⟨?_, fun _ _ => trivial⟩) (fun a hI => ?_)
  · show (spec_SameVirtual_4_step k s sg bg NA NU ME BA ct DI FI MA k2 s2 sg2 bg2 NA2 NU2 ME2 BA2 ct2 DI2 FI2 MA2 (i : Int)).val = _
    unfold spec_SameVirtual_4_step spec_SameVirtual_f4
    skip
    refine Tr.t (by simp; omega) ?_
    exact (Tr.t (by first | omega | (constructor <;> omega) | (exact (hr _ (mem_getD (by omega)) _).1) | (exact (hr _ (mem_getD (by omega)) _).2)) (Tr.t (by first | omega | (constructor <;> omega) | (exact (hr _ (mem_getD (by omega)) _).1) | (exact (hr _ (mem_getD (by omega)) _).2)) (Tr.bf rfl (Tr.t (by first | (exact (hr _ (mem_getD (by omega)) _).1) | (exact (hr _ (mem_getD (by omega)) _).2) | (first | (apply spec_SameSelection_cc <;> assumption) | (first | (apply is_true; and_intros <;> (first | rfl | assumption | (apply laws_szStringS_cc <;> assumption) | (apply laws_szMember_cc <;> assumption) | (apply laws_szMemberS_cc <;> assumption) | (apply laws_szTypeS_cc <;> assumption) | (apply laws_szPoint_cc <;> assumption) | (apply laws_szPointS_cc <;> assumption) | (apply laws_szSelection_cc <;> assumption) | (apply laws_szMapping_cc <;> assumption) | (apply laws_szMappingS_cc <;> assumption) | (apply laws_szVirtual_cc <;> assumption) | (apply spec_SameSelection_cc <;> assumption) | (first | (apply is_true; and_intros <;> (first | rfl | assumption | (apply laws_szStringS_cc <;> assumption) | (apply laws_szMember_cc <;> assumption) | (apply laws_szMemberS_cc <;> assumption) | (apply laws_szTypeS_cc <;> assumption) | (apply laws_szPoint_cc <;> assumption) | (apply laws_szPointS_cc <;> assumption) | (apply laws_szSelection_cc <;> assumption) | (apply laws_szMapping_cc <;> assumption) | (apply laws_szMappingS_cc <;> assumption) | (apply laws_szVirtual_cc <;> assumption) | (apply spec_SameSelection_cc <;> assumption))) | (apply laws_szStringS_cc <;> assumption) | (apply laws_szMember_cc <;> assumption) | (apply laws_szMemberS_cc <;> assumption) | (apply laws_szTypeS_cc <;> assumption) | (apply laws_szPoint_cc <;> assumption) | (apply laws_szPointS_cc <;> assumption) | (apply laws_szSelection_cc <;> assumption) | (apply laws_szMapping_cc <;> assumption) | (apply laws_szMappingS_cc <;> assumption) | (apply laws_szVirtual_cc <;> assumption) | (apply spec_SameSelection_cc <;> assumption)))) | (apply laws_szStringS_cc <;> assumption) | (apply laws_szMember_cc <;> assumption) | (apply laws_szMemberS_cc <;> assumption) | (apply laws_szTypeS_cc <;> assumption) | (apply laws_szPoint_cc <;> assumption) | (apply laws_szPointS_cc <;> assumption) | (apply laws_szSelection_cc <;> assumption) | (apply laws_szMapping_cc <;> assumption) | (apply laws_szMappingS_cc <;> assumption) | (apply laws_szVirtual_cc <;> assumption) | (apply spec_SameSelection_cc <;> assumption)))) (Tr.bf rfl (Tr.t (by first | (exact (hr _ (mem_getD (by omega)) _).1) | (exact (hr _ (mem_getD (by omega)) _).2) | (first | (apply spec_SameSelection_cc <;> assumption) | (first | (apply is_true; and_intros <;> (first | rfl | assumption | (apply laws_szStringS_cc <;> assumption) | (apply laws_szMember_cc <;> assumption) | (apply laws_szMemberS_cc <;> assumption) | (apply laws_szTypeS_cc <;> assumption) | (apply laws_szPoint_cc <;> assumption) | (apply laws_szPointS_cc <;> assumption) | (apply laws_szSelection_cc <;> assumption) | (apply laws_szMapping_cc <;> assumption) | (apply laws_szMappingS_cc <;> assumption) | (apply laws_szVirtual_cc <;> assumption) | (apply spec_SameSelection_cc <;> assumption) | (first | (apply is_true; and_intros <;> (first | rfl | assumption | (apply laws_szStringS_cc <;> assumption) | (apply laws_szMember_cc <;> assumption) | (apply laws_szMemberS_cc <;> assumption) | (apply laws_szTypeS_cc <;> assumption) | (apply laws_szPoint_cc <;> assumption) | (apply laws_szPointS_cc <;> assumption) | (apply laws_szSelection_cc <;> assumption) | (apply laws_szMapping_cc <;> assumption) | (apply laws_szMappingS_cc <;> assumption) | (apply laws_szVirtual_cc <;> assumption) | (apply spec_SameSelection_cc <;> assumption))) | (apply laws_szStringS_cc <;> assumption) | (apply laws_szMember_cc <;> assumption) | (apply laws_szMemberS_cc <;> assumption) | (apply laws_szTypeS_cc <;> assumption) | (apply laws_szPoint_cc <;> assumption) | (apply laws_szPointS_cc <;> assumption) | (apply laws_szSelection_cc <;> assumption) | (apply laws_szMapping_cc <;> assumption) | (apply laws_szMappingS_cc <;> assumption) | (apply laws_szVirtual_cc <;> assumption) | (apply spec_SameSelection_cc <;> assumption)))) | (apply laws_szStringS_cc <;> assumption) | (apply laws_szMember_cc <;> assumption) | (apply laws_szMemberS_cc <;> assumption) | (apply laws_szTypeS_cc <;> assumption) | (apply laws_szPoint_cc <;> assumption) | (apply laws_szPointS_cc <;> assumption) | (apply laws_szSelection_cc <;> assumption) | (apply laws_szMapping_cc <;> assumption) | (apply laws_szMappingS_cc <;> assumption) | (apply laws_szVirtual_cc <;> assumption) | (apply spec_SameSelection_cc <;> assumption)))) (Tr.bf rfl (by rw [Tr.val_ok, wrap64 (i := (i : Int) + 1) (by omega) (by omega)]; rfl))))))))
  · show (spec_SameVirtual_4_step k s sg bg NA NU ME BA ct DI FI MA k2 s2 sg2 bg2 NA2 NU2 ME2 BA2 ct2 DI2 FI2 MA2 (MA.length : Int)).val = _
    refine Tr.n (by first | (simp; done) | (simp; omega) | omega) ?_
    rfl
theorem spec_SameVirtual_is4 : LoopIs tab FT D30 live 33 spec_SameVirtual_lo 0 4 := by
  refine loop_told (sl := spec_SameVirtual_4_sl) (step := spec_SameVirtual_4_st) (out := spec_SameVirtual_4_out) (lor := spec_SameVirtual_lo4) (fin := fun x => (spec_SameVirtual_4_fin (x.1) (x.2.1) (x.2.2.1) (x.2.2.2.1) (x.2.2.2.2.1) (x.2.2.2.2.2.1) (x.2.2.2.2.2.2.1) (x.2.2.2.2.2.2.2.1) (x.2.2.2.2.2.2.2.2.1) (x.2.2.2.2.2.2.2.2.2.1) (x.2.2.2.2.2.2.2.2.2.2.1) (x.2.2.2.2.2.2.2.2.2.2.2.1) (x.2.2.2.2.2.2.2.2.2.2.2.2.1) (x.2.2.2.2.2.2.2.2.2.2.2.2.2.1) (x.2.2.2.2.2.2.2.2.2.2.2.2.2.2.1) (x.2.2.2.2.2.2.2.2.2.2.2.2.2.2.2.1) (x.2.2.2.2.2.2.2.2.2.2.2.2.2.2.2.2.1) (x.2.2.2.2.2.2.2.2.2.2.2.2.2.2.2.2.2.1) (x.2.2.2.2.2.2.2.2.2.2.2.2.2.2.2.2.2.2.1) (x.2.2.2.2.2.2.2.2.2.2.2.2.2.2.2.2.2.2.2.1) (x.2.2.2.2.2.2.2.2.2.2.2.2.2.2.2.2.2.2.2.2.1) (x.2.2.2.2.2.2.2.2.2.2.2.2.2.2.2.2.2.2.2.2.2.1) (x.2.2.2.2.2.2.2.2.2.2.2.2.2.2.2.2.2.2.2.2.2.2.1) (x.2.2.2.2.2.2.2.2.2.2.2.2.2.2.2.2.2.2.2.2.2.2.2.1) (x.2.2.2.2.2.2.2.2.2.2.2.2.2.2.2.2.2.2.2.2.2.2.2.2))) (fun _ => rfl) ?_ (fun x n => spec_SameVirtual_4_r x.1 x.2.1 x.2.2.1 x.2.2.2.1 x.2.2.2.2.1 x.2.2.2.2.2.1 x.2.2.2.2.2.2.1 x.2.2.2.2.2.2.2.1 x.2.2.2.2.2.2.2.2.1 x.2.2.2.2.2.2.2.2.2.1 x.2.2.2.2.2.2.2.2.2.2.1 x.2.2.2.2.2.2.2.2.2.2.2.1 x.2.2.2.2.2.2.2.2.2.2.2.2.1 x.2.2.2.2.2.2.2.2.2.2.2.2.2.1 x.2.2.2.2.2.2.2.2.2.2.2.2.2.2.1 x.2.2.2.2.2.2.2.2.2.2.2.2.2.2.2.1 x.2.2.2.2.2.2.2.2.2.2.2.2.2.2.2.2.1 x.2.2.2.2.2.2.2.2.2.2.2.2.2.2.2.2.2.1 x.2.2.2.2.2.2.2.2.2.2.2.2.2.2.2.2.2.2.1 x.2.2.2.2.2.2.2.2.2.2.2.2.2.2.2.2.2.2.2.1 x.2.2.2.2.2.2.2.2.2.2.2.2.2.2.2.2.2.2.2.2.1 x.2.2.2.2.2.2.2.2.2.2.2.2.2.2.2.2.2.2.2.2.2.1 x.2.2.2.2.2.2.2.2.2.2.2.2.2.2.2.2.2.2.2.2.2.2.1 x.2.2.2.2.2.2.2.2.2.2.2.2.2.2.2.2.2.2.2.2.2.2.2.1 x.2.2.2.2.2.2.2.2.2.2.2.2.2.2.2.2.2.2.2.2.2.2.2.2 n) (fun x ow => spec_SameVirtual_4_h x.1 x.2.1 x.2.2.1 x.2.2.2.1 x.2.2.2.2.1 x.2.2.2.2.2.1 x.2.2.2.2.2.2.1 x.2.2.2.2.2.2.2.1 x.2.2.2.2.2.2.2.2.1 x.2.2.2.2.2.2.2.2.2.1 x.2.2.2.2.2.2.2.2.2.2.1 x.2.2.2.2.2.2.2.2.2.2.2.1 x.2.2.2.2.2.2.2.2.2.2.2.2.1 x.2.2.2.2.2.2.2.2.2.2.2.2.2.1 x.2.2.2.2.2.2.2.2.2.2.2.2.2.2.1 x.2.2.2.2.2.2.2.2.2.2.2.2.2.2.2.1 x.2.2.2.2.2.2.2.2.2.2.2.2.2.2.2.2.1 x.2.2.2.2.2.2.2.2.2.2.2.2.2.2.2.2.2.1 x.2.2.2.2.2.2.2.2.2.2.2.2.2.2.2.2.2.2.1 x.2.2.2.2.2.2.2.2.2.2.2.2.2.2.2.2.2.2.2.1 x.2.2.2.2.2.2.2.2.2.2.2.2.2.2.2.2.2.2.2.2.1 x.2.2.2.2.2.2.2.2.2.2.2.2.2.2.2.2.2.2.2.2.2.1 x.2.2.2.2.2.2.2.2.2.2.2.2.2.2.2.2.2.2.2.2.2.2.1 x.2.2.2.2.2.2.2.2.2.2.2.2.2.2.2.2.2.2.2.2.2.2.2.1 x.2.2.2.2.2.2.2.2.2.2.2.2.2.2.2.2.2.2.2.2.2.2.2.2 ow)
  intro s t h
  unfold spec_SameVirtual_lo4 at h
  split at h
  · cases h; exact ⟨(_, _, _, _, _, _, _, _, _, _, _, _, _, _, _, _, _, _, _, _, _, _, _, _, _), rfl, rfl⟩
  · cases h
noncomputable def spec_SameVirtual_t (k : Int) (s : Int) (sg : Bool) (bg : Bool) (NA : List (List TC)) (NU : List (List TC)) (ME : List (List TC)) (BA : List (List TC)) (ct : Int) (DI : List (List TC)) (FI : List UInt8) (MA : List (List TC)) (k2 : Int) (s2 : Int) (sg2 : Bool) (bg2 : Bool) (NA2 : List (List TC)) (NU2 : List (List TC)) (ME2 : List (List TC)) (BA2 : List (List TC)) (ct2 : Int) (DI2 : List (List TC)) (FI2 : List UInt8) (MA2 : List (List TC)) : Tr (Bool) := (.ite ((spec_SameType_rc k s sg bg NA NU ME BA ct k2 s2 sg2 bg2 NA2 NU2 ME2 BA2 ct2) = true) (.ite ((!(spec_SameType_rv k s sg bg NA NU ME BA ct k2 s2 sg2 bg2 NA2 NU2 ME2 BA2 ct2)) = true) (.ok false)
   (.ite ((spec_l00Same_c DI DI2) = true) (.ite ((!(spec_l00Same_v DI DI2)) = true) (.ok false)
     (.ite ((!(FI == FI2)) = true) (.ok false)
      (.ite ((!((MA.length : Int) == (MA2.length : Int))) = true) (.ok false)
       (.ite ((spec_SameVirtual_k4_1 k s sg bg NA NU ME BA ct DI FI MA k2 s2 sg2 bg2 NA2 NU2 ME2 BA2 ct2 DI2 FI2 MA2 (0 : Int)) = true) (.ite ((spec_SameVirtual_o4_2 k s sg bg NA NU ME BA ct DI FI MA k2 s2 sg2 bg2 NA2 NU2 ME2 BA2 ct2 DI2 FI2 MA2 (0 : Int)) = true) (.ok false)
         .no)
        (.ite ((spec_SameVirtual_o4_3 k s sg bg NA NU ME BA ct DI FI MA k2 s2 sg2 bg2 NA2 NU2 ME2 BA2 ct2 DI2 FI2 MA2 (0 : Int)) = true) (.ok true)
         .no)))))
    .no))
  .no)
def spec_SameVirtual_mk (p : Bool) : Res := [(false, [⟨.bool, .sh, TC.b p⟩])]
noncomputable def spec_SameVirtual_c (k : Int) (s : Int) (sg : Bool) (bg : Bool) (NA : List (List TC)) (NU : List (List TC)) (ME : List (List TC)) (BA : List (List TC)) (ct : Int) (DI : List (List TC)) (FI : List UInt8) (MA : List (List TC)) (k2 : Int) (s2 : Int) (sg2 : Bool) (bg2 : Bool) (NA2 : List (List TC)) (NU2 : List (List TC)) (ME2 : List (List TC)) (BA2 : List (List TC)) (ct2 : Int) (DI2 : List (List TC)) (FI2 : List UInt8) (MA2 : List (List TC)) : Bool := ((spec_SameType_rc k s sg bg NA NU ME BA ct k2 s2 sg2 bg2 NA2 NU2 ME2 BA2 ct2) && (bif (!(spec_SameType_rv k s sg bg NA NU ME BA ct k2 s2 sg2 bg2 NA2 NU2 ME2 BA2 ct2)) then true else ((spec_l00Same_c DI DI2) && (bif (!(spec_l00Same_v DI DI2)) then true else (bif (!(FI == FI2)) then true else (bif (!((MA.length : Int) == (MA2.length : Int))) then true else (bif (spec_SameVirtual_k4_1 k s sg bg NA NU ME BA ct DI FI MA k2 s2 sg2 bg2 NA2 NU2 ME2 BA2 ct2 DI2 FI2 MA2 (0 : Int)) then ((spec_SameVirtual_o4_2 k s sg bg NA NU ME BA ct DI FI MA k2 s2 sg2 bg2 NA2 NU2 ME2 BA2 ct2 DI2 FI2 MA2 (0 : Int)) && true) else ((spec_SameVirtual_o4_3 k s sg bg NA NU ME BA ct DI FI MA k2 s2 sg2 bg2 NA2 NU2 ME2 BA2 ct2 DI2 FI2 MA2 (0 : Int)) && true))))))))
noncomputable def spec_SameVirtual_v (k : Int) (s : Int) (sg : Bool) (bg : Bool) (NA : List (List TC)) (NU : List (List TC)) (ME : List (List TC)) (BA : List (List TC)) (ct : Int) (DI : List (List TC)) (FI : List UInt8) (MA : List (List TC)) (k2 : Int) (s2 : Int) (sg2 : Bool) (bg2 : Bool) (NA2 : List (List TC)) (NU2 : List (List TC)) (ME2 : List (List TC)) (BA2 : List (List TC)) (ct2 : Int) (DI2 : List (List TC)) (FI2 : List UInt8) (MA2 : List (List TC)) : Bool := (bif (!(spec_SameType_rv k s sg bg NA NU ME BA ct k2 s2 sg2 bg2 NA2 NU2 ME2 BA2 ct2)) then false else (bif (!(spec_l00Same_v DI DI2)) then false else (bif (!(FI == FI2)) then false else (bif (!((MA.length : Int) == (MA2.length : Int))) then false else (bif (spec_SameVirtual_k4_1 k s sg bg NA NU ME BA ct DI FI MA k2 s2 sg2 bg2 NA2 NU2 ME2 BA2 ct2 DI2 FI2 MA2 (0 : Int)) then false else true)))))
theorem spec_SameVirtual_l (k : Int) (s : Int) (sg : Bool) (bg : Bool) (NA : List (List TC)) (NU : List (List TC)) (ME : List (List TC)) (BA : List (List TC)) (ct : Int) (DI : List (List TC)) (FI : List UInt8) (MA : List (List TC)) (k2 : Int) (s2 : Int) (sg2 : Bool) (bg2 : Bool) (NA2 : List (List TC)) (NU2 : List (List TC)) (ME2 : List (List TC)) (BA2 : List (List TC)) (ct2 : Int) (DI2 : List (List TC)) (FI2 : List UInt8) (MA2 : List (List TC)) : (spec_SameVirtual_c k s sg bg NA NU ME BA ct DI FI MA k2 s2 sg2 bg2 NA2 NU2 ME2 BA2 ct2 DI2 FI2 MA2) = true → (spec_SameVirtual_t k s sg bg NA NU ME BA ct DI FI MA k2 s2 sg2 bg2 NA2 NU2 ME2 BA2 ct2 DI2 FI2 MA2).val = some (spec_SameVirtual_v k s sg bg NA NU ME BA ct DI FI MA k2 s2 sg2 bg2 NA2 NU2 ME2 BA2 ct2 DI2 FI2 MA2) := by
  unfold spec_SameVirtual_t spec_SameVirtual_v spec_SameVirtual_c
  exact fun h => (Tr.gb h fun h => (Tr.ss h (fun h => rfl) (fun h => (Tr.gb h fun h => (Tr.ss h (fun h => rfl) (fun h => (Tr.ss h (fun h => rfl) (fun h => (Tr.ss h (fun h => rfl) (fun h => (Tr.ss h (fun h => (Tr.gb h fun h => rfl)) (fun h => (Tr.gb h fun h => rfl)))))))))))))
noncomputable def spec_SameVirtual_S : List Arg → Option (Bool × Res) := fun xs => match xs with
  | [(true, [(.int .i64, TC.i k), (.int .i64, TC.i s), (.bool, TC.b sg), (.bool, TC.b bg), (.slice 9, TC.l NA), (.slice 2, TC.l NU), (.slice 147, TC.l ME), (.slice 55, TC.l BA), (.int .i64, TC.i ct), (.slice 2, TC.l DI), (.str, TC.s FI), (.slice 128, TC.l MA)]), (true, [(.int .i64, TC.i k2), (.int .i64, TC.i s2), (.bool, TC.b sg2), (.bool, TC.b bg2), (.slice 9, TC.l NA2), (.slice 2, TC.l NU2), (.slice 147, TC.l ME2), (.slice 55, TC.l BA2), (.int .i64, TC.i ct2), (.slice 2, TC.l DI2), (.str, TC.s FI2), (.slice 128, TC.l MA2)])] => some ((spec_SameVirtual_c k s sg bg NA NU ME BA ct DI FI MA k2 s2 sg2 bg2 NA2 NU2 ME2 BA2 ct2 DI2 FI2 MA2), spec_SameVirtual_mk (spec_SameVirtual_v k s sg bg NA NU ME BA ct DI FI MA k2 s2 sg2 bg2 NA2 NU2 ME2 BA2 ct2 DI2 FI2 MA2))
  | _ => .none
theorem spec_SameVirtual_e (k : Int) (s : Int) (sg : Bool) (bg : Bool) (NA : List (List TC)) (NU : List (List TC)) (ME : List (List TC)) (BA : List (List TC)) (ct : Int) (DI : List (List TC)) (FI : List UInt8) (MA : List (List TC)) (k2 : Int) (s2 : Int) (sg2 : Bool) (bg2 : Bool) (NA2 : List (List TC)) (NU2 : List (List TC)) (ME2 : List (List TC)) (BA2 : List (List TC)) (ct2 : Int) (DI2 : List (List TC)) (FI2 : List UInt8) (MA2 : List (List TC)) : runF tab FT D30 live 33 spec_SameVirtual_lo [(true, [(.int .i64, TC.i k), (.int .i64, TC.i s), (.bool, TC.b sg), (.bool, TC.b bg), (.slice 9, TC.l NA), (.slice 2, TC.l NU), (.slice 147, TC.l ME), (.slice 55, TC.l BA), (.int .i64, TC.i ct), (.slice 2, TC.l DI), (.str, TC.s FI), (.slice 128, TC.l MA)]), (true, [(.int .i64, TC.i k2), (.int .i64, TC.i s2), (.bool, TC.b sg2), (.bool, TC.b bg2), (.slice 9, TC.l NA2), (.slice 2, TC.l NU2), (.slice 147, TC.l ME2), (.slice 55, TC.l BA2), (.int .i64, TC.i ct2), (.slice 2, TC.l DI2), (.str, TC.s FI2), (.slice 128, TC.l MA2)])] = (spec_SameVirtual_t k s sg bg NA NU ME BA ct DI FI MA k2 s2 sg2 bg2 NA2 NU2 ME2 BA2 ct2 DI2 FI2 MA2).run fun p => some (spec_SameVirtual_mk p) := by kernel_rfl
theorem spec_SameVirtual_s : ∀ xs r, spec_SameVirtual_S xs = some (true, r) → runF tab FT D30 live 33 spec_SameVirtual_lo xs = some r := by
  intro xs r h
  unfold spec_SameVirtual_S at h
  split at h
  · simp only [Option.some.injEq, Prod.mk.injEq] at h
    obtain ⟨h1, rfl⟩ := h
    exact fun_told (spec_SameVirtual_e _ _ _ _ _ _ _ _ _ _ _ _ _ _ _ _ _ _ _ _ _ _ _ _) (spec_SameVirtual_l _ _ _ _ _ _ _ _ _ _ _ _ _ _ _ _ _ _ _ _ _ _ _ _) h1
  · cases h
noncomputable def D31 : Dt := also D30 33 spec_SameVirtual_S
theorem d31 : DOk Go.Proofs.Try.prog tab D31 := d30.also mixed_ok tab_ok names_ok (fnLoops_one (by kernel_rfl) spec_SameVirtual_is4) spec_SameVirtual_s
theorem form_128 {A : List (List TC)} (h : Typed tab (.slice 128) (.l A)) {x : List TC} (hx : x ∈ A) : x = [TC.s (nth x 0).str, TC.i (nth x 1).int, TC.l (nth x 2).list, TC.l (nth x 3).list, TC.l (nth x 4).list, TC.l (nth x 5).list, TC.l (nth x 6).list, TC.i (nth x 7).int, TC.l (nth x 8).list, TC.l (nth x 9).list, TC.l (nth x 10).list, TC.l (nth x 11).list, TC.l (nth x 12).list] := by
  obtain ⟨hl, hk⟩ := typed_elem h hx
  have e0 : TC.s (nth x 0).str = nth x 0 := typed_str_eq (hk 0 (by decide))
  have e1 : TC.i (nth x 1).int = nth x 1 := typed_int_eq (hk 1 (by decide))
  have e2 : TC.l (nth x 2).list = nth x 2 := typed_list_eq (hk 2 (by decide))
  have e3 : TC.l (nth x 3).list = nth x 3 := typed_list_eq (hk 3 (by decide))
  have e4 : TC.l (nth x 4).list = nth x 4 := typed_list_eq (hk 4 (by decide))
  have e5 : TC.l (nth x 5).list = nth x 5 := typed_list_eq (hk 5 (by decide))
  have e6 : TC.l (nth x 6).list = nth x 6 := typed_list_eq (hk 6 (by decide))
  have e7 : TC.i (nth x 7).int = nth x 7 := typed_int_eq (hk 7 (by decide))
  have e8 : TC.l (nth x 8).list = nth x 8 := typed_list_eq (hk 8 (by decide))
  have e9 : TC.l (nth x 9).list = nth x 9 := typed_list_eq (hk 9 (by decide))
  have e10 : TC.l (nth x 10).list = nth x 10 := typed_list_eq (hk 10 (by decide))
  have e11 : TC.l (nth x 11).list = nth x 11 := typed_list_eq (hk 11 (by decide))
  have e12 : TC.l (nth x 12).list = nth x 12 := typed_list_eq (hk 12 (by decide))
  rw [e0, e1, e2, e3, e4, e5, e6, e7, e8, e9, e10, e11, e12]
  exact row_eta hl
theorem spec_SameVirtual_cc {k s : Int} {sg bg : Bool} {NA NU ME BA : List (List TC)} {ct : Int} {DI : List (List TC)} {FI : List UInt8} {MA : List (List TC)} {k2 s2 : Int} {sg2 bg2 : Bool} {NA2 NU2 ME2 BA2 : List (List TC)} {ct2 : Int} {DI2 : List (List TC)} {FI2 : List UInt8} {MA2 : List (List TC)} (ss : spec_SameType_rc k s sg bg NA NU ME BA ct k2 s2 sg2 bg2 NA2 NU2 ME2 BA2 ct2 = true) (tD : Typed tab (.slice 2) (.l DI)) (tM : Typed tab (.slice 128) (.l MA)) : spec_SameVirtual_c k s sg bg NA NU ME BA ct DI FI MA k2 s2 sg2 bg2 NA2 NU2 ME2 BA2 ct2 DI2 FI2 MA2 = true := by
  have c1 : spec_l00Same_c DI DI2 = true := is_true tD
  have hr : (∀ x : List TC, x ∈ MA → ∀ y : List TC, spec_SameSelection_c (nth x 1).int (nth x 2).list (nth x 3).list (nth x 4).list (nth x 5).list (nth x 6).list (nth y 1).int (nth y 2).list (nth y 3).list (nth y 4).list (nth y 5).list (nth y 6).list = true ∧ spec_SameSelection_c (nth x 7).int (nth x 8).list (nth x 9).list (nth x 10).list (nth x 11).list (nth x 12).list (nth y 7).int (nth y 8).list (nth y 9).list (nth y 10).list (nth y 11).list (nth y 12).list = true) := fun x hx y => ⟨spec_SameSelection_cc (typed_list ((typed_elem tM hx).2 2 (by decide))) (typed_list ((typed_elem tM hx).2 3 (by decide))) (typed_list ((typed_elem tM hx).2 4 (by decide))) (typed_list ((typed_elem tM hx).2 5 (by decide))) (typed_list ((typed_elem tM hx).2 6 (by decide))), spec_SameSelection_cc (typed_list ((typed_elem tM hx).2 8 (by decide))) (typed_list ((typed_elem tM hx).2 9 (by decide))) (typed_list ((typed_elem tM hx).2 10 (by decide))) (typed_list ((typed_elem tM hx).2 11 (by decide))) (typed_list ((typed_elem tM hx).2 12 (by decide)))⟩
  have w : MA.length ≤ 140737488355328 := by have := typed_room tM; simp only [show (tab 128).bytes = 272 from rfl] at this; omega
  unfold spec_SameVirtual_c
  rw [ss, c1]
  by_cases l : MA.length = MA2.length
  · have o : spec_SameVirtual_o4_2 k s sg bg NA NU ME BA ct DI FI MA k2 s2 sg2 bg2 NA2 NU2 ME2 BA2 ct2 DI2 FI2 MA2 0 = true ∧ spec_SameVirtual_o4_3 k s sg bg NA NU ME BA ct DI FI MA k2 s2 sg2 bg2 NA2 NU2 ME2 BA2 ct2 DI2 FI2 MA2 0 = true := ⟨is_true ⟨rfl, l, w, hr⟩, is_true ⟨rfl, l, w, hr⟩⟩
    simp only [o.1, o.2, Bool.true_and, Bool.and_true, bif_same]
  · have e : ((MA.length : Int) == (MA2.length : Int)) = false := by simp; omega
    simp only [e, Bool.not_false, cond_true, Bool.true_and, bif_same]
theorem spec_SameVirtual_q {k s : Int} {sg bg : Bool} {NA NU ME BA : List (List TC)} {ct : Int} {DI : List (List TC)} {FI : List UInt8} {MA : List (List TC)} {k2 s2 : Int} {sg2 bg2 : Bool} {NA2 NU2 ME2 BA2 : List (List TC)} {ct2 : Int} {DI2 : List (List TC)} {FI2 : List UInt8} {MA2 : List (List TC)} (tD : Typed tab (.slice 2) (.l DI)) (tD2 : Typed tab (.slice 2) (.l DI2)) (tM : Typed tab (.slice 128) (.l MA)) (tM2 : Typed tab (.slice 128) (.l MA2)) : spec_SameVirtual_v k s sg bg NA NU ME BA ct DI FI MA k2 s2 sg2 bg2 NA2 NU2 ME2 BA2 ct2 DI2 FI2 MA2 = (sameV k s sg bg NA NU ME BA ct k2 s2 sg2 bg2 NA2 NU2 ME2 BA2 ct2 && (eqL DI DI2 && ((FI == FI2) && eqL MA MA2))) := by
  unfold spec_SameVirtual_v
  rw [show spec_SameType_rv k s sg bg NA NU ME BA ct k2 s2 sg2 bg2 NA2 NU2 ME2 BA2 ct2 = sameV k s sg bg NA NU ME BA ct k2 s2 sg2 bg2 NA2 NU2 ME2 BA2 ct2 from rfl, show spec_l00Same_v DI DI2 = eqL DI DI2 from l00_eqL tD tD2]
  by_cases l : MA.length = MA2.length
  · have v : allI (fun i : Nat => ((nth (row MA (i : Int)) 0).str == (nth (row MA2 (i : Int)) 0).str) && (spec_SameSelection_v (nth (row MA (i : Int)) 1).int (nth (row MA (i : Int)) 2).list (nth (row MA (i : Int)) 3).list (nth (row MA (i : Int)) 4).list (nth (row MA (i : Int)) 5).list (nth (row MA (i : Int)) 6).list (nth (row MA2 (i : Int)) 1).int (nth (row MA2 (i : Int)) 2).list (nth (row MA2 (i : Int)) 3).list (nth (row MA2 (i : Int)) 4).list (nth (row MA2 (i : Int)) 5).list (nth (row MA2 (i : Int)) 6).list && spec_SameSelection_v (nth (row MA (i : Int)) 7).int (nth (row MA (i : Int)) 8).list (nth (row MA (i : Int)) 9).list (nth (row MA (i : Int)) 10).list (nth (row MA (i : Int)) 11).list (nth (row MA (i : Int)) 12).list (nth (row MA2 (i : Int)) 7).int (nth (row MA2 (i : Int)) 8).list (nth (row MA2 (i : Int)) 9).list (nth (row MA2 (i : Int)) 10).list (nth (row MA2 (i : Int)) 11).list (nth (row MA2 (i : Int)) 12).list)) MA.length = eqL MA MA2 := (allI_allEq (E := fun x y => ((nth x 0).str == (nth y 0).str) && (spec_SameSelection_v (nth x 1).int (nth x 2).list (nth x 3).list (nth x 4).list (nth x 5).list (nth x 6).list (nth y 1).int (nth y 2).list (nth y 3).list (nth y 4).list (nth y 5).list (nth y 6).list && spec_SameSelection_v (nth x 7).int (nth x 8).list (nth x 9).list (nth x 10).list (nth x 11).list (nth x 12).list (nth y 7).int (nth y 8).list (nth y 9).list (nth y 10).list (nth y 11).list (nth y 12).list)) l).trans (allEq_eqL (fun x y hx hy => by
    constructor
    · intro h
      have hh : (nth x 0).str = (nth y 0).str ∧ (nth x 1).int = (nth y 1).int ∧ (nth x 2).list = (nth y 2).list ∧ (nth x 3).list = (nth y 3).list ∧ (nth x 4).list = (nth y 4).list ∧ (nth x 5).list = (nth y 5).list ∧ (nth x 6).list = (nth y 6).list ∧ (nth x 7).int = (nth y 7).int ∧ (nth x 8).list = (nth y 8).list ∧ (nth x 9).list = (nth y 9).list ∧ (nth x 10).list = (nth y 10).list ∧ (nth x 11).list = (nth y 11).list ∧ (nth x 12).list = (nth y 12).list := by
        simp only [Bool.and_eq_true] at h
        obtain ⟨p, h1, h2⟩ := h
        rw [spec_SameSelection_q (typed_list ((typed_elem tM hx).2 2 (by decide))) (typed_list ((typed_elem tM hx).2 3 (by decide))) (typed_list ((typed_elem tM hx).2 4 (by decide))) (typed_list ((typed_elem tM hx).2 5 (by decide))) (typed_list ((typed_elem tM hx).2 6 (by decide))) (typed_list ((typed_elem tM2 hy).2 2 (by decide))) (typed_list ((typed_elem tM2 hy).2 3 (by decide))) (typed_list ((typed_elem tM2 hy).2 4 (by decide))) (typed_list ((typed_elem tM2 hy).2 5 (by decide))) (typed_list ((typed_elem tM2 hy).2 6 (by decide)))] at h1
        rw [spec_SameSelection_q (typed_list ((typed_elem tM hx).2 8 (by decide))) (typed_list ((typed_elem tM hx).2 9 (by decide))) (typed_list ((typed_elem tM hx).2 10 (by decide))) (typed_list ((typed_elem tM hx).2 11 (by decide))) (typed_list ((typed_elem tM hx).2 12 (by decide))) (typed_list ((typed_elem tM2 hy).2 8 (by decide))) (typed_list ((typed_elem tM2 hy).2 9 (by decide))) (typed_list ((typed_elem tM2 hy).2 10 (by decide))) (typed_list ((typed_elem tM2 hy).2 11 (by decide))) (typed_list ((typed_elem tM2 hy).2 12 (by decide)))] at h2
        simp only [selV, Bool.and_eq_true, beq_iff_eq, eqL_iff] at p h1 h2
        exact ⟨p, h1.1, h1.2.1, h1.2.2.1, h1.2.2.2.1, h1.2.2.2.2.1, h1.2.2.2.2.2, h2.1, h2.2.1, h2.2.2.1, h2.2.2.2.1, h2.2.2.2.2.1, h2.2.2.2.2.2⟩
      obtain ⟨e0, e1, e2, e3, e4, e5, e6, e7, e8, e9, e10, e11, e12⟩ := hh
      have hx' := form_128 tM hx
      have hy' := form_128 tM2 hy
      rw [hx', hy', e0, e1, e2, e3, e4, e5, e6, e7, e8, e9, e10, e11, e12]
    · rintro rfl
      rw [spec_SameSelection_q (typed_list ((typed_elem tM hx).2 2 (by decide))) (typed_list ((typed_elem tM hx).2 3 (by decide))) (typed_list ((typed_elem tM hx).2 4 (by decide))) (typed_list ((typed_elem tM hx).2 5 (by decide))) (typed_list ((typed_elem tM hx).2 6 (by decide))) (typed_list ((typed_elem tM2 hy).2 2 (by decide))) (typed_list ((typed_elem tM2 hy).2 3 (by decide))) (typed_list ((typed_elem tM2 hy).2 4 (by decide))) (typed_list ((typed_elem tM2 hy).2 5 (by decide))) (typed_list ((typed_elem tM2 hy).2 6 (by decide))), spec_SameSelection_q (typed_list ((typed_elem tM hx).2 8 (by decide))) (typed_list ((typed_elem tM hx).2 9 (by decide))) (typed_list ((typed_elem tM hx).2 10 (by decide))) (typed_list ((typed_elem tM hx).2 11 (by decide))) (typed_list ((typed_elem tM hx).2 12 (by decide))) (typed_list ((typed_elem tM2 hy).2 8 (by decide))) (typed_list ((typed_elem tM2 hy).2 9 (by decide))) (typed_list ((typed_elem tM2 hy).2 10 (by decide))) (typed_list ((typed_elem tM2 hy).2 11 (by decide))) (typed_list ((typed_elem tM2 hy).2 12 (by decide)))]
      simp [selV, eqL_refl]))
    have k0 : spec_SameVirtual_k4_1 k s sg bg NA NU ME BA ct DI FI MA k2 s2 sg2 bg2 NA2 NU2 ME2 BA2 ct2 DI2 FI2 MA2 0 = !(eqL MA MA2) := by
      unfold spec_SameVirtual_k4_1
      rw [spec_SameVirtual_R4_eq, v]
      cases eqL MA MA2 <;> rfl
    rw [k0, show ((MA.length : Int) == (MA2.length : Int)) = true from by simp [l]]
    simp only [bif_nf, bif_tf, Bool.not_not, Bool.not_true, cond_false, Bool.and_true, Bool.true_and]
  · have e : ((MA.length : Int) == (MA2.length : Int)) = false := by simp; omega
    have ne : eqL MA MA2 = false := by
      cases he : eqL MA MA2 with
      | false => rfl
      | true => exact absurd (congrArg List.length (eqL_iff.1 he)) l
    simp only [e, ne, bif_nf, bif_tf, Bool.not_false, cond_true, Bool.and_false]
/-! slices_Equal_string_string -/
abbrev slices_Equal_string_string_4_σ := List (List TC) × List (List TC) × Int × Int
abbrev slices_Equal_string_string_4_ω := (Unit) ⊕ (Unit)
noncomputable def slices_Equal_string_string_4_step (A : List (List TC)) (C : List (List TC)) (m : Int) (i : Int) : Tr (slices_Equal_string_string_4_σ ⊕ slices_Equal_string_string_4_ω) := (.ite ((decide (i < m)) = true) (.ite ((0 : Int) ≤ i ∧ i < (A.length : Int)) (.ite ((0 : Int) ≤ i ∧ i < (C.length : Int)) (.ite ((!((nth (row A i) 0).str == (nth (row C i) 0).str)) = true) (.ok (.inr (.inl ())))
     (.ok (.inl (A, C, m, (IntKind.wrap .i64 (i + (1 : Int)))))))
    .no)
   .no)
  (.ok (.inr (.inr ()))))
noncomputable def slices_Equal_string_string_4_st : slices_Equal_string_string_4_σ → Tr (slices_Equal_string_string_4_σ ⊕ slices_Equal_string_string_4_ω) := fun x => (slices_Equal_string_string_4_step (x.1) (x.2.1) (x.2.2.1) (x.2.2.2))
noncomputable def slices_Equal_string_string_k4_1 (A : List (List TC)) (C : List (List TC)) (m : Int) (i : Int) : Bool := allEq E_9 A C
noncomputable def slices_Equal_string_string_o4_2 (A : List (List TC)) (C : List (List TC)) (m : Int) (i : Int) : Bool := is (A.length = C.length ∧ i = 0 ∧ Typed tab (.slice 9) (.l A) ∧ m = (A.length : Int))
noncomputable def slices_Equal_string_string_o4_3 (A : List (List TC)) (C : List (List TC)) (m : Int) (i : Int) : Bool := is (A.length = C.length ∧ i = 0 ∧ Typed tab (.slice 9) (.l A) ∧ m = (A.length : Int))
noncomputable def slices_Equal_string_string_4_fin (A : List (List TC)) (C : List (List TC)) (m : Int) (i : Int) : Told slices_Equal_string_string_4_ω := (.br (slices_Equal_string_string_k4_1 A C m i) (.leaf (slices_Equal_string_string_o4_2 A C m i) (.inr ())) (.leaf (slices_Equal_string_string_o4_3 A C m i) (.inl ())))
def slices_Equal_string_string_4_sl (x : slices_Equal_string_string_4_σ) : List Slot := [⟨.val false [⟨.slice 9, .sh, TC.l (x.1)⟩], ⟨0, 0⟩⟩, ⟨.val false [⟨.slice 9, .sh, TC.l (x.2.1)⟩], ⟨0, 0⟩⟩, ⟨.val false [⟨.int .i64, .sh, TC.i (x.2.2.1)⟩], ⟨0, 0⟩⟩, ⟨.val false [⟨.int .i64, .sh, TC.i (x.2.2.2)⟩], ⟨0, 0⟩⟩]
def slices_Equal_string_string_4_out : slices_Equal_string_string_4_ω → Ex × List Slot := (Sum.elim (fun x => (.ret, [⟨.val false [⟨.bool, .sh, TC.b false⟩], ⟨0, 0⟩⟩])) (fun x => (.exit 0, [Slot.none])))
noncomputable def slices_Equal_string_string_lo4 : List Slot → Option (Told (Ex × List Slot)) := fun s => match s with
  | [⟨.val false [⟨.slice 9, .sh, TC.l A⟩], ⟨0, 0⟩⟩, ⟨.val false [⟨.slice 9, .sh, TC.l C⟩], ⟨0, 0⟩⟩, ⟨.val false [⟨.int .i64, .sh, TC.i m⟩], ⟨0, 0⟩⟩, ⟨.val false [⟨.int .i64, .sh, TC.i i⟩], ⟨0, 0⟩⟩] => some (((slices_Equal_string_string_4_fin A C m i)).map slices_Equal_string_string_4_out)
  | _ => .none
noncomputable def slices_Equal_string_string_lo : LoopTeller := fun r s => bif Nat.beq r 4 then slices_Equal_string_string_lo4 s else .none
theorem slices_Equal_string_string_4_r (A : List (List TC)) (C : List (List TC)) (m : Int) (i : Int) (fuel : Nat) : rounds (rnd tab FT D31 live 102 slices_Equal_string_string_lo 0 4) leave (fuel + 1) (slices_Equal_string_string_4_sl (A, C, m, i)) = ((slices_Equal_string_string_4_step A C m i)).run (goOn (fun s => rounds (rnd tab FT D31 live 102 slices_Equal_string_string_lo 0 4) leave fuel (slices_Equal_string_string_4_sl s)) fun w => some (slices_Equal_string_string_4_out w)) := by kernel_rfl
theorem slices_Equal_string_string_4_h (A : List (List TC)) (C : List (List TC)) (m : Int) (i : Int) (ow : slices_Equal_string_string_4_ω) : ((slices_Equal_string_string_4_fin A C m i)).val = some ow → ∃ fuel, loopN slices_Equal_string_string_4_st fuel (A, C, m, i) = some ow := by
  intro h
  have key : A.length = C.length → Typed tab (.slice 9) (.l A) → loopN slices_Equal_string_string_4_st (A.length + 1) (A, C, (A.length : Int), 0) = some (if allEq E_9 A C = true then .inr () else .inl ()) := by
    intro hl ht
    have hlen : A.length ≤ 140737488351232 := by have := typed_room ht; simp only [show (tab 9).bytes = 16 from rfl] at this; omega
    refine loopN_allEq A C E_9 (fun i => (A, C, (A.length : Int), (i : Int))) _ _ hl (fun i hi => ?_) ?_ A.length 0 (by omega)
    · show (slices_Equal_string_string_4_step A C (A.length : Int) (i : Int)).val = _
      unfold slices_Equal_string_string_4_step
      refine Tr.t (by simp; omega) ?_
      refine Tr.t (by constructor <;> omega) ?_
      refine Tr.t (by constructor <;> omega) ?_
      rw [wrap64 (i := (i : Int) + 1) (by omega) (by omega)]
      rw [Tr.val_br]
      show (if (!(E_9 (A.getD i []) (C.getD i []))) = true then _ else _) = _
      cases E_9 (A.getD i []) (C.getD i []) <;> rfl
    · show (slices_Equal_string_string_4_step A C (A.length : Int) (A.length : Int)).val = _
      refine Tr.n (by simp) ?_
      rfl
  simp only [slices_Equal_string_string_4_fin, Told.val] at h
  cases hk : allEq E_9 A C with
  | true =>
    rw [if_pos (show slices_Equal_string_string_k4_1 A C m i = true from hk)] at h
    split at h
    · rename_i ho
      obtain ⟨hl, rfl, ht, rfl⟩ := is_iff.1 ho
      cases h
      refine ⟨_, (key hl ht).trans ?_⟩
      rw [hk]; rfl
    · cases h
  | false =>
    rw [if_neg (show ¬slices_Equal_string_string_k4_1 A C m i = true from by rw [show slices_Equal_string_string_k4_1 A C m i = allEq E_9 A C from rfl, hk]; simp)] at h
    split at h
    · rename_i ho
      obtain ⟨hl, rfl, ht, rfl⟩ := is_iff.1 ho
      cases h
      refine ⟨_, (key hl ht).trans ?_⟩
      rw [hk]; rfl
    · cases h
theorem slices_Equal_string_string_is4 : LoopIs tab FT D31 live 102 slices_Equal_string_string_lo 0 4 := by
  refine loop_told (sl := slices_Equal_string_string_4_sl) (step := slices_Equal_string_string_4_st) (out := slices_Equal_string_string_4_out) (lor := slices_Equal_string_string_lo4) (fin := fun x => (slices_Equal_string_string_4_fin (x.1) (x.2.1) (x.2.2.1) (x.2.2.2))) (fun _ => rfl) ?_ (fun x n => slices_Equal_string_string_4_r x.1 x.2.1 x.2.2.1 x.2.2.2 n) (fun x ow => slices_Equal_string_string_4_h x.1 x.2.1 x.2.2.1 x.2.2.2 ow)
  intro s t h
  unfold slices_Equal_string_string_lo4 at h
  split at h
  · cases h; exact ⟨(_, _, _, _), rfl, rfl⟩
  · cases h
noncomputable def slices_Equal_string_string_t (A : List (List TC)) (C : List (List TC)) : Tr (Bool) := (.ite ((!((A.length : Int) == (C.length : Int))) = true) (.ok false)
  (.ite ((slices_Equal_string_string_k4_1 A C (A.length : Int) (0 : Int)) = true) (.ite ((slices_Equal_string_string_o4_2 A C (A.length : Int) (0 : Int)) = true) (.ok true)
    .no)
   (.ite ((slices_Equal_string_string_o4_3 A C (A.length : Int) (0 : Int)) = true) (.ok false)
    .no)))
def slices_Equal_string_string_mk (p : Bool) : Res := [(false, [⟨.bool, .sh, TC.b p⟩])]
noncomputable def slices_Equal_string_string_c (A : List (List TC)) (C : List (List TC)) : Bool := is (Typed tab (.slice 9) (.l A))
noncomputable def slices_Equal_string_string_v (A : List (List TC)) (C : List (List TC)) : Bool := allEq E_9 A C
theorem slices_Equal_string_string_l (A : List (List TC)) (C : List (List TC)) : (slices_Equal_string_string_c A C) = true → (slices_Equal_string_string_t A C).val = some (slices_Equal_string_string_v A C) := by
  intro h
  have ht := is_iff.1 h
  unfold slices_Equal_string_string_t
  by_cases hl : A.length = C.length
  · refine Tr.n (by simp [hl]) ?_
    cases hk : allEq E_9 A C with
    | true =>
      refine Tr.t (show allEq E_9 A C = true from hk) ?_
      refine Tr.t (is_true ⟨hl, rfl, ht, rfl⟩) ?_
      show _ = some (allEq E_9 A C); rw [hk]; rfl
    | false =>
      refine Tr.n (show ¬allEq E_9 A C = true from by rw [hk]; simp) ?_
      refine Tr.t (is_true ⟨hl, rfl, ht, rfl⟩) ?_
      show _ = some (allEq E_9 A C); rw [hk]; rfl
  · refine Tr.t (by simp; omega) ?_
    show _ = some (allEq E_9 A C)
    rw [allEq_ne hl]
    rfl
noncomputable def slices_Equal_string_string_S : List Arg → Option (Bool × Res) := fun xs => match xs with
  | [(false, [(.slice 9, TC.l A)]), (false, [(.slice 9, TC.l C)])] => some ((slices_Equal_string_string_c A C), slices_Equal_string_string_mk (slices_Equal_string_string_v A C))
  | _ => .none
theorem slices_Equal_string_string_e (A : List (List TC)) (C : List (List TC)) : runF tab FT D31 live 102 slices_Equal_string_string_lo [(false, [(.slice 9, TC.l A)]), (false, [(.slice 9, TC.l C)])] = (slices_Equal_string_string_t A C).run fun p => some (slices_Equal_string_string_mk p) := by kernel_rfl
theorem slices_Equal_string_string_s : ∀ xs r, slices_Equal_string_string_S xs = some (true, r) → runF tab FT D31 live 102 slices_Equal_string_string_lo xs = some r := by
  intro xs r h
  unfold slices_Equal_string_string_S at h
  split at h
  · simp only [Option.some.injEq, Prod.mk.injEq] at h
    obtain ⟨h1, rfl⟩ := h
    exact fun_told (slices_Equal_string_string_e _ _) (slices_Equal_string_string_l _ _) h1
  · cases h
noncomputable def D32 : Dt := also D31 102 slices_Equal_string_string_S
theorem d32 : DOk Go.Proofs.Try.prog tab D32 := d31.also mixed_ok tab_ok names_ok (fnLoops_one (by kernel_rfl) slices_Equal_string_string_is4) slices_Equal_string_string_s
/-! slices_Equal_int64_int64 -/
abbrev slices_Equal_int64_int64_4_σ := List (List TC) × List (List TC) × Int × Int
abbrev slices_Equal_int64_int64_4_ω := (Unit) ⊕ (Unit)
noncomputable def slices_Equal_int64_int64_4_step (A : List (List TC)) (C : List (List TC)) (m : Int) (i : Int) : Tr (slices_Equal_int64_int64_4_σ ⊕ slices_Equal_int64_int64_4_ω) := (.ite ((decide (i < m)) = true) (.ite ((0 : Int) ≤ i ∧ i < (A.length : Int)) (.ite ((0 : Int) ≤ i ∧ i < (C.length : Int)) (.ite ((!((nth (row A i) 0).int == (nth (row C i) 0).int)) = true) (.ok (.inr (.inl ())))
     (.ok (.inl (A, C, m, (IntKind.wrap .i64 (i + (1 : Int)))))))
    .no)
   .no)
  (.ok (.inr (.inr ()))))
noncomputable def slices_Equal_int64_int64_4_st : slices_Equal_int64_int64_4_σ → Tr (slices_Equal_int64_int64_4_σ ⊕ slices_Equal_int64_int64_4_ω) := fun x => (slices_Equal_int64_int64_4_step (x.1) (x.2.1) (x.2.2.1) (x.2.2.2))
noncomputable def slices_Equal_int64_int64_k4_1 (A : List (List TC)) (C : List (List TC)) (m : Int) (i : Int) : Bool := allEq E_2 A C
noncomputable def slices_Equal_int64_int64_o4_2 (A : List (List TC)) (C : List (List TC)) (m : Int) (i : Int) : Bool := is (A.length = C.length ∧ i = 0 ∧ Typed tab (.slice 2) (.l A) ∧ m = (A.length : Int))
noncomputable def slices_Equal_int64_int64_o4_3 (A : List (List TC)) (C : List (List TC)) (m : Int) (i : Int) : Bool := is (A.length = C.length ∧ i = 0 ∧ Typed tab (.slice 2) (.l A) ∧ m = (A.length : Int))
noncomputable def slices_Equal_int64_int64_4_fin (A : List (List TC)) (C : List (List TC)) (m : Int) (i : Int) : Told slices_Equal_int64_int64_4_ω := (.br (slices_Equal_int64_int64_k4_1 A C m i) (.leaf (slices_Equal_int64_int64_o4_2 A C m i) (.inr ())) (.leaf (slices_Equal_int64_int64_o4_3 A C m i) (.inl ())))
def slices_Equal_int64_int64_4_sl (x : slices_Equal_int64_int64_4_σ) : List Slot := [⟨.val false [⟨.slice 2, .sh, TC.l (x.1)⟩], ⟨0, 0⟩⟩, ⟨.val false [⟨.slice 2, .sh, TC.l (x.2.1)⟩], ⟨0, 0⟩⟩, ⟨.val false [⟨.int .i64, .sh, TC.i (x.2.2.1)⟩], ⟨0, 0⟩⟩, ⟨.val false [⟨.int .i64, .sh, TC.i (x.2.2.2)⟩], ⟨0, 0⟩⟩]
def slices_Equal_int64_int64_4_out : slices_Equal_int64_int64_4_ω → Ex × List Slot := (Sum.elim (fun x => (.ret, [⟨.val false [⟨.bool, .sh, TC.b false⟩], ⟨0, 0⟩⟩])) (fun x => (.exit 0, [Slot.none])))
noncomputable def slices_Equal_int64_int64_lo4 : List Slot → Option (Told (Ex × List Slot)) := fun s => match s with
  | [⟨.val false [⟨.slice 2, .sh, TC.l A⟩], ⟨0, 0⟩⟩, ⟨.val false [⟨.slice 2, .sh, TC.l C⟩], ⟨0, 0⟩⟩, ⟨.val false [⟨.int .i64, .sh, TC.i m⟩], ⟨0, 0⟩⟩, ⟨.val false [⟨.int .i64, .sh, TC.i i⟩], ⟨0, 0⟩⟩] => some (((slices_Equal_int64_int64_4_fin A C m i)).map slices_Equal_int64_int64_4_out)
  | _ => .none
noncomputable def slices_Equal_int64_int64_lo : LoopTeller := fun r s => bif Nat.beq r 4 then slices_Equal_int64_int64_lo4 s else .none
theorem slices_Equal_int64_int64_4_r (A : List (List TC)) (C : List (List TC)) (m : Int) (i : Int) (fuel : Nat) : rounds (rnd tab FT D32 live 74 slices_Equal_int64_int64_lo 0 4) leave (fuel + 1) (slices_Equal_int64_int64_4_sl (A, C, m, i)) = ((slices_Equal_int64_int64_4_step A C m i)).run (goOn (fun s => rounds (rnd tab FT D32 live 74 slices_Equal_int64_int64_lo 0 4) leave fuel (slices_Equal_int64_int64_4_sl s)) fun w => some (slices_Equal_int64_int64_4_out w)) := by kernel_rfl
theorem slices_Equal_int64_int64_4_h (A : List (List TC)) (C : List (List TC)) (m : Int) (i : Int) (ow : slices_Equal_int64_int64_4_ω) : ((slices_Equal_int64_int64_4_fin A C m i)).val = some ow → ∃ fuel, loopN slices_Equal_int64_int64_4_st fuel (A, C, m, i) = some ow := by
  intro h
  have key : A.length = C.length → Typed tab (.slice 2) (.l A) → loopN slices_Equal_int64_int64_4_st (A.length + 1) (A, C, (A.length : Int), 0) = some (if allEq E_2 A C = true then .inr () else .inl ()) := by
    intro hl ht
    have hlen : A.length ≤ 140737488351232 := by have := typed_room ht; simp only [show (tab 2).bytes = 8 from rfl] at this; omega
    refine loopN_allEq A C E_2 (fun i => (A, C, (A.length : Int), (i : Int))) _ _ hl (fun i hi => ?_) ?_ A.length 0 (by omega)
    · show (slices_Equal_int64_int64_4_step A C (A.length : Int) (i : Int)).val = _
      unfold slices_Equal_int64_int64_4_step
      refine Tr.t (by simp; omega) ?_
      refine Tr.t (by constructor <;> omega) ?_
      refine Tr.t (by constructor <;> omega) ?_
      rw [wrap64 (i := (i : Int) + 1) (by omega) (by omega)]
      rw [Tr.val_br]
      show (if (!(E_2 (A.getD i []) (C.getD i []))) = true then _ else _) = _
      cases E_2 (A.getD i []) (C.getD i []) <;> rfl
    · show (slices_Equal_int64_int64_4_step A C (A.length : Int) (A.length : Int)).val = _
      refine Tr.n (by simp) ?_
      rfl
  simp only [slices_Equal_int64_int64_4_fin, Told.val] at h
  cases hk : allEq E_2 A C with
  | true =>
    rw [if_pos (show slices_Equal_int64_int64_k4_1 A C m i = true from hk)] at h
    split at h
    · rename_i ho
      obtain ⟨hl, rfl, ht, rfl⟩ := is_iff.1 ho
      cases h
      refine ⟨_, (key hl ht).trans ?_⟩
      rw [hk]; rfl
    · cases h
  | false =>
    rw [if_neg (show ¬slices_Equal_int64_int64_k4_1 A C m i = true from by rw [show slices_Equal_int64_int64_k4_1 A C m i = allEq E_2 A C from rfl, hk]; simp)] at h
    split at h
    · rename_i ho
      obtain ⟨hl, rfl, ht, rfl⟩ := is_iff.1 ho
      cases h
      refine ⟨_, (key hl ht).trans ?_⟩
      rw [hk]; rfl
    · cases h
theorem slices_Equal_int64_int64_is4 : LoopIs tab FT D32 live 74 slices_Equal_int64_int64_lo 0 4 := by
  refine loop_told (sl := slices_Equal_int64_int64_4_sl) (step := slices_Equal_int64_int64_4_st) (out := slices_Equal_int64_int64_4_out) (lor := slices_Equal_int64_int64_lo4) (fin := fun x => (slices_Equal_int64_int64_4_fin (x.1) (x.2.1) (x.2.2.1) (x.2.2.2))) (fun _ => rfl) ?_ (fun x n => slices_Equal_int64_int64_4_r x.1 x.2.1 x.2.2.1 x.2.2.2 n) (fun x ow => slices_Equal_int64_int64_4_h x.1 x.2.1 x.2.2.1 x.2.2.2 ow)
  intro s t h
  unfold slices_Equal_int64_int64_lo4 at h
  split at h
  · cases h; exact ⟨(_, _, _, _), rfl, rfl⟩
  · cases h
noncomputable def slices_Equal_int64_int64_t (A : List (List TC)) (C : List (List TC)) : Tr (Bool) := (.ite ((!((A.length : Int) == (C.length : Int))) = true) (.ok false)
  (.ite ((slices_Equal_int64_int64_k4_1 A C (A.length : Int) (0 : Int)) = true) (.ite ((slices_Equal_int64_int64_o4_2 A C (A.length : Int) (0 : Int)) = true) (.ok true)
    .no)
   (.ite ((slices_Equal_int64_int64_o4_3 A C (A.length : Int) (0 : Int)) = true) (.ok false)
    .no)))
def slices_Equal_int64_int64_mk (p : Bool) : Res := [(false, [⟨.bool, .sh, TC.b p⟩])]
noncomputable def slices_Equal_int64_int64_c (A : List (List TC)) (C : List (List TC)) : Bool := is (Typed tab (.slice 2) (.l A))
noncomputable def slices_Equal_int64_int64_v (A : List (List TC)) (C : List (List TC)) : Bool := allEq E_2 A C
theorem slices_Equal_int64_int64_l (A : List (List TC)) (C : List (List TC)) : (slices_Equal_int64_int64_c A C) = true → (slices_Equal_int64_int64_t A C).val = some (slices_Equal_int64_int64_v A C) := by
  intro h
  have ht := is_iff.1 h
  unfold slices_Equal_int64_int64_t
  by_cases hl : A.length = C.length
  · refine Tr.n (by simp [hl]) ?_
    cases hk : allEq E_2 A C with
    | true =>
      refine Tr.t (show allEq E_2 A C = true from hk) ?_
      refine Tr.t (is_true ⟨hl, rfl, ht, rfl⟩) ?_
      show _ = some (allEq E_2 A C); rw [hk]; rfl
    | false =>
      refine Tr.n (show ¬allEq E_2 A C = true from by rw [hk]; simp) ?_
      refine Tr.t (is_true ⟨hl, rfl, ht, rfl⟩) ?_
      show _ = some (allEq E_2 A C); rw [hk]; rfl
  · refine Tr.t (by simp; omega) ?_
    show _ = some (allEq E_2 A C)
    rw [allEq_ne hl]
    rfl
noncomputable def slices_Equal_int64_int64_S : List Arg → Option (Bool × Res) := fun xs => match xs with
  | [(false, [(.slice 2, TC.l A)]), (false, [(.slice 2, TC.l C)])] => some ((slices_Equal_int64_int64_c A C), slices_Equal_int64_int64_mk (slices_Equal_int64_int64_v A C))
  | _ => .none
theorem slices_Equal_int64_int64_e (A : List (List TC)) (C : List (List TC)) : runF tab FT D32 live 74 slices_Equal_int64_int64_lo [(false, [(.slice 2, TC.l A)]), (false, [(.slice 2, TC.l C)])] = (slices_Equal_int64_int64_t A C).run fun p => some (slices_Equal_int64_int64_mk p) := by kernel_rfl
theorem slices_Equal_int64_int64_s : ∀ xs r, slices_Equal_int64_int64_S xs = some (true, r) → runF tab FT D32 live 74 slices_Equal_int64_int64_lo xs = some r := by
  intro xs r h
  unfold slices_Equal_int64_int64_S at h
  split at h
  · simp only [Option.some.injEq, Prod.mk.injEq] at h
    obtain ⟨h1, rfl⟩ := h
    exact fun_told (slices_Equal_int64_int64_e _ _) (slices_Equal_int64_int64_l _ _) h1
  · cases h
noncomputable def D33 : Dt := also D32 74 slices_Equal_int64_int64_S
theorem d33 : DOk Go.Proofs.Try.prog tab D33 := d32.also mixed_ok tab_ok names_ok (fnLoops_one (by kernel_rfl) slices_Equal_int64_int64_is4) slices_Equal_int64_int64_s
/-! impl_SameType calls itself -/




section
class impl_SameType_O where n : Nat
variable [i_impl_SameType : impl_SameType_O]
noncomputable def impl_SameType_rc (k : Int) (s : Int) (sg : Bool) (bg : Bool) (NA : List (List TC)) (NU : List (List TC)) (ME : List (List TC)) (BA : List (List TC)) (ct : Int) (k2 : Int) (s2 : Int) (sg2 : Bool) (bg2 : Bool) (NA2 : List (List TC)) (NU2 : List (List TC)) (ME2 : List (List TC)) (BA2 : List (List TC)) (ct2 : Int) : Bool := is (max (rowsDep ME) (rowsDep BA) < impl_SameType_O.n ∧ Typed tab (.slice 9) (.l NA) ∧ Typed tab (.slice 2) (.l NU) ∧ Typed tab (.slice 147) (.l ME) ∧ Typed tab (.slice 55) (.l BA) ∧ Typed tab (.slice 9) (.l NA2) ∧ Typed tab (.slice 2) (.l NU2) ∧ Typed tab (.slice 147) (.l ME2) ∧ Typed tab (.slice 55) (.l BA2))
noncomputable def impl_SameType_rv (k : Int) (s : Int) (sg : Bool) (bg : Bool) (NA : List (List TC)) (NU : List (List TC)) (ME : List (List TC)) (BA : List (List TC)) (ct : Int) (k2 : Int) (s2 : Int) (sg2 : Bool) (bg2 : Bool) (NA2 : List (List TC)) (NU2 : List (List TC)) (ME2 : List (List TC)) (BA2 : List (List TC)) (ct2 : Int) : Bool := sameV k s sg bg NA NU ME BA ct k2 s2 sg2 bg2 NA2 NU2 ME2 BA2 ct2
def impl_SameType_rmk (p : Bool) : Res := [(false, [⟨.bool, .sh, TC.b p⟩])]
noncomputable def impl_SameType_rS : List Arg → Option (Bool × Res) := fun xs => match xs with
  | [(true, [(.int .i64, TC.i k), (.int .i64, TC.i s), (.bool, TC.b sg), (.bool, TC.b bg), (.slice 9, TC.l NA), (.slice 2, TC.l NU), (.slice 147, TC.l ME), (.slice 55, TC.l BA), (.int .i64, TC.i ct)]), (true, [(.int .i64, TC.i k2), (.int .i64, TC.i s2), (.bool, TC.b sg2), (.bool, TC.b bg2), (.slice 9, TC.l NA2), (.slice 2, TC.l NU2), (.slice 147, TC.l ME2), (.slice 55, TC.l BA2), (.int .i64, TC.i ct2)])] => some ((impl_SameType_rc k s sg bg NA NU ME BA ct k2 s2 sg2 bg2 NA2 NU2 ME2 BA2 ct2), impl_SameType_rmk (impl_SameType_rv k s sg bg NA NU ME BA ct k2 s2 sg2 bg2 NA2 NU2 ME2 BA2 ct2))
  | _ => .none
noncomputable def D34 : Dt := also D33 72 impl_SameType_rS
class impl_SameType_G : Prop where ok : DOk Go.Proofs.Try.prog tab D34
variable [g_impl_SameType : impl_SameType_G]
theorem d34 : DOk Go.Proofs.Try.prog tab D34 := impl_SameType_G.ok
/-! impl_sameMember -/
noncomputable def impl_sameMember_t (a0 : List UInt8) (a1 : Int) (a2 : Int) (a3 : Int) (a4 : Bool) (a5 : Bool) (a6 : List (List TC)) (a7 : List (List TC)) (a8 : List (List TC)) (a9 : List (List TC)) (a10 : Int) (a11 : List UInt8) (a12 : Int) (a13 : Int) (a14 : Int) (a15 : Bool) (a16 : Bool) (a17 : List (List TC)) (a18 : List (List TC)) (a19 : List (List TC)) (a20 : List (List TC)) (a21 : Int) : Tr (Bool) := (.ite ((a0 == a11) = true) (.ite ((a1 == a12) = true) (.ite ((impl_SameType_rc a2 a3 a4 a5 a6 a7 a8 a9 a10 a13 a14 a15 a16 a17 a18 a19 a20 a21) = true) (.ok (impl_SameType_rv a2 a3 a4 a5 a6 a7 a8 a9 a10 a13 a14 a15 a16 a17 a18 a19 a20 a21))
    .no)
   (.ok false))
  (.ok false))
def impl_sameMember_mk (p : Bool) : Res := [(false, [⟨.bool, .sh, TC.b p⟩])]
noncomputable def impl_sameMember_c (a0 : List UInt8) (a1 : Int) (a2 : Int) (a3 : Int) (a4 : Bool) (a5 : Bool) (a6 : List (List TC)) (a7 : List (List TC)) (a8 : List (List TC)) (a9 : List (List TC)) (a10 : Int) (a11 : List UInt8) (a12 : Int) (a13 : Int) (a14 : Int) (a15 : Bool) (a16 : Bool) (a17 : List (List TC)) (a18 : List (List TC)) (a19 : List (List TC)) (a20 : List (List TC)) (a21 : Int) : Bool := (bif (a0 == a11) then (bif (a1 == a12) then ((impl_SameType_rc a2 a3 a4 a5 a6 a7 a8 a9 a10 a13 a14 a15 a16 a17 a18 a19 a20 a21) && true) else true) else true)
noncomputable def impl_sameMember_v (a0 : List UInt8) (a1 : Int) (a2 : Int) (a3 : Int) (a4 : Bool) (a5 : Bool) (a6 : List (List TC)) (a7 : List (List TC)) (a8 : List (List TC)) (a9 : List (List TC)) (a10 : Int) (a11 : List UInt8) (a12 : Int) (a13 : Int) (a14 : Int) (a15 : Bool) (a16 : Bool) (a17 : List (List TC)) (a18 : List (List TC)) (a19 : List (List TC)) (a20 : List (List TC)) (a21 : Int) : Bool := (bif (a0 == a11) then (bif (a1 == a12) then (impl_SameType_rv a2 a3 a4 a5 a6 a7 a8 a9 a10 a13 a14 a15 a16 a17 a18 a19 a20 a21) else false) else false)
theorem impl_sameMember_l (a0 : List UInt8) (a1 : Int) (a2 : Int) (a3 : Int) (a4 : Bool) (a5 : Bool) (a6 : List (List TC)) (a7 : List (List TC)) (a8 : List (List TC)) (a9 : List (List TC)) (a10 : Int) (a11 : List UInt8) (a12 : Int) (a13 : Int) (a14 : Int) (a15 : Bool) (a16 : Bool) (a17 : List (List TC)) (a18 : List (List TC)) (a19 : List (List TC)) (a20 : List (List TC)) (a21 : Int) : (impl_sameMember_c a0 a1 a2 a3 a4 a5 a6 a7 a8 a9 a10 a11 a12 a13 a14 a15 a16 a17 a18 a19 a20 a21) = true → (impl_sameMember_t a0 a1 a2 a3 a4 a5 a6 a7 a8 a9 a10 a11 a12 a13 a14 a15 a16 a17 a18 a19 a20 a21).val = some (impl_sameMember_v a0 a1 a2 a3 a4 a5 a6 a7 a8 a9 a10 a11 a12 a13 a14 a15 a16 a17 a18 a19 a20 a21) := by
  unfold impl_sameMember_t impl_sameMember_v impl_sameMember_c
  exact fun h => (Tr.ss h (fun h => (Tr.ss h (fun h => (Tr.gb h fun h => rfl)) (fun h => rfl))) (fun h => rfl))
noncomputable def impl_sameMember_S : List Arg → Option (Bool × Res) := fun xs => match xs with
  | [(true, [(.str, TC.s a0), (.int .i64, TC.i a1), (.int .i64, TC.i a2), (.int .i64, TC.i a3), (.bool, TC.b a4), (.bool, TC.b a5), (.slice 9, TC.l a6), (.slice 2, TC.l a7), (.slice 147, TC.l a8), (.slice 55, TC.l a9), (.int .i64, TC.i a10)]), (true, [(.str, TC.s a11), (.int .i64, TC.i a12), (.int .i64, TC.i a13), (.int .i64, TC.i a14), (.bool, TC.b a15), (.bool, TC.b a16), (.slice 9, TC.l a17), (.slice 2, TC.l a18), (.slice 147, TC.l a19), (.slice 55, TC.l a20), (.int .i64, TC.i a21)])] => some ((impl_sameMember_c a0 a1 a2 a3 a4 a5 a6 a7 a8 a9 a10 a11 a12 a13 a14 a15 a16 a17 a18 a19 a20 a21), impl_sameMember_mk (impl_sameMember_v a0 a1 a2 a3 a4 a5 a6 a7 a8 a9 a10 a11 a12 a13 a14 a15 a16 a17 a18 a19 a20 a21))
  | _ => .none
theorem impl_sameMember_e (a0 : List UInt8) (a1 : Int) (a2 : Int) (a3 : Int) (a4 : Bool) (a5 : Bool) (a6 : List (List TC)) (a7 : List (List TC)) (a8 : List (List TC)) (a9 : List (List TC)) (a10 : Int) (a11 : List UInt8) (a12 : Int) (a13 : Int) (a14 : Int) (a15 : Bool) (a16 : Bool) (a17 : List (List TC)) (a18 : List (List TC)) (a19 : List (List TC)) (a20 : List (List TC)) (a21 : Int) : runF tab FT D34 live 104 noLoops [(true, [(.str, TC.s a0), (.int .i64, TC.i a1), (.int .i64, TC.i a2), (.int .i64, TC.i a3), (.bool, TC.b a4), (.bool, TC.b a5), (.slice 9, TC.l a6), (.slice 2, TC.l a7), (.slice 147, TC.l a8), (.slice 55, TC.l a9), (.int .i64, TC.i a10)]), (true, [(.str, TC.s a11), (.int .i64, TC.i a12), (.int .i64, TC.i a13), (.int .i64, TC.i a14), (.bool, TC.b a15), (.bool, TC.b a16), (.slice 9, TC.l a17), (.slice 2, TC.l a18), (.slice 147, TC.l a19), (.slice 55, TC.l a20), (.int .i64, TC.i a21)])] = (impl_sameMember_t a0 a1 a2 a3 a4 a5 a6 a7 a8 a9 a10 a11 a12 a13 a14 a15 a16 a17 a18 a19 a20 a21).run fun p => some (impl_sameMember_mk p) := by kernel_rfl
theorem impl_sameMember_s : ∀ xs r, impl_sameMember_S xs = some (true, r) → runF tab FT D34 live 104 noLoops xs = some r := by
  intro xs r h
  unfold impl_sameMember_S at h
  split at h
  · simp only [Option.some.injEq, Prod.mk.injEq] at h
    obtain ⟨h1, rfl⟩ := h
    exact fun_told (impl_sameMember_e _ _ _ _ _ _ _ _ _ _ _ _ _ _ _ _ _ _ _ _ _ _) (impl_sameMember_l _ _ _ _ _ _ _ _ _ _ _ _ _ _ _ _ _ _ _ _ _ _) h1
  · cases h
noncomputable def D35 : Dt := also D34 104 impl_sameMember_S
theorem d35 : DOk Go.Proofs.Try.prog tab D35 := d34.also mixed_ok tab_ok names_ok noLoops_ok impl_sameMember_s
/-! slices_EqualFunc_impl_Member_impl_Member_impl_Member_impl_Member -/
noncomputable def slices_EqualFunc_impl_Member_impl_Member_impl_Member_impl_Member_E (x y : List TC) : Bool := impl_sameMember_v ((nth x 0).str) ((nth x 1).int) ((nth x 2).int) ((nth x 3).int) ((nth x 4).bool) ((nth x 5).bool) ((nth x 6).list) ((nth x 7).list) ((nth x 8).list) ((nth x 9).list) ((nth x 10).int) ((nth y 0).str) ((nth y 1).int) ((nth y 2).int) ((nth y 3).int) ((nth y 4).bool) ((nth y 5).bool) ((nth y 6).list) ((nth y 7).list) ((nth y 8).list) ((nth y 9).list) ((nth y 10).int)
abbrev slices_EqualFunc_impl_Member_impl_Member_impl_Member_impl_Member_4_σ := List (List TC) × List (List TC) × Int × Int
abbrev slices_EqualFunc_impl_Member_impl_Member_impl_Member_impl_Member_4_ω := (Unit) ⊕ (Unit)
noncomputable def slices_EqualFunc_impl_Member_impl_Member_impl_Member_impl_Member_4_step (C : List (List TC)) (A : List (List TC)) (m : Int) (i : Int) : Tr (slices_EqualFunc_impl_Member_impl_Member_impl_Member_impl_Member_4_σ ⊕ slices_EqualFunc_impl_Member_impl_Member_impl_Member_impl_Member_4_ω) := (.ite ((decide (i < m)) = true) (.ite ((0 : Int) ≤ i ∧ i < (A.length : Int)) (.ite ((0 : Int) ≤ i ∧ i < (C.length : Int)) (.ite ((impl_sameMember_c ((nth (row A i) 0).str) ((nth (row A i) 1).int) ((nth (row A i) 2).int) ((nth (row A i) 3).int) ((nth (row A i) 4).bool) ((nth (row A i) 5).bool) ((nth (row A i) 6).list) ((nth (row A i) 7).list) ((nth (row A i) 8).list) ((nth (row A i) 9).list) ((nth (row A i) 10).int) ((nth (row C i) 0).str) ((nth (row C i) 1).int) ((nth (row C i) 2).int) ((nth (row C i) 3).int) ((nth (row C i) 4).bool) ((nth (row C i) 5).bool) ((nth (row C i) 6).list) ((nth (row C i) 7).list) ((nth (row C i) 8).list) ((nth (row C i) 9).list) ((nth (row C i) 10).int)) = true) (.ite ((!(impl_sameMember_v ((nth (row A i) 0).str) ((nth (row A i) 1).int) ((nth (row A i) 2).int) ((nth (row A i) 3).int) ((nth (row A i) 4).bool) ((nth (row A i) 5).bool) ((nth (row A i) 6).list) ((nth (row A i) 7).list) ((nth (row A i) 8).list) ((nth (row A i) 9).list) ((nth (row A i) 10).int) ((nth (row C i) 0).str) ((nth (row C i) 1).int) ((nth (row C i) 2).int) ((nth (row C i) 3).int) ((nth (row C i) 4).bool) ((nth (row C i) 5).bool) ((nth (row C i) 6).list) ((nth (row C i) 7).list) ((nth (row C i) 8).list) ((nth (row C i) 9).list) ((nth (row C i) 10).int))) = true) (.ok (.inr (.inl ())))
      (.ok (.inl (C, A, m, (IntKind.wrap .i64 (i + (1 : Int)))))))
     .no)
    .no)
   .no)
  (.ok (.inr (.inr ()))))
noncomputable def slices_EqualFunc_impl_Member_impl_Member_impl_Member_impl_Member_4_st : slices_EqualFunc_impl_Member_impl_Member_impl_Member_impl_Member_4_σ → Tr (slices_EqualFunc_impl_Member_impl_Member_impl_Member_impl_Member_4_σ ⊕ slices_EqualFunc_impl_Member_impl_Member_impl_Member_impl_Member_4_ω) := fun x => (slices_EqualFunc_impl_Member_impl_Member_impl_Member_impl_Member_4_step (x.1) (x.2.1) (x.2.2.1) (x.2.2.2))
noncomputable def slices_EqualFunc_impl_Member_impl_Member_impl_Member_impl_Member_k4_1 (C : List (List TC)) (A : List (List TC)) (m : Int) (i : Int) : Bool := allEq slices_EqualFunc_impl_Member_impl_Member_impl_Member_impl_Member_E A C
noncomputable def slices_EqualFunc_impl_Member_impl_Member_impl_Member_impl_Member_o4_2 (C : List (List TC)) (A : List (List TC)) (m : Int) (i : Int) : Bool := is (A.length = C.length ∧ i = 0 ∧ Typed tab (.slice 147) (.l A) ∧ m = (A.length : Int) ∧ (∀ x y : List TC, x ∈ A → y ∈ C → impl_sameMember_c ((nth x 0).str) ((nth x 1).int) ((nth x 2).int) ((nth x 3).int) ((nth x 4).bool) ((nth x 5).bool) ((nth x 6).list) ((nth x 7).list) ((nth x 8).list) ((nth x 9).list) ((nth x 10).int) ((nth y 0).str) ((nth y 1).int) ((nth y 2).int) ((nth y 3).int) ((nth y 4).bool) ((nth y 5).bool) ((nth y 6).list) ((nth y 7).list) ((nth y 8).list) ((nth y 9).list) ((nth y 10).int) = true))
noncomputable def slices_EqualFunc_impl_Member_impl_Member_impl_Member_impl_Member_o4_3 (C : List (List TC)) (A : List (List TC)) (m : Int) (i : Int) : Bool := is (A.length = C.length ∧ i = 0 ∧ Typed tab (.slice 147) (.l A) ∧ m = (A.length : Int) ∧ (∀ x y : List TC, x ∈ A → y ∈ C → impl_sameMember_c ((nth x 0).str) ((nth x 1).int) ((nth x 2).int) ((nth x 3).int) ((nth x 4).bool) ((nth x 5).bool) ((nth x 6).list) ((nth x 7).list) ((nth x 8).list) ((nth x 9).list) ((nth x 10).int) ((nth y 0).str) ((nth y 1).int) ((nth y 2).int) ((nth y 3).int) ((nth y 4).bool) ((nth y 5).bool) ((nth y 6).list) ((nth y 7).list) ((nth y 8).list) ((nth y 9).list) ((nth y 10).int) = true))
noncomputable def slices_EqualFunc_impl_Member_impl_Member_impl_Member_impl_Member_4_fin (C : List (List TC)) (A : List (List TC)) (m : Int) (i : Int) : Told slices_EqualFunc_impl_Member_impl_Member_impl_Member_impl_Member_4_ω := (.br (slices_EqualFunc_impl_Member_impl_Member_impl_Member_impl_Member_k4_1 C A m i) (.leaf (slices_EqualFunc_impl_Member_impl_Member_impl_Member_impl_Member_o4_2 C A m i) (.inr ())) (.leaf (slices_EqualFunc_impl_Member_impl_Member_impl_Member_impl_Member_o4_3 C A m i) (.inl ())))
def slices_EqualFunc_impl_Member_impl_Member_impl_Member_impl_Member_4_sl (x : slices_EqualFunc_impl_Member_impl_Member_impl_Member_impl_Member_4_σ) : List Slot := [⟨.val false [⟨.slice 147, .sh, TC.l (x.1)⟩], ⟨0, 0⟩⟩, ⟨.val false [⟨.func, .sh, TC.f 104 []⟩], ⟨0, 0⟩⟩, ⟨.val false [⟨.slice 147, .sh, TC.l (x.2.1)⟩], ⟨0, 0⟩⟩, ⟨.val false [⟨.int .i64, .sh, TC.i (x.2.2.1)⟩], ⟨0, 0⟩⟩, ⟨.val false [⟨.int .i64, .sh, TC.i (x.2.2.2)⟩], ⟨0, 0⟩⟩]
def slices_EqualFunc_impl_Member_impl_Member_impl_Member_impl_Member_4_out : slices_EqualFunc_impl_Member_impl_Member_impl_Member_impl_Member_4_ω → Ex × List Slot := (Sum.elim (fun x => (.ret, [⟨.val false [⟨.bool, .sh, TC.b false⟩], ⟨0, 0⟩⟩])) (fun x => (.exit 0, [Slot.none])))
noncomputable def slices_EqualFunc_impl_Member_impl_Member_impl_Member_impl_Member_lo4 : List Slot → Option (Told (Ex × List Slot)) := fun s => match s with
  | [⟨.val false [⟨.slice 147, .sh, TC.l C⟩], ⟨0, 0⟩⟩, ⟨.val false [⟨.func, .sh, TC.f 104 []⟩], ⟨0, 0⟩⟩, ⟨.val false [⟨.slice 147, .sh, TC.l A⟩], ⟨0, 0⟩⟩, ⟨.val false [⟨.int .i64, .sh, TC.i m⟩], ⟨0, 0⟩⟩, ⟨.val false [⟨.int .i64, .sh, TC.i i⟩], ⟨0, 0⟩⟩] => some (((slices_EqualFunc_impl_Member_impl_Member_impl_Member_impl_Member_4_fin C A m i)).map slices_EqualFunc_impl_Member_impl_Member_impl_Member_impl_Member_4_out)
  | _ => .none
noncomputable def slices_EqualFunc_impl_Member_impl_Member_impl_Member_impl_Member_lo : LoopTeller := fun r s => bif Nat.beq r 4 then slices_EqualFunc_impl_Member_impl_Member_impl_Member_impl_Member_lo4 s else .none
theorem slices_EqualFunc_impl_Member_impl_Member_impl_Member_impl_Member_4_r (C : List (List TC)) (A : List (List TC)) (m : Int) (i : Int) (fuel : Nat) : rounds (rnd tab FT D35 live 103 slices_EqualFunc_impl_Member_impl_Member_impl_Member_impl_Member_lo 0 4) leave (fuel + 1) (slices_EqualFunc_impl_Member_impl_Member_impl_Member_impl_Member_4_sl (C, A, m, i)) = ((slices_EqualFunc_impl_Member_impl_Member_impl_Member_impl_Member_4_step C A m i)).run (goOn (fun s => rounds (rnd tab FT D35 live 103 slices_EqualFunc_impl_Member_impl_Member_impl_Member_impl_Member_lo 0 4) leave fuel (slices_EqualFunc_impl_Member_impl_Member_impl_Member_impl_Member_4_sl s)) fun w => some (slices_EqualFunc_impl_Member_impl_Member_impl_Member_impl_Member_4_out w)) := by kernel_rfl
end
end
end
end
end Go.Proofs.Ytghbndlkekaipaa.V
