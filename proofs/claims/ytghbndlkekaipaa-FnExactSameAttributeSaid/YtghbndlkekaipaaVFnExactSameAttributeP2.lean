/- What the functions of FnExactSameAttribute answer. No condition. -/
import Derived.Test.YtghbndlkekaipaaVFnExactSameAttributeP1
namespace Go.Proofs.Ytghbndlkekaipaa.V
open Go
set_option maxRecDepth 100000
set_option linter.unusedVariables false
set_option linter.unusedSectionVars false
set_option linter.unusedSimpArgs false
section
variable [i_laws_szType : laws_szType_O]
variable [g_laws_szType : laws_szType_G]
section
variable [i_laws_toType : laws_toType_O]
variable [g_laws_toType : laws_toType_G]
section
variable [i_spec_SameType : spec_SameType_O]
variable [g_spec_SameType : spec_SameType_G]
noncomputable def spec_SameType_v (k : Int) (s : Int) (sg : Bool) (bg : Bool) (NA : List (List TC)) (NU : List (List TC)) (ME : List (List TC)) (BA : List (List TC)) (ct : Int) (k2 : Int) (s2 : Int) (sg2 : Bool) (bg2 : Bool) (NA2 : List (List TC)) (NU2 : List (List TC)) (ME2 : List (List TC)) (BA2 : List (List TC)) (ct2 : Int) : Bool := (bif (!(k == k2)) then false else (bif (!(s == s2)) then false else (bif (!(sg == sg2)) then false else (bif (!(bg == bg2)) then false else (bif (!(ct == ct2)) then false else (bif (!((ME.length : Int) == (ME2.length : Int))) then false else (bif (!((BA.length : Int) == (BA2.length : Int))) then false else (bif (spec_SameType_k4_1 k s sg bg NA NU ME BA ct k2 s2 sg2 bg2 NA2 NU2 ME2 BA2 ct2 (0 : Int)) then false else (bif (spec_SameType_k9_1 k s sg bg NA NU ME BA ct k2 s2 sg2 bg2 NA2 NU2 ME2 BA2 ct2 (0 : Int)) then false else (bif (spec_l02Texts_v NA NA2) then (spec_l02Ints_v NU NU2) else false))))))))))
theorem spec_SameType_l (k : Int) (s : Int) (sg : Bool) (bg : Bool) (NA : List (List TC)) (NU : List (List TC)) (ME : List (List TC)) (BA : List (List TC)) (ct : Int) (k2 : Int) (s2 : Int) (sg2 : Bool) (bg2 : Bool) (NA2 : List (List TC)) (NU2 : List (List TC)) (ME2 : List (List TC)) (BA2 : List (List TC)) (ct2 : Int) : (spec_SameType_c k s sg bg NA NU ME BA ct k2 s2 sg2 bg2 NA2 NU2 ME2 BA2 ct2) = true → (spec_SameType_t k s sg bg NA NU ME BA ct k2 s2 sg2 bg2 NA2 NU2 ME2 BA2 ct2).val = some (spec_SameType_v k s sg bg NA NU ME BA ct k2 s2 sg2 bg2 NA2 NU2 ME2 BA2 ct2) := by
  unfold spec_SameType_t spec_SameType_v spec_SameType_c
  exact fun h => (Tr.ss h (fun h => rfl) (fun h => (Tr.ss h (fun h => rfl) (fun h => (Tr.ss h (fun h => rfl) (fun h => (Tr.ss h (fun h => rfl) (fun h => (Tr.ss h (fun h => rfl) (fun h => (Tr.ss h (fun h => rfl) (fun h => (Tr.ss h (fun h => rfl) (fun h => (Tr.ss h (fun h => (Tr.gb h fun h => rfl)) (fun h => (Tr.gb h fun h => (Tr.ss h (fun h => (Tr.gb h fun h => rfl)) (fun h => (Tr.gb h fun h => (Tr.gb h fun h => (Tr.ss h (fun h => (Tr.gb h fun h => rfl)) (fun h => rfl)))))))))))))))))))))))
noncomputable def spec_SameType_S : List Arg → Option (Bool × Res) := fun xs => match xs with
  | [(true, [(.int .i64, TC.i k), (.int .i64, TC.i s), (.bool, TC.b sg), (.bool, TC.b bg), (.slice 9, TC.l NA), (.slice 2, TC.l NU), (.slice 147, TC.l ME), (.slice 55, TC.l BA), (.int .i64, TC.i ct)]), (true, [(.int .i64, TC.i k2), (.int .i64, TC.i s2), (.bool, TC.b sg2), (.bool, TC.b bg2), (.slice 9, TC.l NA2), (.slice 2, TC.l NU2), (.slice 147, TC.l ME2), (.slice 55, TC.l BA2), (.int .i64, TC.i ct2)])] => some ((spec_SameType_c k s sg bg NA NU ME BA ct k2 s2 sg2 bg2 NA2 NU2 ME2 BA2 ct2), spec_SameType_mk (spec_SameType_v k s sg bg NA NU ME BA ct k2 s2 sg2 bg2 NA2 NU2 ME2 BA2 ct2))
  | _ => .none
theorem spec_SameType_e (k : Int) (s : Int) (sg : Bool) (bg : Bool) (NA : List (List TC)) (NU : List (List TC)) (ME : List (List TC)) (BA : List (List TC)) (ct : Int) (k2 : Int) (s2 : Int) (sg2 : Bool) (bg2 : Bool) (NA2 : List (List TC)) (NU2 : List (List TC)) (ME2 : List (List TC)) (BA2 : List (List TC)) (ct2 : Int) : runF tab FT D19 live 64 spec_SameType_lo [(true, [(.int .i64, TC.i k), (.int .i64, TC.i s), (.bool, TC.b sg), (.bool, TC.b bg), (.slice 9, TC.l NA), (.slice 2, TC.l NU), (.slice 147, TC.l ME), (.slice 55, TC.l BA), (.int .i64, TC.i ct)]), (true, [(.int .i64, TC.i k2), (.int .i64, TC.i s2), (.bool, TC.b sg2), (.bool, TC.b bg2), (.slice 9, TC.l NA2), (.slice 2, TC.l NU2), (.slice 147, TC.l ME2), (.slice 55, TC.l BA2), (.int .i64, TC.i ct2)])] = (spec_SameType_t k s sg bg NA NU ME BA ct k2 s2 sg2 bg2 NA2 NU2 ME2 BA2 ct2).run fun p => some (spec_SameType_mk p) := by kernel_rfl
theorem spec_SameType_s : ∀ xs r, spec_SameType_S xs = some (true, r) → runF tab FT D19 live 64 spec_SameType_lo xs = some r := by
  intro xs r h
  unfold spec_SameType_S at h
  split at h
  · simp only [Option.some.injEq, Prod.mk.injEq] at h
    obtain ⟨h1, rfl⟩ := h
    exact fun_told (spec_SameType_e _ _ _ _ _ _ _ _ _ _ _ _ _ _ _ _ _ _) (spec_SameType_l _ _ _ _ _ _ _ _ _ _ _ _ _ _ _ _ _ _) h1
  · cases h
theorem spec_SameType_nx (k : Int) (s : Int) (sg : Bool) (bg : Bool) (NA : List (List TC)) (NU : List (List TC)) (ME : List (List TC)) (BA : List (List TC)) (ct : Int) (k2 : Int) (s2 : Int) (sg2 : Bool) (bg2 : Bool) (NA2 : List (List TC)) (NU2 : List (List TC)) (ME2 : List (List TC)) (BA2 : List (List TC)) (ct2 : Int) : is (max (rowsDep ME) (rowsDep BA) < spec_SameType_O.n + 1 ∧ Typed tab (.slice 9) (.l NA) ∧ Typed tab (.slice 2) (.l NU) ∧ Typed tab (.slice 147) (.l ME) ∧ Typed tab (.slice 55) (.l BA) ∧ Typed tab (.slice 9) (.l NA2) ∧ Typed tab (.slice 2) (.l NU2) ∧ Typed tab (.slice 147) (.l ME2) ∧ Typed tab (.slice 55) (.l BA2)) = true → (spec_SameType_c k s sg bg NA NU ME BA ct k2 s2 sg2 bg2 NA2 NU2 ME2 BA2 ct2) = true ∧ (spec_SameType_v k s sg bg NA NU ME BA ct k2 s2 sg2 bg2 NA2 NU2 ME2 BA2 ct2) = sameV k s sg bg NA NU ME BA ct k2 s2 sg2 bg2 NA2 NU2 ME2 BA2 ct2 := by
  intro h
  obtain ⟨hM, a4, a5, a6, a7, b4, b5, b6, b7⟩ := is_iff.1 h
  have q6 : ∀ x y, x ∈ ME → y ∈ ME2 → spec_SameType_rc (nth x 2).int (nth x 3).int (nth x 4).bool (nth x 5).bool (nth x 6).list (nth x 7).list (nth x 8).list (nth x 9).list (nth x 10).int (nth y 2).int (nth y 3).int (nth y 4).bool (nth y 5).bool (nth y 6).list (nth y 7).list (nth y 8).list (nth y 9).list (nth y 10).int = true := fun x y hx hy => is_true ⟨by have a := dep_cell hx 8; have b := dep_cell hx 9; omega, typed_list ((typed_elem a6 hx).2 6 (by decide)), typed_list ((typed_elem a6 hx).2 7 (by decide)), typed_list ((typed_elem a6 hx).2 8 (by decide)), typed_list ((typed_elem a6 hx).2 9 (by decide)), typed_list ((typed_elem b6 hy).2 6 (by decide)), typed_list ((typed_elem b6 hy).2 7 (by decide)), typed_list ((typed_elem b6 hy).2 8 (by decide)), typed_list ((typed_elem b6 hy).2 9 (by decide))⟩
  have q7 : ∀ x y, x ∈ BA → y ∈ BA2 → spec_SameType_rc (nth x 0).int (nth x 1).int (nth x 2).bool (nth x 3).bool (nth x 4).list (nth x 5).list (nth x 6).list (nth x 7).list (nth x 8).int (nth y 0).int (nth y 1).int (nth y 2).bool (nth y 3).bool (nth y 4).list (nth y 5).list (nth y 6).list (nth y 7).list (nth y 8).int = true := fun x y hx hy => is_true ⟨by have a := dep_cell hx 6; have b := dep_cell hx 7; omega, typed_list ((typed_elem a7 hx).2 4 (by decide)), typed_list ((typed_elem a7 hx).2 5 (by decide)), typed_list ((typed_elem a7 hx).2 6 (by decide)), typed_list ((typed_elem a7 hx).2 7 (by decide)), typed_list ((typed_elem b7 hy).2 4 (by decide)), typed_list ((typed_elem b7 hy).2 5 (by decide)), typed_list ((typed_elem b7 hy).2 6 (by decide)), typed_list ((typed_elem b7 hy).2 7 (by decide))⟩
  have c4 : spec_l02Texts_c NA NA2 = true := is_true a4
  have c5 : spec_l02Ints_c NU NU2 = true := is_true a5
  have v4 : spec_l02Texts_v NA NA2 = eqL NA NA2 := allEq_eqL (E := E_9) (fun x y hx hy => by
    constructor
    · intro h
      have hh : (nth x 0).str = (nth y 0).str := by
        simpa [E_9] using h
      have e0 := hh
      have hx' := form_9 a4 hx
      have hy' := form_9 b4 hy
      rw [hx', hy', e0]
    · rintro rfl
      simp [E_9])
  have v5 : spec_l02Ints_v NU NU2 = eqL NU NU2 := allEq_eqL (E := E_2) (fun x y hx hy => by
    constructor
    · intro h
      have hh : (nth x 0).int = (nth y 0).int := by
        simpa [E_2] using h
      have e0 := hh
      have hx' := form_2 a5 hx
      have hy' := form_2 b5 hy
      rw [hx', hy', e0]
    · rintro rfl
      simp [E_2])
  have v6 : ME.length = ME2.length → allI (fun i : Nat => ((nth (row ME (i : Int)) 0).str == (nth (row ME2 (i : Int)) 0).str) && (((nth (row ME (i : Int)) 1).int == (nth (row ME2 (i : Int)) 1).int) && spec_SameType_rv (nth (row ME (i : Int)) 2).int (nth (row ME (i : Int)) 3).int (nth (row ME (i : Int)) 4).bool (nth (row ME (i : Int)) 5).bool (nth (row ME (i : Int)) 6).list (nth (row ME (i : Int)) 7).list (nth (row ME (i : Int)) 8).list (nth (row ME (i : Int)) 9).list (nth (row ME (i : Int)) 10).int (nth (row ME2 (i : Int)) 2).int (nth (row ME2 (i : Int)) 3).int (nth (row ME2 (i : Int)) 4).bool (nth (row ME2 (i : Int)) 5).bool (nth (row ME2 (i : Int)) 6).list (nth (row ME2 (i : Int)) 7).list (nth (row ME2 (i : Int)) 8).list (nth (row ME2 (i : Int)) 9).list (nth (row ME2 (i : Int)) 10).int)) ME.length = eqL ME ME2 := fun hl => (allI_allEq (E := fun x y => ((nth x 0).str == (nth y 0).str) && (((nth x 1).int == (nth y 1).int) && spec_SameType_rv (nth x 2).int (nth x 3).int (nth x 4).bool (nth x 5).bool (nth x 6).list (nth x 7).list (nth x 8).list (nth x 9).list (nth x 10).int (nth y 2).int (nth y 3).int (nth y 4).bool (nth y 5).bool (nth y 6).list (nth y 7).list (nth y 8).list (nth y 9).list (nth y 10).int)) hl).trans (allEq_eqL (fun x y hx hy => by
    constructor
    · intro h
      have hh : (nth x 0).str = (nth y 0).str ∧ (nth x 1).int = (nth y 1).int ∧ (nth x 2).int = (nth y 2).int ∧ (nth x 3).int = (nth y 3).int ∧ (nth x 4).bool = (nth y 4).bool ∧ (nth x 5).bool = (nth y 5).bool ∧ (nth x 6).list = (nth y 6).list ∧ (nth x 7).list = (nth y 7).list ∧ (nth x 8).list = (nth y 8).list ∧ (nth x 9).list = (nth y 9).list ∧ (nth x 10).int = (nth y 10).int := by
        have h : (((nth x 0).str == (nth y 0).str) && (((nth x 1).int == (nth y 1).int) && sameV (nth x 2).int (nth x 3).int (nth x 4).bool (nth x 5).bool (nth x 6).list (nth x 7).list (nth x 8).list (nth x 9).list (nth x 10).int (nth y 2).int (nth y 3).int (nth y 4).bool (nth y 5).bool (nth y 6).list (nth y 7).list (nth y 8).list (nth y 9).list (nth y 10).int)) = true := h
        simp only [sameV, Bool.and_eq_true, beq_iff_eq, eqL_iff] at h
        obtain ⟨n, o, h⟩ := h
        exact ⟨n, o, h.1, h.2.1, h.2.2.1, h.2.2.2.1, h.2.2.2.2.2.1, h.2.2.2.2.2.2.1, h.2.2.2.2.2.2.2.1, h.2.2.2.2.2.2.2.2, h.2.2.2.2.1⟩
      obtain ⟨e0, e1, e2, e3, e4, e5, e6, e7, e8, e9, e10⟩ := hh
      have hx' := form_147 a6 hx
      have hy' := form_147 b6 hy
      rw [hx', hy', e0, e1, e2, e3, e4, e5, e6, e7, e8, e9, e10]
    · rintro rfl
      show (((nth x 0).str == (nth x 0).str) && (((nth x 1).int == (nth x 1).int) && sameV (nth x 2).int (nth x 3).int (nth x 4).bool (nth x 5).bool (nth x 6).list (nth x 7).list (nth x 8).list (nth x 9).list (nth x 10).int (nth x 2).int (nth x 3).int (nth x 4).bool (nth x 5).bool (nth x 6).list (nth x 7).list (nth x 8).list (nth x 9).list (nth x 10).int)) = true
      simp [sameV, eqL_refl]))
  have v7 : BA.length = BA2.length → allI (fun i : Nat => spec_SameType_rv (nth (row BA (i : Int)) 0).int (nth (row BA (i : Int)) 1).int (nth (row BA (i : Int)) 2).bool (nth (row BA (i : Int)) 3).bool (nth (row BA (i : Int)) 4).list (nth (row BA (i : Int)) 5).list (nth (row BA (i : Int)) 6).list (nth (row BA (i : Int)) 7).list (nth (row BA (i : Int)) 8).int (nth (row BA2 (i : Int)) 0).int (nth (row BA2 (i : Int)) 1).int (nth (row BA2 (i : Int)) 2).bool (nth (row BA2 (i : Int)) 3).bool (nth (row BA2 (i : Int)) 4).list (nth (row BA2 (i : Int)) 5).list (nth (row BA2 (i : Int)) 6).list (nth (row BA2 (i : Int)) 7).list (nth (row BA2 (i : Int)) 8).int) BA.length = eqL BA BA2 := fun hl => (allI_allEq (E := fun x y => spec_SameType_rv (nth x 0).int (nth x 1).int (nth x 2).bool (nth x 3).bool (nth x 4).list (nth x 5).list (nth x 6).list (nth x 7).list (nth x 8).int (nth y 0).int (nth y 1).int (nth y 2).bool (nth y 3).bool (nth y 4).list (nth y 5).list (nth y 6).list (nth y 7).list (nth y 8).int) hl).trans (allEq_eqL (fun x y hx hy => by
    constructor
    · intro h
      have hh : (nth x 0).int = (nth y 0).int ∧ (nth x 1).int = (nth y 1).int ∧ (nth x 2).bool = (nth y 2).bool ∧ (nth x 3).bool = (nth y 3).bool ∧ (nth x 4).list = (nth y 4).list ∧ (nth x 5).list = (nth y 5).list ∧ (nth x 6).list = (nth y 6).list ∧ (nth x 7).list = (nth y 7).list ∧ (nth x 8).int = (nth y 8).int := by
        have h : sameV (nth x 0).int (nth x 1).int (nth x 2).bool (nth x 3).bool (nth x 4).list (nth x 5).list (nth x 6).list (nth x 7).list (nth x 8).int (nth y 0).int (nth y 1).int (nth y 2).bool (nth y 3).bool (nth y 4).list (nth y 5).list (nth y 6).list (nth y 7).list (nth y 8).int = true := h
        simp only [sameV, Bool.and_eq_true, beq_iff_eq, eqL_iff] at h
        exact ⟨h.1, h.2.1, h.2.2.1, h.2.2.2.1, h.2.2.2.2.2.1, h.2.2.2.2.2.2.1, h.2.2.2.2.2.2.2.1, h.2.2.2.2.2.2.2.2, h.2.2.2.2.1⟩
      obtain ⟨e0, e1, e2, e3, e4, e5, e6, e7, e8⟩ := hh
      have hx' := form_55 a7 hx
      have hy' := form_55 b7 hy
      rw [hx', hy', e0, e1, e2, e3, e4, e5, e6, e7, e8]
    · rintro rfl
      show sameV (nth x 0).int (nth x 1).int (nth x 2).bool (nth x 3).bool (nth x 4).list (nth x 5).list (nth x 6).list (nth x 7).list (nth x 8).int (nth x 0).int (nth x 1).int (nth x 2).bool (nth x 3).bool (nth x 4).list (nth x 5).list (nth x 6).list (nth x 7).list (nth x 8).int = true
      simp [sameV, eqL_refl]))
  have w6 : ME.length ≤ 140737488355328 := by have := typed_room a6; simp only [show (tab 147).bytes = 152 from rfl] at this; omega
  have w7 : BA.length ≤ 140737488355328 := by have := typed_room a7; simp only [show (tab 55).bytes = 128 from rfl] at this; omega
  have ne : ∀ A C : List (List TC), ¬A.length = C.length → eqL A C = false := fun A C hn => by
    cases he : eqL A C with
    | false => rfl
    | true => exact absurd (congrArg List.length (eqL_iff.1 he)) hn
  unfold spec_SameType_c spec_SameType_v sameV
  by_cases l6 : ME.length = ME2.length
  · by_cases l7 : BA.length = BA2.length
    · have o0 : spec_SameType_o4_2 k s sg bg NA NU ME BA ct k2 s2 sg2 bg2 NA2 NU2 ME2 BA2 ct2 0 = true ∧ spec_SameType_o4_3 k s sg bg NA NU ME BA ct k2 s2 sg2 bg2 NA2 NU2 ME2 BA2 ct2 0 = true := ⟨is_true ⟨rfl, l6, w6, q6⟩, is_true ⟨rfl, l6, w6, q6⟩⟩
      have o1 : spec_SameType_o9_2 k s sg bg NA NU ME BA ct k2 s2 sg2 bg2 NA2 NU2 ME2 BA2 ct2 0 = true ∧ spec_SameType_o9_3 k s sg bg NA NU ME BA ct k2 s2 sg2 bg2 NA2 NU2 ME2 BA2 ct2 0 = true := ⟨is_true ⟨rfl, l7, w7, q7⟩, is_true ⟨rfl, l7, w7, q7⟩⟩
      rw [show ((ME.length : Int) == (ME2.length : Int)) = true from by simp [l6], show ((BA.length : Int) == (BA2.length : Int)) = true from by simp [l7]]
      have k0 : spec_SameType_k4_1 k s sg bg NA NU ME BA ct k2 s2 sg2 bg2 NA2 NU2 ME2 BA2 ct2 0 = !(eqL ME ME2) := by
        unfold spec_SameType_k4_1
        rw [spec_SameType_R4_eq, v6 l6]
        cases eqL ME ME2 <;> rfl
      have k1 : spec_SameType_k9_1 k s sg bg NA NU ME BA ct k2 s2 sg2 bg2 NA2 NU2 ME2 BA2 ct2 0 = !(eqL BA BA2) := by
        unfold spec_SameType_k9_1
        rw [spec_SameType_R9_eq, v7 l7]
        cases eqL BA BA2 <;> rfl
      simp only [o0.1, o0.2, o1.1, o1.2, k0, k1, c4, c5, v4, v5, bif_nf, bif_tf, bif_ft, Bool.not_true, cond_false, Bool.not_not, Bool.and_true, Bool.true_and, bif_same, true_and]
      ac_rfl
    · have e4 : ((BA.length : Int) == (BA2.length : Int)) = false := by simp; omega
      simp only [e4, ne _ _ l7, bif_nf, bif_tf, bif_ft, Bool.not_false, cond_true, Bool.false_and, Bool.and_false, bif_same, and_self]
  · have e3 : ((ME.length : Int) == (ME2.length : Int)) = false := by simp; omega
    simp only [e3, ne _ _ l6, bif_nf, bif_tf, bif_ft, Bool.not_false, cond_true, Bool.false_and, Bool.and_false, bif_same, and_self]
theorem spec_SameType_nxr (k : Int) (s : Int) (sg : Bool) (bg : Bool) (NA : List (List TC)) (NU : List (List TC)) (ME : List (List TC)) (BA : List (List TC)) (ct : Int) (k2 : Int) (s2 : Int) (sg2 : Bool) (bg2 : Bool) (NA2 : List (List TC)) (NU2 : List (List TC)) (ME2 : List (List TC)) (BA2 : List (List TC)) (ct2 : Int) : spec_SameType_rc (i_spec_SameType := ⟨spec_SameType_O.n + 1⟩) k s sg bg NA NU ME BA ct k2 s2 sg2 bg2 NA2 NU2 ME2 BA2 ct2 = true → (spec_SameType_c k s sg bg NA NU ME BA ct k2 s2 sg2 bg2 NA2 NU2 ME2 BA2 ct2) = true ∧ (spec_SameType_v k s sg bg NA NU ME BA ct k2 s2 sg2 bg2 NA2 NU2 ME2 BA2 ct2) = (spec_SameType_rv k s sg bg NA NU ME BA ct k2 s2 sg2 bg2 NA2 NU2 ME2 BA2 ct2) := fun h => spec_SameType_nx k s sg bg NA NU ME BA ct k2 s2 sg2 bg2 NA2 NU2 ME2 BA2 ct2 h
theorem spec_SameType_rs : ∀ xs r, spec_SameType_rS (i_spec_SameType := ⟨spec_SameType_O.n + 1⟩) xs = some (true, r) → runF tab FT D19 live 64 spec_SameType_lo xs = some r := by
  intro xs r h
  unfold spec_SameType_rS at h
  split at h
  · simp only [Option.some.injEq, Prod.mk.injEq] at h
    obtain ⟨h1, rfl⟩ := h
    have hx := spec_SameType_nxr _ _ _ _ _ _ _ _ _ _ _ _ _ _ _ _ _ _ h1
    have ht := fun_told (spec_SameType_e _ _ _ _ _ _ _ _ _ _ _ _ _ _ _ _ _ _) (spec_SameType_l _ _ _ _ _ _ _ _ _ _ _ _ _ _ _ _ _ _) hx.1
    rw [hx.2] at ht
    exact ht
  · cases h
theorem spec_SameType_step : spec_SameType_G (i_spec_SameType := ⟨spec_SameType_O.n + 1⟩) := by
  have h := DOk.also2 (S := spec_SameType_rS (i_spec_SameType := ⟨spec_SameType_O.n + 1⟩)) mixed_ok tab_ok names_ok d16 d19 (fnLoops_two (by kernel_rfl) spec_SameType_is4 spec_SameType_is9) spec_SameType_rs
  refine spec_SameType_G.mk (i_spec_SameType := ⟨spec_SameType_O.n + 1⟩) ?_
  exact h
/-! spec_l00Same -/
abbrev spec_l00Same_4_σ := List (List TC) × List (List TC) × Int
abbrev spec_l00Same_4_ω := (Unit) ⊕ (Unit)
noncomputable def spec_l00Same_4_step (A : List (List TC)) (C : List (List TC)) (i : Int) : Tr (spec_l00Same_4_σ ⊕ spec_l00Same_4_ω) := (.ite ((decide (i < (A.length : Int))) = true) (.ite ((0 : Int) ≤ i ∧ i < (A.length : Int)) (.ite ((0 : Int) ≤ i ∧ i < (C.length : Int)) (.ite ((!((nth (row A i) 0).int == (nth (row C i) 0).int)) = true) (.ok (.inr (.inl ())))
     (.ok (.inl (A, C, (IntKind.wrap .i64 (i + (1 : Int)))))))
    .no)
   .no)
  (.ok (.inr (.inr ()))))
noncomputable def spec_l00Same_4_st : spec_l00Same_4_σ → Tr (spec_l00Same_4_σ ⊕ spec_l00Same_4_ω) := fun x => (spec_l00Same_4_step (x.1) (x.2.1) (x.2.2))
noncomputable def spec_l00Same_k4_1 (A : List (List TC)) (C : List (List TC)) (i : Int) : Bool := allEq E_2 A C
noncomputable def spec_l00Same_o4_2 (A : List (List TC)) (C : List (List TC)) (i : Int) : Bool := is (A.length = C.length ∧ i = 0 ∧ Typed tab (.slice 2) (.l A))
noncomputable def spec_l00Same_o4_3 (A : List (List TC)) (C : List (List TC)) (i : Int) : Bool := is (A.length = C.length ∧ i = 0 ∧ Typed tab (.slice 2) (.l A))
noncomputable def spec_l00Same_4_fin (A : List (List TC)) (C : List (List TC)) (i : Int) : Told spec_l00Same_4_ω := (.br (spec_l00Same_k4_1 A C i) (.leaf (spec_l00Same_o4_2 A C i) (.inr ())) (.leaf (spec_l00Same_o4_3 A C i) (.inl ())))
def spec_l00Same_4_sl (x : spec_l00Same_4_σ) : List Slot := [⟨.val false [⟨.slice 2, .sh, TC.l (x.1)⟩], ⟨0, 0⟩⟩, ⟨.val false [⟨.slice 2, .sh, TC.l (x.2.1)⟩], ⟨0, 0⟩⟩, ⟨.val false [⟨.int .i64, .sh, TC.i (x.2.2)⟩], ⟨0, 0⟩⟩]
def spec_l00Same_4_out : spec_l00Same_4_ω → Ex × List Slot := (Sum.elim (fun x => (.ret, [⟨.val false [⟨.bool, .sh, TC.b false⟩], ⟨0, 0⟩⟩])) (fun x => (.exit 0, [Slot.none])))
noncomputable def spec_l00Same_lo4 : List Slot → Option (Told (Ex × List Slot)) := fun s => match s with
  | [⟨.val false [⟨.slice 2, .sh, TC.l A⟩], ⟨0, 0⟩⟩, ⟨.val false [⟨.slice 2, .sh, TC.l C⟩], ⟨0, 0⟩⟩, ⟨.val false [⟨.int .i64, .sh, TC.i i⟩], ⟨0, 0⟩⟩] => some (((spec_l00Same_4_fin A C i)).map spec_l00Same_4_out)
  | _ => .none
noncomputable def spec_l00Same_lo : LoopTeller := fun r s => bif Nat.beq r 4 then spec_l00Same_lo4 s else .none
theorem spec_l00Same_4_r (A : List (List TC)) (C : List (List TC)) (i : Int) (fuel : Nat) : rounds (rnd tab FT D19 live 81 spec_l00Same_lo 0 4) leave (fuel + 1) (spec_l00Same_4_sl (A, C, i)) = ((spec_l00Same_4_step A C i)).run (goOn (fun s => rounds (rnd tab FT D19 live 81 spec_l00Same_lo 0 4) leave fuel (spec_l00Same_4_sl s)) fun w => some (spec_l00Same_4_out w)) := by kernel_rfl
theorem spec_l00Same_4_h (A : List (List TC)) (C : List (List TC)) (i : Int) (ow : spec_l00Same_4_ω) : ((spec_l00Same_4_fin A C i)).val = some ow → ∃ fuel, loopN spec_l00Same_4_st fuel (A, C, i) = some ow := by
  intro h
  have key : A.length = C.length → Typed tab (.slice 2) (.l A) → loopN spec_l00Same_4_st (A.length + 1) (A, C, 0) = some (if allEq E_2 A C = true then .inr () else .inl ()) := by
    intro hl ht
    have hlen : A.length ≤ 140737488351232 := by have := typed_room ht; simp only [show (tab 2).bytes = 8 from rfl] at this; omega
    refine loopN_allEq A C E_2 (fun i => (A, C, (i : Int))) _ _ hl (fun i hi => ?_) ?_ A.length 0 (by omega)
    · show (spec_l00Same_4_step A C (i : Int)).val = _
      unfold spec_l00Same_4_step
      refine Tr.t (by simp; omega) ?_
      refine Tr.t (by constructor <;> omega) ?_
      refine Tr.t (by constructor <;> omega) ?_
      rw [wrap64 (i := (i : Int) + 1) (by omega) (by omega)]
      rw [Tr.val_br]
      show (if (!(E_2 (A.getD i []) (C.getD i []))) = true then _ else _) = _
      cases E_2 (A.getD i []) (C.getD i []) <;> rfl
    · show (spec_l00Same_4_step A C (A.length : Int)).val = _
      refine Tr.n (by simp) ?_
      rfl
  simp only [spec_l00Same_4_fin, Told.val] at h
  cases hk : allEq E_2 A C with
  | true =>
    rw [if_pos (show spec_l00Same_k4_1 A C i = true from hk)] at h
    split at h
    · rename_i ho
      obtain ⟨hl, rfl, ht⟩ := is_iff.1 ho
      cases h
      refine ⟨_, (key hl ht).trans ?_⟩
      rw [hk]; rfl
    · cases h
  | false =>
    rw [if_neg (show ¬spec_l00Same_k4_1 A C i = true from by rw [show spec_l00Same_k4_1 A C i = allEq E_2 A C from rfl, hk]; simp)] at h
    split at h
    · rename_i ho
      obtain ⟨hl, rfl, ht⟩ := is_iff.1 ho
      cases h
      refine ⟨_, (key hl ht).trans ?_⟩
      rw [hk]; rfl
    · cases h
theorem spec_l00Same_is4 : LoopIs tab FT D19 live 81 spec_l00Same_lo 0 4 := by
  refine loop_told (sl := spec_l00Same_4_sl) (step := spec_l00Same_4_st) (out := spec_l00Same_4_out) (lor := spec_l00Same_lo4) (fin := fun x => (spec_l00Same_4_fin (x.1) (x.2.1) (x.2.2))) (fun _ => rfl) ?_ (fun x n => spec_l00Same_4_r x.1 x.2.1 x.2.2 n) (fun x ow => spec_l00Same_4_h x.1 x.2.1 x.2.2 ow)
  intro s t h
  unfold spec_l00Same_lo4 at h
  split at h
  · cases h; exact ⟨(_, _, _), rfl, rfl⟩
  · cases h
noncomputable def spec_l00Same_t (A : List (List TC)) (C : List (List TC)) : Tr (Bool) := (.ite ((!((A.length : Int) == (C.length : Int))) = true) (.ok false)
  (.ite ((spec_l00Same_k4_1 A C (0 : Int)) = true) (.ite ((spec_l00Same_o4_2 A C (0 : Int)) = true) (.ok true)
    .no)
   (.ite ((spec_l00Same_o4_3 A C (0 : Int)) = true) (.ok false)
    .no)))
def spec_l00Same_mk (p : Bool) : Res := [(false, [⟨.bool, .sh, TC.b p⟩])]
noncomputable def spec_l00Same_c (A : List (List TC)) (C : List (List TC)) : Bool := is (Typed tab (.slice 2) (.l A))
noncomputable def spec_l00Same_v (A : List (List TC)) (C : List (List TC)) : Bool := allEq E_2 A C
theorem spec_l00Same_l (A : List (List TC)) (C : List (List TC)) : (spec_l00Same_c A C) = true → (spec_l00Same_t A C).val = some (spec_l00Same_v A C) := by
  intro h
  have ht := is_iff.1 h
  unfold spec_l00Same_t
  by_cases hl : A.length = C.length
  · refine Tr.n (by simp [hl]) ?_
    cases hk : allEq E_2 A C with
    | true =>
      refine Tr.t (show allEq E_2 A C = true from hk) ?_
      refine Tr.t (is_true ⟨hl, rfl, ht⟩) ?_
      show _ = some (allEq E_2 A C); rw [hk]; rfl
    | false =>
      refine Tr.n (show ¬allEq E_2 A C = true from by rw [hk]; simp) ?_
      refine Tr.t (is_true ⟨hl, rfl, ht⟩) ?_
      show _ = some (allEq E_2 A C); rw [hk]; rfl
  · refine Tr.t (by simp; omega) ?_
    show _ = some (allEq E_2 A C)
    rw [allEq_ne hl]
    rfl
noncomputable def spec_l00Same_S : List Arg → Option (Bool × Res) := fun xs => match xs with
  | [(false, [(.slice 2, TC.l A)]), (false, [(.slice 2, TC.l C)])] => some ((spec_l00Same_c A C), spec_l00Same_mk (spec_l00Same_v A C))
  | _ => .none
theorem spec_l00Same_e (A : List (List TC)) (C : List (List TC)) : runF tab FT D19 live 81 spec_l00Same_lo [(false, [(.slice 2, TC.l A)]), (false, [(.slice 2, TC.l C)])] = (spec_l00Same_t A C).run fun p => some (spec_l00Same_mk p) := by kernel_rfl
theorem spec_l00Same_s : ∀ xs r, spec_l00Same_S xs = some (true, r) → runF tab FT D19 live 81 spec_l00Same_lo xs = some r := by
  intro xs r h
  unfold spec_l00Same_S at h
  split at h
  · simp only [Option.some.injEq, Prod.mk.injEq] at h
    obtain ⟨h1, rfl⟩ := h
    exact fun_told (spec_l00Same_e _ _) (spec_l00Same_l _ _) h1
  · cases h
noncomputable def D20 : Dt := also D19 81 spec_l00Same_S
theorem d20 : DOk Go.Proofs.Try.prog tab D20 := d19.also mixed_ok tab_ok names_ok (fnLoops_one (by kernel_rfl) spec_l00Same_is4) spec_l00Same_s
/-! spec_SameArray -/
noncomputable def spec_SameArray_t (a0 : Int) (a1 : Int) (a2 : Bool) (a3 : Bool) (a4 : List (List TC)) (a5 : List (List TC)) (a6 : List (List TC)) (a7 : List (List TC)) (a8 : Int) (a9 : List (List TC)) (a10 : List UInt8) (a11 : Int) (a12 : Int) (a13 : Bool) (a14 : Bool) (a15 : List (List TC)) (a16 : List (List TC)) (a17 : List (List TC)) (a18 : List (List TC)) (a19 : Int) (a20 : List (List TC)) (a21 : List UInt8) : Tr (Bool) := (.ite ((spec_SameType_rc a0 a1 a2 a3 a4 a5 a6 a7 a8 a11 a12 a13 a14 a15 a16 a17 a18 a19) = true) (.ite ((spec_SameType_rv a0 a1 a2 a3 a4 a5 a6 a7 a8 a11 a12 a13 a14 a15 a16 a17 a18 a19) = true) (.ite ((spec_l00Same_c a9 a20) = true) (.ite ((spec_l00Same_v a9 a20) = true) (.ok (a10 == a21))
     (.ok false))
    .no)
   (.ok false))
  .no)
def spec_SameArray_mk (p : Bool) : Res := [(false, [⟨.bool, .sh, TC.b p⟩])]
noncomputable def spec_SameArray_c (a0 : Int) (a1 : Int) (a2 : Bool) (a3 : Bool) (a4 : List (List TC)) (a5 : List (List TC)) (a6 : List (List TC)) (a7 : List (List TC)) (a8 : Int) (a9 : List (List TC)) (a10 : List UInt8) (a11 : Int) (a12 : Int) (a13 : Bool) (a14 : Bool) (a15 : List (List TC)) (a16 : List (List TC)) (a17 : List (List TC)) (a18 : List (List TC)) (a19 : Int) (a20 : List (List TC)) (a21 : List UInt8) : Bool := ((spec_SameType_rc a0 a1 a2 a3 a4 a5 a6 a7 a8 a11 a12 a13 a14 a15 a16 a17 a18 a19) && (bif (spec_SameType_rv a0 a1 a2 a3 a4 a5 a6 a7 a8 a11 a12 a13 a14 a15 a16 a17 a18 a19) then ((spec_l00Same_c a9 a20) && (bif (spec_l00Same_v a9 a20) then true else true)) else true))
noncomputable def spec_SameArray_v (a0 : Int) (a1 : Int) (a2 : Bool) (a3 : Bool) (a4 : List (List TC)) (a5 : List (List TC)) (a6 : List (List TC)) (a7 : List (List TC)) (a8 : Int) (a9 : List (List TC)) (a10 : List UInt8) (a11 : Int) (a12 : Int) (a13 : Bool) (a14 : Bool) (a15 : List (List TC)) (a16 : List (List TC)) (a17 : List (List TC)) (a18 : List (List TC)) (a19 : Int) (a20 : List (List TC)) (a21 : List UInt8) : Bool := (bif (spec_SameType_rv a0 a1 a2 a3 a4 a5 a6 a7 a8 a11 a12 a13 a14 a15 a16 a17 a18 a19) then (bif (spec_l00Same_v a9 a20) then (a10 == a21) else false) else false)
theorem spec_SameArray_l (a0 : Int) (a1 : Int) (a2 : Bool) (a3 : Bool) (a4 : List (List TC)) (a5 : List (List TC)) (a6 : List (List TC)) (a7 : List (List TC)) (a8 : Int) (a9 : List (List TC)) (a10 : List UInt8) (a11 : Int) (a12 : Int) (a13 : Bool) (a14 : Bool) (a15 : List (List TC)) (a16 : List (List TC)) (a17 : List (List TC)) (a18 : List (List TC)) (a19 : Int) (a20 : List (List TC)) (a21 : List UInt8) : (spec_SameArray_c a0 a1 a2 a3 a4 a5 a6 a7 a8 a9 a10 a11 a12 a13 a14 a15 a16 a17 a18 a19 a20 a21) = true → (spec_SameArray_t a0 a1 a2 a3 a4 a5 a6 a7 a8 a9 a10 a11 a12 a13 a14 a15 a16 a17 a18 a19 a20 a21).val = some (spec_SameArray_v a0 a1 a2 a3 a4 a5 a6 a7 a8 a9 a10 a11 a12 a13 a14 a15 a16 a17 a18 a19 a20 a21) := by
  unfold spec_SameArray_t spec_SameArray_v spec_SameArray_c
  exact fun h => (Tr.gb h fun h => (Tr.ss h (fun h => (Tr.gb h fun h => (Tr.ss h (fun h => rfl) (fun h => rfl)))) (fun h => rfl)))
noncomputable def spec_SameArray_S : List Arg → Option (Bool × Res) := fun xs => match xs with
  | [(true, [(.int .i64, TC.i a0), (.int .i64, TC.i a1), (.bool, TC.b a2), (.bool, TC.b a3), (.slice 9, TC.l a4), (.slice 2, TC.l a5), (.slice 147, TC.l a6), (.slice 55, TC.l a7), (.int .i64, TC.i a8), (.slice 2, TC.l a9), (.str, TC.s a10)]), (true, [(.int .i64, TC.i a11), (.int .i64, TC.i a12), (.bool, TC.b a13), (.bool, TC.b a14), (.slice 9, TC.l a15), (.slice 2, TC.l a16), (.slice 147, TC.l a17), (.slice 55, TC.l a18), (.int .i64, TC.i a19), (.slice 2, TC.l a20), (.str, TC.s a21)])] => some ((spec_SameArray_c a0 a1 a2 a3 a4 a5 a6 a7 a8 a9 a10 a11 a12 a13 a14 a15 a16 a17 a18 a19 a20 a21), spec_SameArray_mk (spec_SameArray_v a0 a1 a2 a3 a4 a5 a6 a7 a8 a9 a10 a11 a12 a13 a14 a15 a16 a17 a18 a19 a20 a21))
  | _ => .none
theorem spec_SameArray_e (a0 : Int) (a1 : Int) (a2 : Bool) (a3 : Bool) (a4 : List (List TC)) (a5 : List (List TC)) (a6 : List (List TC)) (a7 : List (List TC)) (a8 : Int) (a9 : List (List TC)) (a10 : List UInt8) (a11 : Int) (a12 : Int) (a13 : Bool) (a14 : Bool) (a15 : List (List TC)) (a16 : List (List TC)) (a17 : List (List TC)) (a18 : List (List TC)) (a19 : Int) (a20 : List (List TC)) (a21 : List UInt8) : runF tab FT D20 live 56 noLoops [(true, [(.int .i64, TC.i a0), (.int .i64, TC.i a1), (.bool, TC.b a2), (.bool, TC.b a3), (.slice 9, TC.l a4), (.slice 2, TC.l a5), (.slice 147, TC.l a6), (.slice 55, TC.l a7), (.int .i64, TC.i a8), (.slice 2, TC.l a9), (.str, TC.s a10)]), (true, [(.int .i64, TC.i a11), (.int .i64, TC.i a12), (.bool, TC.b a13), (.bool, TC.b a14), (.slice 9, TC.l a15), (.slice 2, TC.l a16), (.slice 147, TC.l a17), (.slice 55, TC.l a18), (.int .i64, TC.i a19), (.slice 2, TC.l a20), (.str, TC.s a21)])] = (spec_SameArray_t a0 a1 a2 a3 a4 a5 a6 a7 a8 a9 a10 a11 a12 a13 a14 a15 a16 a17 a18 a19 a20 a21).run fun p => some (spec_SameArray_mk p) := by kernel_rfl
theorem spec_SameArray_s : ∀ xs r, spec_SameArray_S xs = some (true, r) → runF tab FT D20 live 56 noLoops xs = some r := by
  intro xs r h
  unfold spec_SameArray_S at h
  split at h
  · simp only [Option.some.injEq, Prod.mk.injEq] at h
    obtain ⟨h1, rfl⟩ := h
    exact fun_told (spec_SameArray_e _ _ _ _ _ _ _ _ _ _ _ _ _ _ _ _ _ _ _ _ _ _) (spec_SameArray_l _ _ _ _ _ _ _ _ _ _ _ _ _ _ _ _ _ _ _ _ _ _) h1
  · cases h
noncomputable def D21 : Dt := also D20 56 spec_SameArray_S
theorem d21 : DOk Go.Proofs.Try.prog tab D21 := d20.also mixed_ok tab_ok names_ok noLoops_ok spec_SameArray_s
/-! spec_SameAttribute -/
noncomputable def spec_SameAttribute_t (a0 : List UInt8) (a1 : Int) (a2 : Int) (a3 : Bool) (a4 : Bool) (a5 : List (List TC)) (a6 : List (List TC)) (a7 : List (List TC)) (a8 : List (List TC)) (a9 : Int) (a10 : List (List TC)) (a11 : List UInt8) (a12 : List UInt8) (a13 : Int) (a14 : Int) (a15 : Bool) (a16 : Bool) (a17 : List (List TC)) (a18 : List (List TC)) (a19 : List (List TC)) (a20 : List (List TC)) (a21 : Int) (a22 : List (List TC)) (a23 : List UInt8) : Tr (Bool) := (.ite ((a0 == a12) = true) (.ite ((spec_SameArray_c a1 a2 a3 a4 a5 a6 a7 a8 a9 a10 a11 a13 a14 a15 a16 a17 a18 a19 a20 a21 a22 a23) = true) (.ok (spec_SameArray_v a1 a2 a3 a4 a5 a6 a7 a8 a9 a10 a11 a13 a14 a15 a16 a17 a18 a19 a20 a21 a22 a23))
   .no)
  (.ok false))
def spec_SameAttribute_mk (p : Bool) : Res := [(false, [⟨.bool, .sh, TC.b p⟩])]
noncomputable def spec_SameAttribute_c (a0 : List UInt8) (a1 : Int) (a2 : Int) (a3 : Bool) (a4 : Bool) (a5 : List (List TC)) (a6 : List (List TC)) (a7 : List (List TC)) (a8 : List (List TC)) (a9 : Int) (a10 : List (List TC)) (a11 : List UInt8) (a12 : List UInt8) (a13 : Int) (a14 : Int) (a15 : Bool) (a16 : Bool) (a17 : List (List TC)) (a18 : List (List TC)) (a19 : List (List TC)) (a20 : List (List TC)) (a21 : Int) (a22 : List (List TC)) (a23 : List UInt8) : Bool := (spec_SameArray_c a1 a2 a3 a4 a5 a6 a7 a8 a9 a10 a11 a13 a14 a15 a16 a17 a18 a19 a20 a21 a22 a23)
noncomputable def spec_SameAttribute_v (a0 : List UInt8) (a1 : Int) (a2 : Int) (a3 : Bool) (a4 : Bool) (a5 : List (List TC)) (a6 : List (List TC)) (a7 : List (List TC)) (a8 : List (List TC)) (a9 : Int) (a10 : List (List TC)) (a11 : List UInt8) (a12 : List UInt8) (a13 : Int) (a14 : Int) (a15 : Bool) (a16 : Bool) (a17 : List (List TC)) (a18 : List (List TC)) (a19 : List (List TC)) (a20 : List (List TC)) (a21 : Int) (a22 : List (List TC)) (a23 : List UInt8) : Bool := (bif (a0 == a12) then (spec_SameArray_v a1 a2 a3 a4 a5 a6 a7 a8 a9 a10 a11 a13 a14 a15 a16 a17 a18 a19 a20 a21 a22 a23) else false)
theorem spec_SameAttribute_l (a0 : List UInt8) (a1 : Int) (a2 : Int) (a3 : Bool) (a4 : Bool) (a5 : List (List TC)) (a6 : List (List TC)) (a7 : List (List TC)) (a8 : List (List TC)) (a9 : Int) (a10 : List (List TC)) (a11 : List UInt8) (a12 : List UInt8) (a13 : Int) (a14 : Int) (a15 : Bool) (a16 : Bool) (a17 : List (List TC)) (a18 : List (List TC)) (a19 : List (List TC)) (a20 : List (List TC)) (a21 : Int) (a22 : List (List TC)) (a23 : List UInt8) : (spec_SameAttribute_c a0 a1 a2 a3 a4 a5 a6 a7 a8 a9 a10 a11 a12 a13 a14 a15 a16 a17 a18 a19 a20 a21 a22 a23) = true → (spec_SameAttribute_t a0 a1 a2 a3 a4 a5 a6 a7 a8 a9 a10 a11 a12 a13 a14 a15 a16 a17 a18 a19 a20 a21 a22 a23).val = some (spec_SameAttribute_v a0 a1 a2 a3 a4 a5 a6 a7 a8 a9 a10 a11 a12 a13 a14 a15 a16 a17 a18 a19 a20 a21 a22 a23) := by
  intro h
  have g0 : (spec_SameArray_c a1 a2 a3 a4 a5 a6 a7 a8 a9 a10 a11 a13 a14 a15 a16 a17 a18 a19 a20 a21 a22 a23) = true := h
  unfold spec_SameAttribute_t spec_SameAttribute_v
  exact (Tr.s (Tr.t g0 rfl) rfl)
noncomputable def spec_SameAttribute_S : List Arg → Option (Bool × Res) := fun xs => match xs with
  | [(true, [(.str, TC.s a0), (.int .i64, TC.i a1), (.int .i64, TC.i a2), (.bool, TC.b a3), (.bool, TC.b a4), (.slice 9, TC.l a5), (.slice 2, TC.l a6), (.slice 147, TC.l a7), (.slice 55, TC.l a8), (.int .i64, TC.i a9), (.slice 2, TC.l a10), (.str, TC.s a11)]), (true, [(.str, TC.s a12), (.int .i64, TC.i a13), (.int .i64, TC.i a14), (.bool, TC.b a15), (.bool, TC.b a16), (.slice 9, TC.l a17), (.slice 2, TC.l a18), (.slice 147, TC.l a19), (.slice 55, TC.l a20), (.int .i64, TC.i a21), (.slice 2, TC.l a22), (.str, TC.s a23)])] => some ((spec_SameAttribute_c a0 a1 a2 a3 a4 a5 a6 a7 a8 a9 a10 a11 a12 a13 a14 a15 a16 a17 a18 a19 a20 a21 a22 a23), spec_SameAttribute_mk (spec_SameAttribute_v a0 a1 a2 a3 a4 a5 a6 a7 a8 a9 a10 a11 a12 a13 a14 a15 a16 a17 a18 a19 a20 a21 a22 a23))
  | _ => .none
theorem spec_SameAttribute_e (a0 : List UInt8) (a1 : Int) (a2 : Int) (a3 : Bool) (a4 : Bool) (a5 : List (List TC)) (a6 : List (List TC)) (a7 : List (List TC)) (a8 : List (List TC)) (a9 : Int) (a10 : List (List TC)) (a11 : List UInt8) (a12 : List UInt8) (a13 : Int) (a14 : Int) (a15 : Bool) (a16 : Bool) (a17 : List (List TC)) (a18 : List (List TC)) (a19 : List (List TC)) (a20 : List (List TC)) (a21 : Int) (a22 : List (List TC)) (a23 : List UInt8) : runF tab FT D21 live 23 noLoops [(true, [(.str, TC.s a0), (.int .i64, TC.i a1), (.int .i64, TC.i a2), (.bool, TC.b a3), (.bool, TC.b a4), (.slice 9, TC.l a5), (.slice 2, TC.l a6), (.slice 147, TC.l a7), (.slice 55, TC.l a8), (.int .i64, TC.i a9), (.slice 2, TC.l a10), (.str, TC.s a11)]), (true, [(.str, TC.s a12), (.int .i64, TC.i a13), (.int .i64, TC.i a14), (.bool, TC.b a15), (.bool, TC.b a16), (.slice 9, TC.l a17), (.slice 2, TC.l a18), (.slice 147, TC.l a19), (.slice 55, TC.l a20), (.int .i64, TC.i a21), (.slice 2, TC.l a22), (.str, TC.s a23)])] = (spec_SameAttribute_t a0 a1 a2 a3 a4 a5 a6 a7 a8 a9 a10 a11 a12 a13 a14 a15 a16 a17 a18 a19 a20 a21 a22 a23).run fun p => some (spec_SameAttribute_mk p) := by kernel_rfl
theorem spec_SameAttribute_s : ∀ xs r, spec_SameAttribute_S xs = some (true, r) → runF tab FT D21 live 23 noLoops xs = some r := by
  intro xs r h
  unfold spec_SameAttribute_S at h
  split at h
  · simp only [Option.some.injEq, Prod.mk.injEq] at h
    obtain ⟨h1, rfl⟩ := h
    exact fun_told (spec_SameAttribute_e _ _ _ _ _ _ _ _ _ _ _ _ _ _ _ _ _ _ _ _ _ _ _ _) (spec_SameAttribute_l _ _ _ _ _ _ _ _ _ _ _ _ _ _ _ _ _ _ _ _ _ _ _ _) h1
  · cases h
noncomputable def D22 : Dt := also D21 23 spec_SameAttribute_S
theorem d22 : DOk Go.Proofs.Try.prog tab D22 := d21.also mixed_ok tab_ok names_ok noLoops_ok spec_SameAttribute_s
/-! slices_Equal_string_string -/
abbrev slices_Equal_string_string_4_σ := List (List TC) × List (List TC) × Int × Int
abbrev slices_Equal_string_string_4_ω := (Unit) ⊕ (Unit)
noncomputable def slices_Equal_string_string_4_step (A : List (List TC)) (C : List (List TC)) (m : Int) (i : Int) : Tr (slices_Equal_string_string_4_σ ⊕ slices_Equal_string_string_4_ω) := (.ite ((decide (i < m)) = true) (.ite ((0 : Int) ≤ i ∧ i < (A.length : Int)) (.ite ((0 : Int) ≤ i ∧ i < (C.length : Int)) (.ite ((!((nth (row A i) 0).str == (nth (row C i) 0).str)) = true) (.ok (.inr (.inl ())))
     (.ok (.inl (A, C, m, (IntKind.wrap .i64 (i + (1 : Int)))))))
    .no)
   .no)
  (.ok (.inr (.inr ()))))
noncomputable def slices_Equal_string_string_4_st : slices_Equal_string_string_4_σ → Tr (slices_Equal_string_string_4_σ ⊕ slices_Equal_string_string_4_ω) := fun x => (slices_Equal_string_string_4_step (x.1) (x.2.1) (x.2.2.1) (x.2.2.2))
noncomputable def slices_Equal_string_string_k4_1 (A : List (List TC)) (C : List (List TC)) (m : Int) (i : Int) : Bool := allEq E_9 A C
noncomputable def slices_Equal_string_string_o4_2 (A : List (List TC)) (C : List (List TC)) (m : Int) (i : Int) : Bool := is (A.length = C.length ∧ i = 0 ∧ Typed tab (.slice 9) (.l A) ∧ m = (A.length : Int))
noncomputable def slices_Equal_string_string_o4_3 (A : List (List TC)) (C : List (List TC)) (m : Int) (i : Int) : Bool := is (A.length = C.length ∧ i = 0 ∧ Typed tab (.slice 9) (.l A) ∧ m = (A.length : Int))
noncomputable def slices_Equal_string_string_4_fin (A : List (List TC)) (C : List (List TC)) (m : Int) (i : Int) : Told slices_Equal_string_string_4_ω := (.br (slices_Equal_string_string_k4_1 A C m i) (.leaf (slices_Equal_string_string_o4_2 A C m i) (.inr ())) (.leaf (slices_Equal_string_string_o4_3 A C m i) (.inl ())))
def slices_Equal_string_string_4_sl (x : slices_Equal_string_string_4_σ) : List Slot := [⟨.val false [⟨.slice 9, .sh, TC.l (x.1)⟩], ⟨0, 0⟩⟩, ⟨.val false [⟨.slice 9, .sh, TC.l (x.2.1)⟩], ⟨0, 0⟩⟩, ⟨.val false [⟨.int .i64, .sh, TC.i (x.2.2.1)⟩], ⟨0, 0⟩⟩, ⟨.val false [⟨.int .i64, .sh, TC.i (x.2.2.2)⟩], ⟨0, 0⟩⟩]
def slices_Equal_string_string_4_out : slices_Equal_string_string_4_ω → Ex × List Slot := (Sum.elim (fun x => (.ret, [⟨.val false [⟨.bool, .sh, TC.b false⟩], ⟨0, 0⟩⟩])) (fun x => (.exit 0, [Slot.none])))
noncomputable def slices_Equal_string_string_lo4 : List Slot → Option (Told (Ex × List Slot)) := fun s => match s with
  | [⟨.val false [⟨.slice 9, .sh, TC.l A⟩], ⟨0, 0⟩⟩, ⟨.val false [⟨.slice 9, .sh, TC.l C⟩], ⟨0, 0⟩⟩, ⟨.val false [⟨.int .i64, .sh, TC.i m⟩], ⟨0, 0⟩⟩, ⟨.val false [⟨.int .i64, .sh, TC.i i⟩], ⟨0, 0⟩⟩] => some (((slices_Equal_string_string_4_fin A C m i)).map slices_Equal_string_string_4_out)
  | _ => .none
noncomputable def slices_Equal_string_string_lo : LoopTeller := fun r s => bif Nat.beq r 4 then slices_Equal_string_string_lo4 s else .none
theorem slices_Equal_string_string_4_r (A : List (List TC)) (C : List (List TC)) (m : Int) (i : Int) (fuel : Nat) : rounds (rnd tab FT D22 live 102 slices_Equal_string_string_lo 0 4) leave (fuel + 1) (slices_Equal_string_string_4_sl (A, C, m, i)) = ((slices_Equal_string_string_4_step A C m i)).run (goOn (fun s => rounds (rnd tab FT D22 live 102 slices_Equal_string_string_lo 0 4) leave fuel (slices_Equal_string_string_4_sl s)) fun w => some (slices_Equal_string_string_4_out w)) := by kernel_rfl
theorem slices_Equal_string_string_4_h (A : List (List TC)) (C : List (List TC)) (m : Int) (i : Int) (ow : slices_Equal_string_string_4_ω) : ((slices_Equal_string_string_4_fin A C m i)).val = some ow → ∃ fuel, loopN slices_Equal_string_string_4_st fuel (A, C, m, i) = some ow := by
  intro h
  have key : A.length = C.length → Typed tab (.slice 9) (.l A) → loopN slices_Equal_string_string_4_st (A.length + 1) (A, C, (A.length : Int), 0) = some (if allEq E_9 A C = true then .inr () else .inl ()) := by
    intro hl ht
    have hlen : A.length ≤ 140737488351232 := by have := typed_room ht; simp only [show (tab 9).bytes = 16 from rfl] at this; omega
    refine loopN_allEq A C E_9 (fun i => (A, C, (A.length : Int), (i : Int))) _ _ hl (fun i hi => ?_) ?_ A.length 0 (by omega)
    · show (slices_Equal_string_string_4_step A C (A.length : Int) (i : Int)).val = _
      unfold slices_Equal_string_string_4_step
      refine Tr.t (by simp; omega) ?_
      refine Tr.t (by constructor <;> omega) ?_
      refine Tr.t (by constructor <;> omega) ?_
      rw [wrap64 (i := (i : Int) + 1) (by omega) (by omega)]
      rw [Tr.val_br]
      show (if (!(E_9 (A.getD i []) (C.getD i []))) = true then _ else _) = _
      cases E_9 (A.getD i []) (C.getD i []) <;> rfl
    · show (slices_Equal_string_string_4_step A C (A.length : Int) (A.length : Int)).val = _
      refine Tr.n (by simp) ?_
      rfl
  simp only [slices_Equal_string_string_4_fin, Told.val] at h
  cases hk : allEq E_9 A C with
  | true =>
    rw [if_pos (show slices_Equal_string_string_k4_1 A C m i = true from hk)] at h
    split at h
    · rename_i ho
      obtain ⟨hl, rfl, ht, rfl⟩ := is_iff.1 ho
      cases h
      refine ⟨_, (key hl ht).trans ?_⟩
      rw [hk]; rfl
    · cases h
  | false =>
    rw [if_neg (show ¬slices_Equal_string_string_k4_1 A C m i = true from by rw [show slices_Equal_string_string_k4_1 A C m i = allEq E_9 A C from rfl, hk]; simp)] at h
    split at h
    · rename_i ho
      obtain ⟨hl, rfl, ht, rfl⟩ := is_iff.1 ho
      cases h
      refine ⟨_, (key hl ht).trans ?_⟩
      rw [hk]; rfl
    · cases h
theorem slices_Equal_string_string_is4 : LoopIs tab FT D22 live 102 slices_Equal_string_string_lo 0 4 := by
  refine loop_told (sl := slices_Equal_string_string_4_sl) (step := slices_Equal_string_string_4_st) (out := slices_Equal_string_string_4_out) (lor := slices_Equal_string_string_lo4) (fin := fun x => (slices_Equal_string_string_4_fin (x.1) (x.2.1) (x.2.2.1) (x.2.2.2))) (fun _ => rfl) ?_ (fun x n => slices_Equal_string_string_4_r x.1 x.2.1 x.2.2.1 x.2.2.2 n) (fun x ow => slices_Equal_string_string_4_h x.1 x.2.1 x.2.2.1 x.2.2.2 ow)
  intro s t h
  unfold slices_Equal_string_string_lo4 at h
  split at h
  · cases h; exact ⟨(_, _, _, _), rfl, rfl⟩
  · cases h
noncomputable def slices_Equal_string_string_t (A : List (List TC)) (C : List (List TC)) : Tr (Bool) := (.ite ((!((A.length : Int) == (C.length : Int))) = true) (.ok false)
  (.ite ((slices_Equal_string_string_k4_1 A C (A.length : Int) (0 : Int)) = true) (.ite ((slices_Equal_string_string_o4_2 A C (A.length : Int) (0 : Int)) = true) (.ok true)
    .no)
   (.ite ((slices_Equal_string_string_o4_3 A C (A.length : Int) (0 : Int)) = true) (.ok false)
    .no)))
def slices_Equal_string_string_mk (p : Bool) : Res := [(false, [⟨.bool, .sh, TC.b p⟩])]
noncomputable def slices_Equal_string_string_c (A : List (List TC)) (C : List (List TC)) : Bool := is (Typed tab (.slice 9) (.l A))
noncomputable def slices_Equal_string_string_v (A : List (List TC)) (C : List (List TC)) : Bool := allEq E_9 A C
theorem slices_Equal_string_string_l (A : List (List TC)) (C : List (List TC)) : (slices_Equal_string_string_c A C) = true → (slices_Equal_string_string_t A C).val = some (slices_Equal_string_string_v A C) := by
  intro h
  have ht := is_iff.1 h
  unfold slices_Equal_string_string_t
  by_cases hl : A.length = C.length
  · refine Tr.n (by simp [hl]) ?_
    cases hk : allEq E_9 A C with
    | true =>
      refine Tr.t (show allEq E_9 A C = true from hk) ?_
      refine Tr.t (is_true ⟨hl, rfl, ht, rfl⟩) ?_
      show _ = some (allEq E_9 A C); rw [hk]; rfl
    | false =>
      refine Tr.n (show ¬allEq E_9 A C = true from by rw [hk]; simp) ?_
      refine Tr.t (is_true ⟨hl, rfl, ht, rfl⟩) ?_
      show _ = some (allEq E_9 A C); rw [hk]; rfl
  · refine Tr.t (by simp; omega) ?_
    show _ = some (allEq E_9 A C)
    rw [allEq_ne hl]
    rfl
noncomputable def slices_Equal_string_string_S : List Arg → Option (Bool × Res) := fun xs => match xs with
  | [(false, [(.slice 9, TC.l A)]), (false, [(.slice 9, TC.l C)])] => some ((slices_Equal_string_string_c A C), slices_Equal_string_string_mk (slices_Equal_string_string_v A C))
  | _ => .none
theorem slices_Equal_string_string_e (A : List (List TC)) (C : List (List TC)) : runF tab FT D22 live 102 slices_Equal_string_string_lo [(false, [(.slice 9, TC.l A)]), (false, [(.slice 9, TC.l C)])] = (slices_Equal_string_string_t A C).run fun p => some (slices_Equal_string_string_mk p) := by kernel_rfl
theorem slices_Equal_string_string_s : ∀ xs r, slices_Equal_string_string_S xs = some (true, r) → runF tab FT D22 live 102 slices_Equal_string_string_lo xs = some r := by
  intro xs r h
  unfold slices_Equal_string_string_S at h
  split at h
  · simp only [Option.some.injEq, Prod.mk.injEq] at h
    obtain ⟨h1, rfl⟩ := h
    exact fun_told (slices_Equal_string_string_e _ _) (slices_Equal_string_string_l _ _) h1
  · cases h
noncomputable def D23 : Dt := also D22 102 slices_Equal_string_string_S
theorem d23 : DOk Go.Proofs.Try.prog tab D23 := d22.also mixed_ok tab_ok names_ok (fnLoops_one (by kernel_rfl) slices_Equal_string_string_is4) slices_Equal_string_string_s
/-! slices_Equal_int64_int64 -/
abbrev slices_Equal_int64_int64_4_σ := List (List TC) × List (List TC) × Int × Int
abbrev slices_Equal_int64_int64_4_ω := (Unit) ⊕ (Unit)
noncomputable def slices_Equal_int64_int64_4_step (A : List (List TC)) (C : List (List TC)) (m : Int) (i : Int) : Tr (slices_Equal_int64_int64_4_σ ⊕ slices_Equal_int64_int64_4_ω) := (.ite ((decide (i < m)) = true) (.ite ((0 : Int) ≤ i ∧ i < (A.length : Int)) (.ite ((0 : Int) ≤ i ∧ i < (C.length : Int)) (.ite ((!((nth (row A i) 0).int == (nth (row C i) 0).int)) = true) (.ok (.inr (.inl ())))
     (.ok (.inl (A, C, m, (IntKind.wrap .i64 (i + (1 : Int)))))))
    .no)
   .no)
  (.ok (.inr (.inr ()))))
noncomputable def slices_Equal_int64_int64_4_st : slices_Equal_int64_int64_4_σ → Tr (slices_Equal_int64_int64_4_σ ⊕ slices_Equal_int64_int64_4_ω) := fun x => (slices_Equal_int64_int64_4_step (x.1) (x.2.1) (x.2.2.1) (x.2.2.2))
noncomputable def slices_Equal_int64_int64_k4_1 (A : List (List TC)) (C : List (List TC)) (m : Int) (i : Int) : Bool := allEq E_2 A C
noncomputable def slices_Equal_int64_int64_o4_2 (A : List (List TC)) (C : List (List TC)) (m : Int) (i : Int) : Bool := is (A.length = C.length ∧ i = 0 ∧ Typed tab (.slice 2) (.l A) ∧ m = (A.length : Int))
noncomputable def slices_Equal_int64_int64_o4_3 (A : List (List TC)) (C : List (List TC)) (m : Int) (i : Int) : Bool := is (A.length = C.length ∧ i = 0 ∧ Typed tab (.slice 2) (.l A) ∧ m = (A.length : Int))
noncomputable def slices_Equal_int64_int64_4_fin (A : List (List TC)) (C : List (List TC)) (m : Int) (i : Int) : Told slices_Equal_int64_int64_4_ω := (.br (slices_Equal_int64_int64_k4_1 A C m i) (.leaf (slices_Equal_int64_int64_o4_2 A C m i) (.inr ())) (.leaf (slices_Equal_int64_int64_o4_3 A C m i) (.inl ())))
def slices_Equal_int64_int64_4_sl (x : slices_Equal_int64_int64_4_σ) : List Slot := [⟨.val false [⟨.slice 2, .sh, TC.l (x.1)⟩], ⟨0, 0⟩⟩, ⟨.val false [⟨.slice 2, .sh, TC.l (x.2.1)⟩], ⟨0, 0⟩⟩, ⟨.val false [⟨.int .i64, .sh, TC.i (x.2.2.1)⟩], ⟨0, 0⟩⟩, ⟨.val false [⟨.int .i64, .sh, TC.i (x.2.2.2)⟩], ⟨0, 0⟩⟩]
def slices_Equal_int64_int64_4_out : slices_Equal_int64_int64_4_ω → Ex × List Slot := (Sum.elim (fun x => (.ret, [⟨.val false [⟨.bool, .sh, TC.b false⟩], ⟨0, 0⟩⟩])) (fun x => (.exit 0, [Slot.none])))
noncomputable def slices_Equal_int64_int64_lo4 : List Slot → Option (Told (Ex × List Slot)) := fun s => match s with
  | [⟨.val false [⟨.slice 2, .sh, TC.l A⟩], ⟨0, 0⟩⟩, ⟨.val false [⟨.slice 2, .sh, TC.l C⟩], ⟨0, 0⟩⟩, ⟨.val false [⟨.int .i64, .sh, TC.i m⟩], ⟨0, 0⟩⟩, ⟨.val false [⟨.int .i64, .sh, TC.i i⟩], ⟨0, 0⟩⟩] => some (((slices_Equal_int64_int64_4_fin A C m i)).map slices_Equal_int64_int64_4_out)
  | _ => .none
noncomputable def slices_Equal_int64_int64_lo : LoopTeller := fun r s => bif Nat.beq r 4 then slices_Equal_int64_int64_lo4 s else .none
theorem slices_Equal_int64_int64_4_r (A : List (List TC)) (C : List (List TC)) (m : Int) (i : Int) (fuel : Nat) : rounds (rnd tab FT D23 live 74 slices_Equal_int64_int64_lo 0 4) leave (fuel + 1) (slices_Equal_int64_int64_4_sl (A, C, m, i)) = ((slices_Equal_int64_int64_4_step A C m i)).run (goOn (fun s => rounds (rnd tab FT D23 live 74 slices_Equal_int64_int64_lo 0 4) leave fuel (slices_Equal_int64_int64_4_sl s)) fun w => some (slices_Equal_int64_int64_4_out w)) := by kernel_rfl
theorem slices_Equal_int64_int64_4_h (A : List (List TC)) (C : List (List TC)) (m : Int) (i : Int) (ow : slices_Equal_int64_int64_4_ω) : ((slices_Equal_int64_int64_4_fin A C m i)).val = some ow → ∃ fuel, loopN slices_Equal_int64_int64_4_st fuel (A, C, m, i) = some ow := by
  intro h
  have key : A.length = C.length → Typed tab (.slice 2) (.l A) → loopN slices_Equal_int64_int64_4_st (A.length + 1) (A, C, (A.length : Int), 0) = some (if allEq E_2 A C = true then .inr () else .inl ()) := by
    intro hl ht
    have hlen : A.length ≤ 140737488351232 := by have := typed_room ht; simp only [show (tab 2).bytes = 8 from rfl] at this; omega
    refine loopN_allEq A C E_2 (fun i => (A, C, (A.length : Int), (i : Int))) _ _ hl (fun i hi => ?_) ?_ A.length 0 (by omega)
    · show (slices_Equal_int64_int64_4_step A C (A.length : Int) (i : Int)).val = _
      unfold slices_Equal_int64_int64_4_step
      refine Tr.t (by simp; omega) ?_
      refine Tr.t (by constructor <;> omega) ?_
      refine Tr.t (by constructor <;> omega) ?_
      rw [wrap64 (i := (i : Int) + 1) (by omega) (by omega)]
      rw [Tr.val_br]
      show (if (!(E_2 (A.getD i []) (C.getD i []))) = true then _ else _) = _
      cases E_2 (A.getD i []) (C.getD i []) <;> rfl
    · show (slices_Equal_int64_int64_4_step A C (A.length : Int) (A.length : Int)).val = _
      refine Tr.n (by simp) ?_
      rfl
  simp only [slices_Equal_int64_int64_4_fin, Told.val] at h
  cases hk : allEq E_2 A C with
  | true =>
    rw [if_pos (show slices_Equal_int64_int64_k4_1 A C m i = true from hk)] at h
    split at h
    · rename_i ho
      obtain ⟨hl, rfl, ht, rfl⟩ := is_iff.1 ho
      cases h
      refine ⟨_, (key hl ht).trans ?_⟩
      rw [hk]; rfl
    · cases h
  | false =>
    rw [if_neg (show ¬slices_Equal_int64_int64_k4_1 A C m i = true from by rw [show slices_Equal_int64_int64_k4_1 A C m i = allEq E_2 A C from rfl, hk]; simp)] at h
    split at h
    · rename_i ho
      obtain ⟨hl, rfl, ht, rfl⟩ := is_iff.1 ho
      cases h
      refine ⟨_, (key hl ht).trans ?_⟩
      rw [hk]; rfl
    · cases h
theorem slices_Equal_int64_int64_is4 : LoopIs tab FT D23 live 74 slices_Equal_int64_int64_lo 0 4 := by
  refine loop_told (sl := slices_Equal_int64_int64_4_sl) (step := slices_Equal_int64_int64_4_st) (out := slices_Equal_int64_int64_4_out) (lor := slices_Equal_int64_int64_lo4) (fin := fun x => (slices_Equal_int64_int64_4_fin (x.1) (x.2.1) (x.2.2.1) (x.2.2.2))) (fun _ => rfl) ?_ (fun x n => slices_Equal_int64_int64_4_r x.1 x.2.1 x.2.2.1 x.2.2.2 n) (fun x ow => slices_Equal_int64_int64_4_h x.1 x.2.1 x.2.2.1 x.2.2.2 ow)
  intro s t h
  unfold slices_Equal_int64_int64_lo4 at h
  split at h
  · cases h; exact ⟨(_, _, _, _), rfl, rfl⟩
  · cases h
noncomputable def slices_Equal_int64_int64_t (A : List (List TC)) (C : List (List TC)) : Tr (Bool) := (.ite ((!((A.length : Int) == (C.length : Int))) = true) (.ok false)
  (.ite ((slices_Equal_int64_int64_k4_1 A C (A.length : Int) (0 : Int)) = true) (.ite ((slices_Equal_int64_int64_o4_2 A C (A.length : Int) (0 : Int)) = true) (.ok true)
    .no)
   (.ite ((slices_Equal_int64_int64_o4_3 A C (A.length : Int) (0 : Int)) = true) (.ok false)
    .no)))
def slices_Equal_int64_int64_mk (p : Bool) : Res := [(false, [⟨.bool, .sh, TC.b p⟩])]
noncomputable def slices_Equal_int64_int64_c (A : List (List TC)) (C : List (List TC)) : Bool := is (Typed tab (.slice 2) (.l A))
noncomputable def slices_Equal_int64_int64_v (A : List (List TC)) (C : List (List TC)) : Bool := allEq E_2 A C
theorem slices_Equal_int64_int64_l (A : List (List TC)) (C : List (List TC)) : (slices_Equal_int64_int64_c A C) = true → (slices_Equal_int64_int64_t A C).val = some (slices_Equal_int64_int64_v A C) := by
  intro h
  have ht := is_iff.1 h
  unfold slices_Equal_int64_int64_t
  by_cases hl : A.length = C.length
  · refine Tr.n (by simp [hl]) ?_
    cases hk : allEq E_2 A C with
    | true =>
      refine Tr.t (show allEq E_2 A C = true from hk) ?_
      refine Tr.t (is_true ⟨hl, rfl, ht, rfl⟩) ?_
      show _ = some (allEq E_2 A C); rw [hk]; rfl
    | false =>
      refine Tr.n (show ¬allEq E_2 A C = true from by rw [hk]; simp) ?_
      refine Tr.t (is_true ⟨hl, rfl, ht, rfl⟩) ?_
      show _ = some (allEq E_2 A C); rw [hk]; rfl
  · refine Tr.t (by simp; omega) ?_
    show _ = some (allEq E_2 A C)
    rw [allEq_ne hl]
    rfl
noncomputable def slices_Equal_int64_int64_S : List Arg → Option (Bool × Res) := fun xs => match xs with
  | [(false, [(.slice 2, TC.l A)]), (false, [(.slice 2, TC.l C)])] => some ((slices_Equal_int64_int64_c A C), slices_Equal_int64_int64_mk (slices_Equal_int64_int64_v A C))
  | _ => .none
theorem slices_Equal_int64_int64_e (A : List (List TC)) (C : List (List TC)) : runF tab FT D23 live 74 slices_Equal_int64_int64_lo [(false, [(.slice 2, TC.l A)]), (false, [(.slice 2, TC.l C)])] = (slices_Equal_int64_int64_t A C).run fun p => some (slices_Equal_int64_int64_mk p) := by kernel_rfl
theorem slices_Equal_int64_int64_s : ∀ xs r, slices_Equal_int64_int64_S xs = some (true, r) → runF tab FT D23 live 74 slices_Equal_int64_int64_lo xs = some r := by
  intro xs r h
  unfold slices_Equal_int64_int64_S at h
  split at h
  · simp only [Option.some.injEq, Prod.mk.injEq] at h
    obtain ⟨h1, rfl⟩ := h
    exact fun_told (slices_Equal_int64_int64_e _ _) (slices_Equal_int64_int64_l _ _) h1
  · cases h
noncomputable def D24 : Dt := also D23 74 slices_Equal_int64_int64_S
theorem d24 : DOk Go.Proofs.Try.prog tab D24 := d23.also mixed_ok tab_ok names_ok (fnLoops_one (by kernel_rfl) slices_Equal_int64_int64_is4) slices_Equal_int64_int64_s
/-! impl_SameType calls itself -/




section
class impl_SameType_O where n : Nat
variable [i_impl_SameType : impl_SameType_O]
noncomputable def impl_SameType_rc (k : Int) (s : Int) (sg : Bool) (bg : Bool) (NA : List (List TC)) (NU : List (List TC)) (ME : List (List TC)) (BA : List (List TC)) (ct : Int) (k2 : Int) (s2 : Int) (sg2 : Bool) (bg2 : Bool) (NA2 : List (List TC)) (NU2 : List (List TC)) (ME2 : List (List TC)) (BA2 : List (List TC)) (ct2 : Int) : Bool := is (max (rowsDep ME) (rowsDep BA) < impl_SameType_O.n ∧ Typed tab (.slice 9) (.l NA) ∧ Typed tab (.slice 2) (.l NU) ∧ Typed tab (.slice 147) (.l ME) ∧ Typed tab (.slice 55) (.l BA) ∧ Typed tab (.slice 9) (.l NA2) ∧ Typed tab (.slice 2) (.l NU2) ∧ Typed tab (.slice 147) (.l ME2) ∧ Typed tab (.slice 55) (.l BA2))
noncomputable def impl_SameType_rv (k : Int) (s : Int) (sg : Bool) (bg : Bool) (NA : List (List TC)) (NU : List (List TC)) (ME : List (List TC)) (BA : List (List TC)) (ct : Int) (k2 : Int) (s2 : Int) (sg2 : Bool) (bg2 : Bool) (NA2 : List (List TC)) (NU2 : List (List TC)) (ME2 : List (List TC)) (BA2 : List (List TC)) (ct2 : Int) : Bool := sameV k s sg bg NA NU ME BA ct k2 s2 sg2 bg2 NA2 NU2 ME2 BA2 ct2
def impl_SameType_rmk (p : Bool) : Res := [(false, [⟨.bool, .sh, TC.b p⟩])]
noncomputable def impl_SameType_rS : List Arg → Option (Bool × Res) := fun xs => match xs with
  | [(true, [(.int .i64, TC.i k), (.int .i64, TC.i s), (.bool, TC.b sg), (.bool, TC.b bg), (.slice 9, TC.l NA), (.slice 2, TC.l NU), (.slice 147, TC.l ME), (.slice 55, TC.l BA), (.int .i64, TC.i ct)]), (true, [(.int .i64, TC.i k2), (.int .i64, TC.i s2), (.bool, TC.b sg2), (.bool, TC.b bg2), (.slice 9, TC.l NA2), (.slice 2, TC.l NU2), (.slice 147, TC.l ME2), (.slice 55, TC.l BA2), (.int .i64, TC.i ct2)])] => some ((impl_SameType_rc k s sg bg NA NU ME BA ct k2 s2 sg2 bg2 NA2 NU2 ME2 BA2 ct2), impl_SameType_rmk (impl_SameType_rv k s sg bg NA NU ME BA ct k2 s2 sg2 bg2 NA2 NU2 ME2 BA2 ct2))
  | _ => .none
noncomputable def D25 : Dt := also D24 72 impl_SameType_rS
class impl_SameType_G : Prop where ok : DOk Go.Proofs.Try.prog tab D25
variable [g_impl_SameType : impl_SameType_G]
theorem d25 : DOk Go.Proofs.Try.prog tab D25 := impl_SameType_G.ok
/-! impl_sameMember -/
noncomputable def impl_sameMember_t (a0 : List UInt8) (a1 : Int) (a2 : Int) (a3 : Int) (a4 : Bool) (a5 : Bool) (a6 : List (List TC)) (a7 : List (List TC)) (a8 : List (List TC)) (a9 : List (List TC)) (a10 : Int) (a11 : List UInt8) (a12 : Int) (a13 : Int) (a14 : Int) (a15 : Bool) (a16 : Bool) (a17 : List (List TC)) (a18 : List (List TC)) (a19 : List (List TC)) (a20 : List (List TC)) (a21 : Int) : Tr (Bool) := (.ite ((a0 == a11) = true) (.ite ((a1 == a12) = true) (.ite ((impl_SameType_rc a2 a3 a4 a5 a6 a7 a8 a9 a10 a13 a14 a15 a16 a17 a18 a19 a20 a21) = true) (.ok (impl_SameType_rv a2 a3 a4 a5 a6 a7 a8 a9 a10 a13 a14 a15 a16 a17 a18 a19 a20 a21))
    .no)
   (.ok false))
  (.ok false))
def impl_sameMember_mk (p : Bool) : Res := [(false, [⟨.bool, .sh, TC.b p⟩])]
noncomputable def impl_sameMember_c (a0 : List UInt8) (a1 : Int) (a2 : Int) (a3 : Int) (a4 : Bool) (a5 : Bool) (a6 : List (List TC)) (a7 : List (List TC)) (a8 : List (List TC)) (a9 : List (List TC)) (a10 : Int) (a11 : List UInt8) (a12 : Int) (a13 : Int) (a14 : Int) (a15 : Bool) (a16 : Bool) (a17 : List (List TC)) (a18 : List (List TC)) (a19 : List (List TC)) (a20 : List (List TC)) (a21 : Int) : Bool := (bif (a0 == a11) then (bif (a1 == a12) then ((impl_SameType_rc a2 a3 a4 a5 a6 a7 a8 a9 a10 a13 a14 a15 a16 a17 a18 a19 a20 a21) && true) else true) else true)
noncomputable def impl_sameMember_v (a0 : List UInt8) (a1 : Int) (a2 : Int) (a3 : Int) (a4 : Bool) (a5 : Bool) (a6 : List (List TC)) (a7 : List (List TC)) (a8 : List (List TC)) (a9 : List (List TC)) (a10 : Int) (a11 : List UInt8) (a12 : Int) (a13 : Int) (a14 : Int) (a15 : Bool) (a16 : Bool) (a17 : List (List TC)) (a18 : List (List TC)) (a19 : List (List TC)) (a20 : List (List TC)) (a21 : Int) : Bool := (bif (a0 == a11) then (bif (a1 == a12) then (impl_SameType_rv a2 a3 a4 a5 a6 a7 a8 a9 a10 a13 a14 a15 a16 a17 a18 a19 a20 a21) else false) else false)
theorem impl_sameMember_l (a0 : List UInt8) (a1 : Int) (a2 : Int) (a3 : Int) (a4 : Bool) (a5 : Bool) (a6 : List (List TC)) (a7 : List (List TC)) (a8 : List (List TC)) (a9 : List (List TC)) (a10 : Int) (a11 : List UInt8) (a12 : Int) (a13 : Int) (a14 : Int) (a15 : Bool) (a16 : Bool) (a17 : List (List TC)) (a18 : List (List TC)) (a19 : List (List TC)) (a20 : List (List TC)) (a21 : Int) : (impl_sameMember_c a0 a1 a2 a3 a4 a5 a6 a7 a8 a9 a10 a11 a12 a13 a14 a15 a16 a17 a18 a19 a20 a21) = true → (impl_sameMember_t a0 a1 a2 a3 a4 a5 a6 a7 a8 a9 a10 a11 a12 a13 a14 a15 a16 a17 a18 a19 a20 a21).val = some (impl_sameMember_v a0 a1 a2 a3 a4 a5 a6 a7 a8 a9 a10 a11 a12 a13 a14 a15 a16 a17 a18 a19 a20 a21) := by
  unfold impl_sameMember_t impl_sameMember_v impl_sameMember_c
  exact fun h => (Tr.ss h (fun h => (Tr.ss h (fun h => (Tr.gb h fun h => rfl)) (fun h => rfl))) (fun h => rfl))
noncomputable def impl_sameMember_S : List Arg → Option (Bool × Res) := fun xs => match xs with
  | [(true, [(.str, TC.s a0), (.int .i64, TC.i a1), (.int .i64, TC.i a2), (.int .i64, TC.i a3), (.bool, TC.b a4), (.bool, TC.b a5), (.slice 9, TC.l a6), (.slice 2, TC.l a7), (.slice 147, TC.l a8), (.slice 55, TC.l a9), (.int .i64, TC.i a10)]), (true, [(.str, TC.s a11), (.int .i64, TC.i a12), (.int .i64, TC.i a13), (.int .i64, TC.i a14), (.bool, TC.b a15), (.bool, TC.b a16), (.slice 9, TC.l a17), (.slice 2, TC.l a18), (.slice 147, TC.l a19), (.slice 55, TC.l a20), (.int .i64, TC.i a21)])] => some ((impl_sameMember_c a0 a1 a2 a3 a4 a5 a6 a7 a8 a9 a10 a11 a12 a13 a14 a15 a16 a17 a18 a19 a20 a21), impl_sameMember_mk (impl_sameMember_v a0 a1 a2 a3 a4 a5 a6 a7 a8 a9 a10 a11 a12 a13 a14 a15 a16 a17 a18 a19 a20 a21))
  | _ => .none
theorem impl_sameMember_e (a0 : List UInt8) (a1 : Int) (a2 : Int) (a3 : Int) (a4 : Bool) (a5 : Bool) (a6 : List (List TC)) (a7 : List (List TC)) (a8 : List (List TC)) (a9 : List (List TC)) (a10 : Int) (a11 : List UInt8) (a12 : Int) (a13 : Int) (a14 : Int) (a15 : Bool) (a16 : Bool) (a17 : List (List TC)) (a18 : List (List TC)) (a19 : List (List TC)) (a20 : List (List TC)) (a21 : Int) : runF tab FT D25 live 104 noLoops [(true, [(.str, TC.s a0), (.int .i64, TC.i a1), (.int .i64, TC.i a2), (.int .i64, TC.i a3), (.bool, TC.b a4), (.bool, TC.b a5), (.slice 9, TC.l a6), (.slice 2, TC.l a7), (.slice 147, TC.l a8), (.slice 55, TC.l a9), (.int .i64, TC.i a10)]), (true, [(.str, TC.s a11), (.int .i64, TC.i a12), (.int .i64, TC.i a13), (.int .i64, TC.i a14), (.bool, TC.b a15), (.bool, TC.b a16), (.slice 9, TC.l a17), (.slice 2, TC.l a18), (.slice 147, TC.l a19), (.slice 55, TC.l a20), (.int .i64, TC.i a21)])] = (impl_sameMember_t a0 a1 a2 a3 a4 a5 a6 a7 a8 a9 a10 a11 a12 a13 a14 a15 a16 a17 a18 a19 a20 a21).run fun p => some (impl_sameMember_mk p) := by kernel_rfl
theorem impl_sameMember_s : ∀ xs r, impl_sameMember_S xs = some (true, r) → runF tab FT D25 live 104 noLoops xs = some r := by
  intro xs r h
  unfold impl_sameMember_S at h
  split at h
  · simp only [Option.some.injEq, Prod.mk.injEq] at h
    obtain ⟨h1, rfl⟩ := h
    exact fun_told (impl_sameMember_e _ _ _ _ _ _ _ _ _ _ _ _ _ _ _ _ _ _ _ _ _ _) (impl_sameMember_l _ _ _ _ _ _ _ _ _ _ _ _ _ _ _ _ _ _ _ _ _ _) h1
  · cases h
noncomputable def D26 : Dt := also D25 104 impl_sameMember_S
theorem d26 : DOk Go.Proofs.Try.prog tab D26 := d25.also mixed_ok tab_ok names_ok noLoops_ok impl_sameMember_s
/-! slices_EqualFunc_impl_Member_impl_Member_impl_Member_impl_Member -/
noncomputable def slices_EqualFunc_impl_Member_impl_Member_impl_Member_impl_Member_E (x y : List TC) : Bool := impl_sameMember_v ((nth x 0).str) ((nth x 1).int) ((nth x 2).int) ((nth x 3).int) ((nth x 4).bool) ((nth x 5).bool) ((nth x 6).list) ((nth x 7).list) ((nth x 8).list) ((nth x 9).list) ((nth x 10).int) ((nth y 0).str) ((nth y 1).int) ((nth y 2).int) ((nth y 3).int) ((nth y 4).bool) ((nth y 5).bool) ((nth y 6).list) ((nth y 7).list) ((nth y 8).list) ((nth y 9).list) ((nth y 10).int)
abbrev slices_EqualFunc_impl_Member_impl_Member_impl_Member_impl_Member_4_σ := List (List TC) × List (List TC) × Int × Int
abbrev slices_EqualFunc_impl_Member_impl_Member_impl_Member_impl_Member_4_ω := (Unit) ⊕ (Unit)
noncomputable def slices_EqualFunc_impl_Member_impl_Member_impl_Member_impl_Member_4_step (C : List (List TC)) (A : List (List TC)) (m : Int) (i : Int) : Tr (slices_EqualFunc_impl_Member_impl_Member_impl_Member_impl_Member_4_σ ⊕ slices_EqualFunc_impl_Member_impl_Member_impl_Member_impl_Member_4_ω) := (.ite ((decide (i < m)) = true) (.ite ((0 : Int) ≤ i ∧ i < (A.length : Int)) (.ite ((0 : Int) ≤ i ∧ i < (C.length : Int)) (.ite ((impl_sameMember_c ((nth (row A i) 0).str) ((nth (row A i) 1).int) ((nth (row A i) 2).int) ((nth (row A i) 3).int) ((nth (row A i) 4).bool) ((nth (row A i) 5).bool) ((nth (row A i) 6).list) ((nth (row A i) 7).list) ((nth (row A i) 8).list) ((nth (row A i) 9).list) ((nth (row A i) 10).int) ((nth (row C i) 0).str) ((nth (row C i) 1).int) ((nth (row C i) 2).int) ((nth (row C i) 3).int) ((nth (row C i) 4).bool) ((nth (row C i) 5).bool) ((nth (row C i) 6).list) ((nth (row C i) 7).list) ((nth (row C i) 8).list) ((nth (row C i) 9).list) ((nth (row C i) 10).int)) = true) (.ite ((!(impl_sameMember_v ((nth (row A i) 0).str) ((nth (row A i) 1).int) ((nth (row A i) 2).int) ((nth (row A i) 3).int) ((nth (row A i) 4).bool) ((nth (row A i) 5).bool) ((nth (row A i) 6).list) ((nth (row A i) 7).list) ((nth (row A i) 8).list) ((nth (row A i) 9).list) ((nth (row A i) 10).int) ((nth (row C i) 0).str) ((nth (row C i) 1).int) ((nth (row C i) 2).int) ((nth (row C i) 3).int) ((nth (row C i) 4).bool) ((nth (row C i) 5).bool) ((nth (row C i) 6).list) ((nth (row C i) 7).list) ((nth (row C i) 8).list) ((nth (row C i) 9).list) ((nth (row C i) 10).int))) = true) (.ok (.inr (.inl ())))
      (.ok (.inl (C, A, m, (IntKind.wrap .i64 (i + (1 : Int)))))))
     .no)
    .no)
   .no)
  (.ok (.inr (.inr ()))))
noncomputable def slices_EqualFunc_impl_Member_impl_Member_impl_Member_impl_Member_4_st : slices_EqualFunc_impl_Member_impl_Member_impl_Member_impl_Member_4_σ → Tr (slices_EqualFunc_impl_Member_impl_Member_impl_Member_impl_Member_4_σ ⊕ slices_EqualFunc_impl_Member_impl_Member_impl_Member_impl_Member_4_ω) := fun x => (slices_EqualFunc_impl_Member_impl_Member_impl_Member_impl_Member_4_step (x.1) (x.2.1) (x.2.2.1) (x.2.2.2))
noncomputable def slices_EqualFunc_impl_Member_impl_Member_impl_Member_impl_Member_k4_1 (C : List (List TC)) (A : List (List TC)) (m : Int) (i : Int) : Bool := allEq slices_EqualFunc_impl_Member_impl_Member_impl_Member_impl_Member_E A C
noncomputable def slices_EqualFunc_impl_Member_impl_Member_impl_Member_impl_Member_o4_2 (C : List (List TC)) (A : List (List TC)) (m : Int) (i : Int) : Bool := is (A.length = C.length ∧ i = 0 ∧ Typed tab (.slice 147) (.l A) ∧ m = (A.length : Int) ∧ (∀ x y : List TC, x ∈ A → y ∈ C → impl_sameMember_c ((nth x 0).str) ((nth x 1).int) ((nth x 2).int) ((nth x 3).int) ((nth x 4).bool) ((nth x 5).bool) ((nth x 6).list) ((nth x 7).list) ((nth x 8).list) ((nth x 9).list) ((nth x 10).int) ((nth y 0).str) ((nth y 1).int) ((nth y 2).int) ((nth y 3).int) ((nth y 4).bool) ((nth y 5).bool) ((nth y 6).list) ((nth y 7).list) ((nth y 8).list) ((nth y 9).list) ((nth y 10).int) = true))
noncomputable def slices_EqualFunc_impl_Member_impl_Member_impl_Member_impl_Member_o4_3 (C : List (List TC)) (A : List (List TC)) (m : Int) (i : Int) : Bool := is (A.length = C.length ∧ i = 0 ∧ Typed tab (.slice 147) (.l A) ∧ m = (A.length : Int) ∧ (∀ x y : List TC, x ∈ A → y ∈ C → impl_sameMember_c ((nth x 0).str) ((nth x 1).int) ((nth x 2).int) ((nth x 3).int) ((nth x 4).bool) ((nth x 5).bool) ((nth x 6).list) ((nth x 7).list) ((nth x 8).list) ((nth x 9).list) ((nth x 10).int) ((nth y 0).str) ((nth y 1).int) ((nth y 2).int) ((nth y 3).int) ((nth y 4).bool) ((nth y 5).bool) ((nth y 6).list) ((nth y 7).list) ((nth y 8).list) ((nth y 9).list) ((nth y 10).int) = true))
noncomputable def slices_EqualFunc_impl_Member_impl_Member_impl_Member_impl_Member_4_fin (C : List (List TC)) (A : List (List TC)) (m : Int) (i : Int) : Told slices_EqualFunc_impl_Member_impl_Member_impl_Member_impl_Member_4_ω := (.br (slices_EqualFunc_impl_Member_impl_Member_impl_Member_impl_Member_k4_1 C A m i) (.leaf (slices_EqualFunc_impl_Member_impl_Member_impl_Member_impl_Member_o4_2 C A m i) (.inr ())) (.leaf (slices_EqualFunc_impl_Member_impl_Member_impl_Member_impl_Member_o4_3 C A m i) (.inl ())))
def slices_EqualFunc_impl_Member_impl_Member_impl_Member_impl_Member_4_sl (x : slices_EqualFunc_impl_Member_impl_Member_impl_Member_impl_Member_4_σ) : List Slot := [⟨.val false [⟨.slice 147, .sh, TC.l (x.1)⟩], ⟨0, 0⟩⟩, ⟨.val false [⟨.func, .sh, TC.f 104 []⟩], ⟨0, 0⟩⟩, ⟨.val false [⟨.slice 147, .sh, TC.l (x.2.1)⟩], ⟨0, 0⟩⟩, ⟨.val false [⟨.int .i64, .sh, TC.i (x.2.2.1)⟩], ⟨0, 0⟩⟩, ⟨.val false [⟨.int .i64, .sh, TC.i (x.2.2.2)⟩], ⟨0, 0⟩⟩]
def slices_EqualFunc_impl_Member_impl_Member_impl_Member_impl_Member_4_out : slices_EqualFunc_impl_Member_impl_Member_impl_Member_impl_Member_4_ω → Ex × List Slot := (Sum.elim (fun x => (.ret, [⟨.val false [⟨.bool, .sh, TC.b false⟩], ⟨0, 0⟩⟩])) (fun x => (.exit 0, [Slot.none])))
noncomputable def slices_EqualFunc_impl_Member_impl_Member_impl_Member_impl_Member_lo4 : List Slot → Option (Told (Ex × List Slot)) := fun s => match s with
  | [⟨.val false [⟨.slice 147, .sh, TC.l C⟩], ⟨0, 0⟩⟩, ⟨.val false [⟨.func, .sh, TC.f 104 []⟩], ⟨0, 0⟩⟩, ⟨.val false [⟨.slice 147, .sh, TC.l A⟩], ⟨0, 0⟩⟩, ⟨.val false [⟨.int .i64, .sh, TC.i m⟩], ⟨0, 0⟩⟩, ⟨.val false [⟨.int .i64, .sh, TC.i i⟩], ⟨0, 0⟩⟩] => some (((slices_EqualFunc_impl_Member_impl_Member_impl_Member_impl_Member_4_fin C A m i)).map slices_EqualFunc_impl_Member_impl_Member_impl_Member_impl_Member_4_out)
  | _ => .none
noncomputable def slices_EqualFunc_impl_Member_impl_Member_impl_Member_impl_Member_lo : LoopTeller := fun r s => bif Nat.beq r 4 then slices_EqualFunc_impl_Member_impl_Member_impl_Member_impl_Member_lo4 s else .none
theorem slices_EqualFunc_impl_Member_impl_Member_impl_Member_impl_Member_4_r (C : List (List TC)) (A : List (List TC)) (m : Int) (i : Int) (fuel : Nat) : rounds (rnd tab FT D26 live 103 slices_EqualFunc_impl_Member_impl_Member_impl_Member_impl_Member_lo 0 4) leave (fuel + 1) (slices_EqualFunc_impl_Member_impl_Member_impl_Member_impl_Member_4_sl (C, A, m, i)) = ((slices_EqualFunc_impl_Member_impl_Member_impl_Member_impl_Member_4_step C A m i)).run (goOn (fun s => rounds (rnd tab FT D26 live 103 slices_EqualFunc_impl_Member_impl_Member_impl_Member_impl_Member_lo 0 4) leave fuel (slices_EqualFunc_impl_Member_impl_Member_impl_Member_impl_Member_4_sl s)) fun w => some (slices_EqualFunc_impl_Member_impl_Member_impl_Member_impl_Member_4_out w)) := by kernel_rfl
theorem slices_EqualFunc_impl_Member_impl_Member_impl_Member_impl_Member_4_h (C : List (List TC)) (A : List (List TC)) (m : Int) (i : Int) (ow : slices_EqualFunc_impl_Member_impl_Member_impl_Member_impl_Member_4_ω) : ((slices_EqualFunc_impl_Member_impl_Member_impl_Member_impl_Member_4_fin C A m i)).val = some ow → ∃ fuel, loopN slices_EqualFunc_impl_Member_impl_Member_impl_Member_impl_Member_4_st fuel (C, A, m, i) = some ow := by
  intro h
  have key : A.length = C.length → Typed tab (.slice 147) (.l A) → (∀ x y : List TC, x ∈ A → y ∈ C → impl_sameMember_c ((nth x 0).str) ((nth x 1).int) ((nth x 2).int) ((nth x 3).int) ((nth x 4).bool) ((nth x 5).bool) ((nth x 6).list) ((nth x 7).list) ((nth x 8).list) ((nth x 9).list) ((nth x 10).int) ((nth y 0).str) ((nth y 1).int) ((nth y 2).int) ((nth y 3).int) ((nth y 4).bool) ((nth y 5).bool) ((nth y 6).list) ((nth y 7).list) ((nth y 8).list) ((nth y 9).list) ((nth y 10).int) = true) → loopN slices_EqualFunc_impl_Member_impl_Member_impl_Member_impl_Member_4_st (A.length + 1) (C, A, (A.length : Int), 0) = some (if allEq slices_EqualFunc_impl_Member_impl_Member_impl_Member_impl_Member_E A C = true then .inr () else .inl ()) := by
    intro hl ht hr
    have hlen : A.length ≤ 140737488351232 := by have := typed_room ht; simp only [show (tab 147).bytes = 152 from rfl] at this; omega
    refine loopN_allEq A C slices_EqualFunc_impl_Member_impl_Member_impl_Member_impl_Member_E (fun i => (C, A, (A.length : Int), (i : Int))) _ _ hl (fun i hi => ?_) ?_ A.length 0 (by omega)
    · show (slices_EqualFunc_impl_Member_impl_Member_impl_Member_impl_Member_4_step C A (A.length : Int) (i : Int)).val = _
      unfold slices_EqualFunc_impl_Member_impl_Member_impl_Member_impl_Member_4_step
      refine Tr.t (by simp; omega) ?_
      refine Tr.t (by constructor <;> omega) ?_
      refine Tr.t (by constructor <;> omega) ?_
      refine Tr.t (hr _ _ (mem_getD hi) (mem_getD (by omega))) ?_
      rw [wrap64 (i := (i : Int) + 1) (by omega) (by omega)]
      rw [Tr.val_br]
      show (if (!(slices_EqualFunc_impl_Member_impl_Member_impl_Member_impl_Member_E (A.getD i []) (C.getD i []))) = true then _ else _) = _
      cases slices_EqualFunc_impl_Member_impl_Member_impl_Member_impl_Member_E (A.getD i []) (C.getD i []) <;> rfl
    · show (slices_EqualFunc_impl_Member_impl_Member_impl_Member_impl_Member_4_step C A (A.length : Int) (A.length : Int)).val = _
      refine Tr.n (by simp) ?_
      rfl
  simp only [slices_EqualFunc_impl_Member_impl_Member_impl_Member_impl_Member_4_fin, Told.val] at h
  cases hk : allEq slices_EqualFunc_impl_Member_impl_Member_impl_Member_impl_Member_E A C with
  | true =>
    rw [if_pos (show slices_EqualFunc_impl_Member_impl_Member_impl_Member_impl_Member_k4_1 C A m i = true from hk)] at h
    split at h
    · rename_i ho
      obtain ⟨hl, rfl, ht, rfl, hr⟩ := is_iff.1 ho
      cases h
      refine ⟨_, (key hl ht hr).trans ?_⟩
      rw [hk]; rfl
    · cases h
  | false =>
    rw [if_neg (show ¬slices_EqualFunc_impl_Member_impl_Member_impl_Member_impl_Member_k4_1 C A m i = true from by rw [show slices_EqualFunc_impl_Member_impl_Member_impl_Member_impl_Member_k4_1 C A m i = allEq slices_EqualFunc_impl_Member_impl_Member_impl_Member_impl_Member_E A C from rfl, hk]; simp)] at h
    split at h
    · rename_i ho
      obtain ⟨hl, rfl, ht, rfl, hr⟩ := is_iff.1 ho
      cases h
      refine ⟨_, (key hl ht hr).trans ?_⟩
      rw [hk]; rfl
    · cases h
theorem slices_EqualFunc_impl_Member_impl_Member_impl_Member_impl_Member_is4 : LoopIs tab FT D26 live 103 slices_EqualFunc_impl_Member_impl_Member_impl_Member_impl_Member_lo 0 4 := by
  refine loop_told (sl := slices_EqualFunc_impl_Member_impl_Member_impl_Member_impl_Member_4_sl) (step := slices_EqualFunc_impl_Member_impl_Member_impl_Member_impl_Member_4_st) (out := slices_EqualFunc_impl_Member_impl_Member_impl_Member_impl_Member_4_out) (lor := slices_EqualFunc_impl_Member_impl_Member_impl_Member_impl_Member_lo4) (fin := fun x => (slices_EqualFunc_impl_Member_impl_Member_impl_Member_impl_Member_4_fin (x.1) (x.2.1) (x.2.2.1) (x.2.2.2))) (fun _ => rfl) ?_ (fun x n => slices_EqualFunc_impl_Member_impl_Member_impl_Member_impl_Member_4_r x.1 x.2.1 x.2.2.1 x.2.2.2 n) (fun x ow => slices_EqualFunc_impl_Member_impl_Member_impl_Member_impl_Member_4_h x.1 x.2.1 x.2.2.1 x.2.2.2 ow)
  intro s t h
  unfold slices_EqualFunc_impl_Member_impl_Member_impl_Member_impl_Member_lo4 at h
  split at h
  · cases h; exact ⟨(_, _, _, _), rfl, rfl⟩
  · cases h
noncomputable def slices_EqualFunc_impl_Member_impl_Member_impl_Member_impl_Member_t (A : List (List TC)) (C : List (List TC)) : Tr (Bool) := (.ite ((!((A.length : Int) == (C.length : Int))) = true) (.ok false)
  (.ite ((slices_EqualFunc_impl_Member_impl_Member_impl_Member_impl_Member_k4_1 C A (A.length : Int) (0 : Int)) = true) (.ite ((slices_EqualFunc_impl_Member_impl_Member_impl_Member_impl_Member_o4_2 C A (A.length : Int) (0 : Int)) = true) (.ok true)
    .no)
   (.ite ((slices_EqualFunc_impl_Member_impl_Member_impl_Member_impl_Member_o4_3 C A (A.length : Int) (0 : Int)) = true) (.ok false)
    .no)))
def slices_EqualFunc_impl_Member_impl_Member_impl_Member_impl_Member_mk (p : Bool) : Res := [(false, [⟨.bool, .sh, TC.b p⟩])]
noncomputable def slices_EqualFunc_impl_Member_impl_Member_impl_Member_impl_Member_c (A : List (List TC)) (C : List (List TC)) : Bool := is (Typed tab (.slice 147) (.l A) ∧ (∀ x y : List TC, x ∈ A → y ∈ C → impl_sameMember_c ((nth x 0).str) ((nth x 1).int) ((nth x 2).int) ((nth x 3).int) ((nth x 4).bool) ((nth x 5).bool) ((nth x 6).list) ((nth x 7).list) ((nth x 8).list) ((nth x 9).list) ((nth x 10).int) ((nth y 0).str) ((nth y 1).int) ((nth y 2).int) ((nth y 3).int) ((nth y 4).bool) ((nth y 5).bool) ((nth y 6).list) ((nth y 7).list) ((nth y 8).list) ((nth y 9).list) ((nth y 10).int) = true))
noncomputable def slices_EqualFunc_impl_Member_impl_Member_impl_Member_impl_Member_v (A : List (List TC)) (C : List (List TC)) : Bool := allEq slices_EqualFunc_impl_Member_impl_Member_impl_Member_impl_Member_E A C
theorem slices_EqualFunc_impl_Member_impl_Member_impl_Member_impl_Member_l (A : List (List TC)) (C : List (List TC)) : (slices_EqualFunc_impl_Member_impl_Member_impl_Member_impl_Member_c A C) = true → (slices_EqualFunc_impl_Member_impl_Member_impl_Member_impl_Member_t A C).val = some (slices_EqualFunc_impl_Member_impl_Member_impl_Member_impl_Member_v A C) := by
  intro h
  obtain ⟨ht, hr⟩ := is_iff.1 h
  unfold slices_EqualFunc_impl_Member_impl_Member_impl_Member_impl_Member_t
  by_cases hl : A.length = C.length
  · refine Tr.n (by simp [hl]) ?_
    cases hk : allEq slices_EqualFunc_impl_Member_impl_Member_impl_Member_impl_Member_E A C with
    | true =>
      refine Tr.t (show allEq slices_EqualFunc_impl_Member_impl_Member_impl_Member_impl_Member_E A C = true from hk) ?_
      refine Tr.t (is_true ⟨hl, rfl, ht, rfl, hr⟩) ?_
      show _ = some (allEq slices_EqualFunc_impl_Member_impl_Member_impl_Member_impl_Member_E A C); rw [hk]; rfl
    | false =>
      refine Tr.n (show ¬allEq slices_EqualFunc_impl_Member_impl_Member_impl_Member_impl_Member_E A C = true from by rw [hk]; simp) ?_
      refine Tr.t (is_true ⟨hl, rfl, ht, rfl, hr⟩) ?_
      show _ = some (allEq slices_EqualFunc_impl_Member_impl_Member_impl_Member_impl_Member_E A C); rw [hk]; rfl
  · refine Tr.t (by simp; omega) ?_
    show _ = some (allEq slices_EqualFunc_impl_Member_impl_Member_impl_Member_impl_Member_E A C)
    rw [allEq_ne hl]; rfl
noncomputable def slices_EqualFunc_impl_Member_impl_Member_impl_Member_impl_Member_S : List Arg → Option (Bool × Res) := fun xs => match xs with
  | [(false, [(.slice 147, TC.l A)]), (false, [(.slice 147, TC.l C)]), (false, [(.func, TC.f 104 [])])] => some ((slices_EqualFunc_impl_Member_impl_Member_impl_Member_impl_Member_c A C), slices_EqualFunc_impl_Member_impl_Member_impl_Member_impl_Member_mk (slices_EqualFunc_impl_Member_impl_Member_impl_Member_impl_Member_v A C))
  | _ => .none
theorem slices_EqualFunc_impl_Member_impl_Member_impl_Member_impl_Member_e (A : List (List TC)) (C : List (List TC)) : runF tab FT D26 live 103 slices_EqualFunc_impl_Member_impl_Member_impl_Member_impl_Member_lo [(false, [(.slice 147, TC.l A)]), (false, [(.slice 147, TC.l C)]), (false, [(.func, TC.f 104 [])])] = (slices_EqualFunc_impl_Member_impl_Member_impl_Member_impl_Member_t A C).run fun p => some (slices_EqualFunc_impl_Member_impl_Member_impl_Member_impl_Member_mk p) := by kernel_rfl
theorem slices_EqualFunc_impl_Member_impl_Member_impl_Member_impl_Member_s : ∀ xs r, slices_EqualFunc_impl_Member_impl_Member_impl_Member_impl_Member_S xs = some (true, r) → runF tab FT D26 live 103 slices_EqualFunc_impl_Member_impl_Member_impl_Member_impl_Member_lo xs = some r := by
  intro xs r h
  unfold slices_EqualFunc_impl_Member_impl_Member_impl_Member_impl_Member_S at h
  split at h
  · simp only [Option.some.injEq, Prod.mk.injEq] at h
    obtain ⟨h1, rfl⟩ := h
    exact fun_told (slices_EqualFunc_impl_Member_impl_Member_impl_Member_impl_Member_e _ _) (slices_EqualFunc_impl_Member_impl_Member_impl_Member_impl_Member_l _ _) h1
  · cases h
noncomputable def D27 : Dt := also D26 103 slices_EqualFunc_impl_Member_impl_Member_impl_Member_impl_Member_S
theorem d27 : DOk Go.Proofs.Try.prog tab D27 := d26.also mixed_ok tab_ok names_ok (fnLoops_one (by kernel_rfl) slices_EqualFunc_impl_Member_impl_Member_impl_Member_impl_Member_is4) slices_EqualFunc_impl_Member_impl_Member_impl_Member_impl_Member_s
/-! slices_EqualFunc_impl_Type_impl_Type_impl_Type_impl_Type -/
noncomputable def slices_EqualFunc_impl_Type_impl_Type_impl_Type_impl_Type_E (x y : List TC) : Bool := impl_SameType_rv ((nth x 0).int) ((nth x 1).int) ((nth x 2).bool) ((nth x 3).bool) ((nth x 4).list) ((nth x 5).list) ((nth x 6).list) ((nth x 7).list) ((nth x 8).int) ((nth y 0).int) ((nth y 1).int) ((nth y 2).bool) ((nth y 3).bool) ((nth y 4).list) ((nth y 5).list) ((nth y 6).list) ((nth y 7).list) ((nth y 8).int)
abbrev slices_EqualFunc_impl_Type_impl_Type_impl_Type_impl_Type_4_σ := List (List TC) × List (List TC) × Int × Int
abbrev slices_EqualFunc_impl_Type_impl_Type_impl_Type_impl_Type_4_ω := (Unit) ⊕ (Unit)
noncomputable def slices_EqualFunc_impl_Type_impl_Type_impl_Type_impl_Type_4_step (C : List (List TC)) (A : List (List TC)) (m : Int) (i : Int) : Tr (slices_EqualFunc_impl_Type_impl_Type_impl_Type_impl_Type_4_σ ⊕ slices_EqualFunc_impl_Type_impl_Type_impl_Type_impl_Type_4_ω) := (.ite ((decide (i < m)) = true) (.ite ((0 : Int) ≤ i ∧ i < (A.length : Int)) (.ite ((0 : Int) ≤ i ∧ i < (C.length : Int)) (.ite ((impl_SameType_rc ((nth (row A i) 0).int) ((nth (row A i) 1).int) ((nth (row A i) 2).bool) ((nth (row A i) 3).bool) ((nth (row A i) 4).list) ((nth (row A i) 5).list) ((nth (row A i) 6).list) ((nth (row A i) 7).list) ((nth (row A i) 8).int) ((nth (row C i) 0).int) ((nth (row C i) 1).int) ((nth (row C i) 2).bool) ((nth (row C i) 3).bool) ((nth (row C i) 4).list) ((nth (row C i) 5).list) ((nth (row C i) 6).list) ((nth (row C i) 7).list) ((nth (row C i) 8).int)) = true) (.ite ((!(impl_SameType_rv ((nth (row A i) 0).int) ((nth (row A i) 1).int) ((nth (row A i) 2).bool) ((nth (row A i) 3).bool) ((nth (row A i) 4).list) ((nth (row A i) 5).list) ((nth (row A i) 6).list) ((nth (row A i) 7).list) ((nth (row A i) 8).int) ((nth (row C i) 0).int) ((nth (row C i) 1).int) ((nth (row C i) 2).bool) ((nth (row C i) 3).bool) ((nth (row C i) 4).list) ((nth (row C i) 5).list) ((nth (row C i) 6).list) ((nth (row C i) 7).list) ((nth (row C i) 8).int))) = true) (.ok (.inr (.inl ())))
      (.ok (.inl (C, A, m, (IntKind.wrap .i64 (i + (1 : Int)))))))
     .no)
    .no)
   .no)
  (.ok (.inr (.inr ()))))
noncomputable def slices_EqualFunc_impl_Type_impl_Type_impl_Type_impl_Type_4_st : slices_EqualFunc_impl_Type_impl_Type_impl_Type_impl_Type_4_σ → Tr (slices_EqualFunc_impl_Type_impl_Type_impl_Type_impl_Type_4_σ ⊕ slices_EqualFunc_impl_Type_impl_Type_impl_Type_impl_Type_4_ω) := fun x => (slices_EqualFunc_impl_Type_impl_Type_impl_Type_impl_Type_4_step (x.1) (x.2.1) (x.2.2.1) (x.2.2.2))
noncomputable def slices_EqualFunc_impl_Type_impl_Type_impl_Type_impl_Type_k4_1 (C : List (List TC)) (A : List (List TC)) (m : Int) (i : Int) : Bool := allEq slices_EqualFunc_impl_Type_impl_Type_impl_Type_impl_Type_E A C
noncomputable def slices_EqualFunc_impl_Type_impl_Type_impl_Type_impl_Type_o4_2 (C : List (List TC)) (A : List (List TC)) (m : Int) (i : Int) : Bool := is (A.length = C.length ∧ i = 0 ∧ Typed tab (.slice 55) (.l A) ∧ m = (A.length : Int) ∧ (∀ x y : List TC, x ∈ A → y ∈ C → impl_SameType_rc ((nth x 0).int) ((nth x 1).int) ((nth x 2).bool) ((nth x 3).bool) ((nth x 4).list) ((nth x 5).list) ((nth x 6).list) ((nth x 7).list) ((nth x 8).int) ((nth y 0).int) ((nth y 1).int) ((nth y 2).bool) ((nth y 3).bool) ((nth y 4).list) ((nth y 5).list) ((nth y 6).list) ((nth y 7).list) ((nth y 8).int) = true))
noncomputable def slices_EqualFunc_impl_Type_impl_Type_impl_Type_impl_Type_o4_3 (C : List (List TC)) (A : List (List TC)) (m : Int) (i : Int) : Bool := is (A.length = C.length ∧ i = 0 ∧ Typed tab (.slice 55) (.l A) ∧ m = (A.length : Int) ∧ (∀ x y : List TC, x ∈ A → y ∈ C → impl_SameType_rc ((nth x 0).int) ((nth x 1).int) ((nth x 2).bool) ((nth x 3).bool) ((nth x 4).list) ((nth x 5).list) ((nth x 6).list) ((nth x 7).list) ((nth x 8).int) ((nth y 0).int) ((nth y 1).int) ((nth y 2).bool) ((nth y 3).bool) ((nth y 4).list) ((nth y 5).list) ((nth y 6).list) ((nth y 7).list) ((nth y 8).int) = true))
noncomputable def slices_EqualFunc_impl_Type_impl_Type_impl_Type_impl_Type_4_fin (C : List (List TC)) (A : List (List TC)) (m : Int) (i : Int) : Told slices_EqualFunc_impl_Type_impl_Type_impl_Type_impl_Type_4_ω := (.br (slices_EqualFunc_impl_Type_impl_Type_impl_Type_impl_Type_k4_1 C A m i) (.leaf (slices_EqualFunc_impl_Type_impl_Type_impl_Type_impl_Type_o4_2 C A m i) (.inr ())) (.leaf (slices_EqualFunc_impl_Type_impl_Type_impl_Type_impl_Type_o4_3 C A m i) (.inl ())))
def slices_EqualFunc_impl_Type_impl_Type_impl_Type_impl_Type_4_sl (x : slices_EqualFunc_impl_Type_impl_Type_impl_Type_impl_Type_4_σ) : List Slot := [⟨.val false [⟨.slice 55, .sh, TC.l (x.1)⟩], ⟨0, 0⟩⟩, ⟨.val false [⟨.func, .sh, TC.f 72 []⟩], ⟨0, 0⟩⟩, ⟨.val false [⟨.slice 55, .sh, TC.l (x.2.1)⟩], ⟨0, 0⟩⟩, ⟨.val false [⟨.int .i64, .sh, TC.i (x.2.2.1)⟩], ⟨0, 0⟩⟩, ⟨.val false [⟨.int .i64, .sh, TC.i (x.2.2.2)⟩], ⟨0, 0⟩⟩]
def slices_EqualFunc_impl_Type_impl_Type_impl_Type_impl_Type_4_out : slices_EqualFunc_impl_Type_impl_Type_impl_Type_impl_Type_4_ω → Ex × List Slot := (Sum.elim (fun x => (.ret, [⟨.val false [⟨.bool, .sh, TC.b false⟩], ⟨0, 0⟩⟩])) (fun x => (.exit 0, [Slot.none])))
noncomputable def slices_EqualFunc_impl_Type_impl_Type_impl_Type_impl_Type_lo4 : List Slot → Option (Told (Ex × List Slot)) := fun s => match s with
  | [⟨.val false [⟨.slice 55, .sh, TC.l C⟩], ⟨0, 0⟩⟩, ⟨.val false [⟨.func, .sh, TC.f 72 []⟩], ⟨0, 0⟩⟩, ⟨.val false [⟨.slice 55, .sh, TC.l A⟩], ⟨0, 0⟩⟩, ⟨.val false [⟨.int .i64, .sh, TC.i m⟩], ⟨0, 0⟩⟩, ⟨.val false [⟨.int .i64, .sh, TC.i i⟩], ⟨0, 0⟩⟩] => some (((slices_EqualFunc_impl_Type_impl_Type_impl_Type_impl_Type_4_fin C A m i)).map slices_EqualFunc_impl_Type_impl_Type_impl_Type_impl_Type_4_out)
  | _ => .none
noncomputable def slices_EqualFunc_impl_Type_impl_Type_impl_Type_impl_Type_lo : LoopTeller := fun r s => bif Nat.beq r 4 then slices_EqualFunc_impl_Type_impl_Type_impl_Type_impl_Type_lo4 s else .none
theorem slices_EqualFunc_impl_Type_impl_Type_impl_Type_impl_Type_4_r (C : List (List TC)) (A : List (List TC)) (m : Int) (i : Int) (fuel : Nat) : rounds (rnd tab FT D27 live 105 slices_EqualFunc_impl_Type_impl_Type_impl_Type_impl_Type_lo 0 4) leave (fuel + 1) (slices_EqualFunc_impl_Type_impl_Type_impl_Type_impl_Type_4_sl (C, A, m, i)) = ((slices_EqualFunc_impl_Type_impl_Type_impl_Type_impl_Type_4_step C A m i)).run (goOn (fun s => rounds (rnd tab FT D27 live 105 slices_EqualFunc_impl_Type_impl_Type_impl_Type_impl_Type_lo 0 4) leave fuel (slices_EqualFunc_impl_Type_impl_Type_impl_Type_impl_Type_4_sl s)) fun w => some (slices_EqualFunc_impl_Type_impl_Type_impl_Type_impl_Type_4_out w)) := by kernel_rfl
theorem slices_EqualFunc_impl_Type_impl_Type_impl_Type_impl_Type_4_h (C : List (List TC)) (A : List (List TC)) (m : Int) (i : Int) (ow : slices_EqualFunc_impl_Type_impl_Type_impl_Type_impl_Type_4_ω) : ((slices_EqualFunc_impl_Type_impl_Type_impl_Type_impl_Type_4_fin C A m i)).val = some ow → ∃ fuel, loopN slices_EqualFunc_impl_Type_impl_Type_impl_Type_impl_Type_4_st fuel (C, A, m, i) = some ow := by
  intro h
  have key : A.length = C.length → Typed tab (.slice 55) (.l A) → (∀ x y : List TC, x ∈ A → y ∈ C → impl_SameType_rc ((nth x 0).int) ((nth x 1).int) ((nth x 2).bool) ((nth x 3).bool) ((nth x 4).list) ((nth x 5).list) ((nth x 6).list) ((nth x 7).list) ((nth x 8).int) ((nth y 0).int) ((nth y 1).int) ((nth y 2).bool) ((nth y 3).bool) ((nth y 4).list) ((nth y 5).list) ((nth y 6).list) ((nth y 7).list) ((nth y 8).int) = true) → loopN slices_EqualFunc_impl_Type_impl_Type_impl_Type_impl_Type_4_st (A.length + 1) (C, A, (A.length : Int), 0) = some (if allEq slices_EqualFunc_impl_Type_impl_Type_impl_Type_impl_Type_E A C = true then .inr () else .inl ()) := by
    intro hl ht hr
    have hlen : A.length ≤ 140737488351232 := by have := typed_room ht; simp only [show (tab 55).bytes = 128 from rfl] at this; omega
    refine loopN_allEq A C slices_EqualFunc_impl_Type_impl_Type_impl_Type_impl_Type_E (fun i => (C, A, (A.length : Int), (i : Int))) _ _ hl (fun i hi => ?_) ?_ A.length 0 (by omega)
    · show (slices_EqualFunc_impl_Type_impl_Type_impl_Type_impl_Type_4_step C A (A.length : Int) (i : Int)).val = _
      unfold slices_EqualFunc_impl_Type_impl_Type_impl_Type_impl_Type_4_step
      refine Tr.t (by simp; omega) ?_
      refine Tr.t (by constructor <;> omega) ?_
      refine Tr.t (by constructor <;> omega) ?_
      refine Tr.t (hr _ _ (mem_getD hi) (mem_getD (by omega))) ?_
      rw [wrap64 (i := (i : Int) + 1) (by omega) (by omega)]
      rw [Tr.val_br]
      show (if (!(slices_EqualFunc_impl_Type_impl_Type_impl_Type_impl_Type_E (A.getD i []) (C.getD i []))) = true then _ else _) = _
      cases slices_EqualFunc_impl_Type_impl_Type_impl_Type_impl_Type_E (A.getD i []) (C.getD i []) <;> rfl
    · show (slices_EqualFunc_impl_Type_impl_Type_impl_Type_impl_Type_4_step C A (A.length : Int) (A.length : Int)).val = _
      refine Tr.n (by simp) ?_
      rfl
  simp only [slices_EqualFunc_impl_Type_impl_Type_impl_Type_impl_Type_4_fin, Told.val] at h
  cases hk : allEq slices_EqualFunc_impl_Type_impl_Type_impl_Type_impl_Type_E A C with
  | true =>
    rw [if_pos (show slices_EqualFunc_impl_Type_impl_Type_impl_Type_impl_Type_k4_1 C A m i = true from hk)] at h
    split at h
    · rename_i ho
      obtain ⟨hl, rfl, ht, rfl, hr⟩ := is_iff.1 ho
      cases h
      refine ⟨_, (key hl ht hr).trans ?_⟩
      rw [hk]; rfl
    · cases h
  | false =>
    rw [if_neg (show ¬slices_EqualFunc_impl_Type_impl_Type_impl_Type_impl_Type_k4_1 C A m i = true from by rw [show slices_EqualFunc_impl_Type_impl_Type_impl_Type_impl_Type_k4_1 C A m i = allEq slices_EqualFunc_impl_Type_impl_Type_impl_Type_impl_Type_E A C from rfl, hk]; simp)] at h
    split at h
    · rename_i ho
      obtain ⟨hl, rfl, ht, rfl, hr⟩ := is_iff.1 ho
      cases h
      refine ⟨_, (key hl ht hr).trans ?_⟩
      rw [hk]; rfl
    · cases h
theorem slices_EqualFunc_impl_Type_impl_Type_impl_Type_impl_Type_is4 : LoopIs tab FT D27 live 105 slices_EqualFunc_impl_Type_impl_Type_impl_Type_impl_Type_lo 0 4 := by
  refine loop_told (sl := slices_EqualFunc_impl_Type_impl_Type_impl_Type_impl_Type_4_sl) (step := slices_EqualFunc_impl_Type_impl_Type_impl_Type_impl_Type_4_st) (out := slices_EqualFunc_impl_Type_impl_Type_impl_Type_impl_Type_4_out) (lor := slices_EqualFunc_impl_Type_impl_Type_impl_Type_impl_Type_lo4) (fin := fun x => (slices_EqualFunc_impl_Type_impl_Type_impl_Type_impl_Type_4_fin (x.1) (x.2.1) (x.2.2.1) (x.2.2.2))) (fun _ => rfl) ?_ (fun x n => slices_EqualFunc_impl_Type_impl_Type_impl_Type_impl_Type_4_r x.1 x.2.1 x.2.2.1 x.2.2.2 n) (fun x ow => slices_EqualFunc_impl_Type_impl_Type_impl_Type_impl_Type_4_h x.1 x.2.1 x.2.2.1 x.2.2.2 ow)
  intro s t h
  unfold slices_EqualFunc_impl_Type_impl_Type_impl_Type_impl_Type_lo4 at h
  split at h
  · cases h; exact ⟨(_, _, _, _), rfl, rfl⟩
  · cases h
noncomputable def slices_EqualFunc_impl_Type_impl_Type_impl_Type_impl_Type_t (A : List (List TC)) (C : List (List TC)) : Tr (Bool) := (.ite ((!((A.length : Int) == (C.length : Int))) = true) (.ok false)
  (.ite ((slices_EqualFunc_impl_Type_impl_Type_impl_Type_impl_Type_k4_1 C A (A.length : Int) (0 : Int)) = true) (.ite ((slices_EqualFunc_impl_Type_impl_Type_impl_Type_impl_Type_o4_2 C A (A.length : Int) (0 : Int)) = true) (.ok true)
    .no)
   (.ite ((slices_EqualFunc_impl_Type_impl_Type_impl_Type_impl_Type_o4_3 C A (A.length : Int) (0 : Int)) = true) (.ok false)
    .no)))
def slices_EqualFunc_impl_Type_impl_Type_impl_Type_impl_Type_mk (p : Bool) : Res := [(false, [⟨.bool, .sh, TC.b p⟩])]
noncomputable def slices_EqualFunc_impl_Type_impl_Type_impl_Type_impl_Type_c (A : List (List TC)) (C : List (List TC)) : Bool := is (Typed tab (.slice 55) (.l A) ∧ (∀ x y : List TC, x ∈ A → y ∈ C → impl_SameType_rc ((nth x 0).int) ((nth x 1).int) ((nth x 2).bool) ((nth x 3).bool) ((nth x 4).list) ((nth x 5).list) ((nth x 6).list) ((nth x 7).list) ((nth x 8).int) ((nth y 0).int) ((nth y 1).int) ((nth y 2).bool) ((nth y 3).bool) ((nth y 4).list) ((nth y 5).list) ((nth y 6).list) ((nth y 7).list) ((nth y 8).int) = true))
noncomputable def slices_EqualFunc_impl_Type_impl_Type_impl_Type_impl_Type_v (A : List (List TC)) (C : List (List TC)) : Bool := allEq slices_EqualFunc_impl_Type_impl_Type_impl_Type_impl_Type_E A C
theorem slices_EqualFunc_impl_Type_impl_Type_impl_Type_impl_Type_l (A : List (List TC)) (C : List (List TC)) : (slices_EqualFunc_impl_Type_impl_Type_impl_Type_impl_Type_c A C) = true → (slices_EqualFunc_impl_Type_impl_Type_impl_Type_impl_Type_t A C).val = some (slices_EqualFunc_impl_Type_impl_Type_impl_Type_impl_Type_v A C) := by
  intro h
  obtain ⟨ht, hr⟩ := is_iff.1 h
  unfold slices_EqualFunc_impl_Type_impl_Type_impl_Type_impl_Type_t
  by_cases hl : A.length = C.length
  · refine Tr.n (by simp [hl]) ?_
    cases hk : allEq slices_EqualFunc_impl_Type_impl_Type_impl_Type_impl_Type_E A C with
    | true =>
      refine Tr.t (show allEq slices_EqualFunc_impl_Type_impl_Type_impl_Type_impl_Type_E A C = true from hk) ?_
      refine Tr.t (is_true ⟨hl, rfl, ht, rfl, hr⟩) ?_
      show _ = some (allEq slices_EqualFunc_impl_Type_impl_Type_impl_Type_impl_Type_E A C); rw [hk]; rfl
    | false =>
      refine Tr.n (show ¬allEq slices_EqualFunc_impl_Type_impl_Type_impl_Type_impl_Type_E A C = true from by rw [hk]; simp) ?_
      refine Tr.t (is_true ⟨hl, rfl, ht, rfl, hr⟩) ?_
      show _ = some (allEq slices_EqualFunc_impl_Type_impl_Type_impl_Type_impl_Type_E A C); rw [hk]; rfl
  · refine Tr.t (by simp; omega) ?_
    show _ = some (allEq slices_EqualFunc_impl_Type_impl_Type_impl_Type_impl_Type_E A C)
    rw [allEq_ne hl]; rfl
noncomputable def slices_EqualFunc_impl_Type_impl_Type_impl_Type_impl_Type_S : List Arg → Option (Bool × Res) := fun xs => match xs with
  | [(false, [(.slice 55, TC.l A)]), (false, [(.slice 55, TC.l C)]), (false, [(.func, TC.f 72 [])])] => some ((slices_EqualFunc_impl_Type_impl_Type_impl_Type_impl_Type_c A C), slices_EqualFunc_impl_Type_impl_Type_impl_Type_impl_Type_mk (slices_EqualFunc_impl_Type_impl_Type_impl_Type_impl_Type_v A C))
  | _ => .none
theorem slices_EqualFunc_impl_Type_impl_Type_impl_Type_impl_Type_e (A : List (List TC)) (C : List (List TC)) : runF tab FT D27 live 105 slices_EqualFunc_impl_Type_impl_Type_impl_Type_impl_Type_lo [(false, [(.slice 55, TC.l A)]), (false, [(.slice 55, TC.l C)]), (false, [(.func, TC.f 72 [])])] = (slices_EqualFunc_impl_Type_impl_Type_impl_Type_impl_Type_t A C).run fun p => some (slices_EqualFunc_impl_Type_impl_Type_impl_Type_impl_Type_mk p) := by kernel_rfl
theorem slices_EqualFunc_impl_Type_impl_Type_impl_Type_impl_Type_s : ∀ xs r, slices_EqualFunc_impl_Type_impl_Type_impl_Type_impl_Type_S xs = some (true, r) → runF tab FT D27 live 105 slices_EqualFunc_impl_Type_impl_Type_impl_Type_impl_Type_lo xs = some r := by
  intro xs r h
  unfold slices_EqualFunc_impl_Type_impl_Type_impl_Type_impl_Type_S at h
  split at h
  · simp only [Option.some.injEq, Prod.mk.injEq] at h
    obtain ⟨h1, rfl⟩ := h
    exact fun_told (slices_EqualFunc_impl_Type_impl_Type_impl_Type_impl_Type_e _ _) (slices_EqualFunc_impl_Type_impl_Type_impl_Type_impl_Type_l _ _) h1
  · cases h
noncomputable def D28 : Dt := also D27 105 slices_EqualFunc_impl_Type_impl_Type_impl_Type_impl_Type_S
theorem d28 : DOk Go.Proofs.Try.prog tab D28 := d27.also mixed_ok tab_ok names_ok (fnLoops_one (by kernel_rfl) slices_EqualFunc_impl_Type_impl_Type_impl_Type_impl_Type_is4) slices_EqualFunc_impl_Type_impl_Type_impl_Type_impl_Type_s
/-! impl_SameType -/
noncomputable def impl_SameType_t (k : Int) (s : Int) (sg : Bool) (bg : Bool) (NA : List (List TC)) (NU : List (List TC)) (ME : List (List TC)) (BA : List (List TC)) (ct : Int) (k2 : Int) (s2 : Int) (sg2 : Bool) (bg2 : Bool) (NA2 : List (List TC)) (NU2 : List (List TC)) (ME2 : List (List TC)) (BA2 : List (List TC)) (ct2 : Int) : Tr (Bool) := (.ite ((k == k2) = true) (.ite ((s == s2) = true) (.ite ((sg == sg2) = true) (.ite ((bg == bg2) = true) (.ite ((ct == ct2) = true) (.ite ((slices_Equal_string_string_c NA NA2) = true) (.ite ((slices_Equal_string_string_v NA NA2) = true) (.ite ((slices_Equal_int64_int64_c NU NU2) = true) (.ite ((slices_Equal_int64_int64_v NU NU2) = true) (.ite ((slices_EqualFunc_impl_Member_impl_Member_impl_Member_impl_Member_c ME ME2) = true) (.ite ((slices_EqualFunc_impl_Member_impl_Member_impl_Member_impl_Member_v ME ME2) = true) (.ite ((slices_EqualFunc_impl_Type_impl_Type_impl_Type_impl_Type_c BA BA2) = true) (.ok (slices_EqualFunc_impl_Type_impl_Type_impl_Type_impl_Type_v BA BA2))
             .no)
            (.ok false))
           .no)
          (.ok false))
         .no)
        (.ok false))
       .no)
      (.ok false))
     (.ok false))
    (.ok false))
   (.ok false))
  (.ok false))
def impl_SameType_mk (p : Bool) : Res := [(false, [⟨.bool, .sh, TC.b p⟩])]
noncomputable def impl_SameType_c (k : Int) (s : Int) (sg : Bool) (bg : Bool) (NA : List (List TC)) (NU : List (List TC)) (ME : List (List TC)) (BA : List (List TC)) (ct : Int) (k2 : Int) (s2 : Int) (sg2 : Bool) (bg2 : Bool) (NA2 : List (List TC)) (NU2 : List (List TC)) (ME2 : List (List TC)) (BA2 : List (List TC)) (ct2 : Int) : Bool := (bif (k == k2) then (bif (s == s2) then (bif (sg == sg2) then (bif (bg == bg2) then (bif (ct == ct2) then ((slices_Equal_string_string_c NA NA2) && (bif (slices_Equal_string_string_v NA NA2) then ((slices_Equal_int64_int64_c NU NU2) && (bif (slices_Equal_int64_int64_v NU NU2) then ((slices_EqualFunc_impl_Member_impl_Member_impl_Member_impl_Member_c ME ME2) && (bif (slices_EqualFunc_impl_Member_impl_Member_impl_Member_impl_Member_v ME ME2) then ((slices_EqualFunc_impl_Type_impl_Type_impl_Type_impl_Type_c BA BA2) && true) else true)) else true)) else true)) else true) else true) else true) else true) else true)
noncomputable def impl_SameType_v (k : Int) (s : Int) (sg : Bool) (bg : Bool) (NA : List (List TC)) (NU : List (List TC)) (ME : List (List TC)) (BA : List (List TC)) (ct : Int) (k2 : Int) (s2 : Int) (sg2 : Bool) (bg2 : Bool) (NA2 : List (List TC)) (NU2 : List (List TC)) (ME2 : List (List TC)) (BA2 : List (List TC)) (ct2 : Int) : Bool := (bif (k == k2) then (bif (s == s2) then (bif (sg == sg2) then (bif (bg == bg2) then (bif (ct == ct2) then (bif (slices_Equal_string_string_v NA NA2) then (bif (slices_Equal_int64_int64_v NU NU2) then (bif (slices_EqualFunc_impl_Member_impl_Member_impl_Member_impl_Member_v ME ME2) then (slices_EqualFunc_impl_Type_impl_Type_impl_Type_impl_Type_v BA BA2) else false) else false) else false) else false) else false) else false) else false) else false)
theorem impl_SameType_l (k : Int) (s : Int) (sg : Bool) (bg : Bool) (NA : List (List TC)) (NU : List (List TC)) (ME : List (List TC)) (BA : List (List TC)) (ct : Int) (k2 : Int) (s2 : Int) (sg2 : Bool) (bg2 : Bool) (NA2 : List (List TC)) (NU2 : List (List TC)) (ME2 : List (List TC)) (BA2 : List (List TC)) (ct2 : Int) : (impl_SameType_c k s sg bg NA NU ME BA ct k2 s2 sg2 bg2 NA2 NU2 ME2 BA2 ct2) = true → (impl_SameType_t k s sg bg NA NU ME BA ct k2 s2 sg2 bg2 NA2 NU2 ME2 BA2 ct2).val = some (impl_SameType_v k s sg bg NA NU ME BA ct k2 s2 sg2 bg2 NA2 NU2 ME2 BA2 ct2) := by
  unfold impl_SameType_t impl_SameType_v impl_SameType_c
  exact fun h => (Tr.ss h (fun h => (Tr.ss h (fun h => (Tr.ss h (fun h => (Tr.ss h (fun h => (Tr.ss h (fun h => (Tr.gb h fun h => (Tr.ss h (fun h => (Tr.gb h fun h => (Tr.ss h (fun h => (Tr.gb h fun h => (Tr.ss h (fun h => (Tr.gb h fun h => rfl)) (fun h => rfl)))) (fun h => rfl)))) (fun h => rfl)))) (fun h => rfl))) (fun h => rfl))) (fun h => rfl))) (fun h => rfl))) (fun h => rfl))
noncomputable def impl_SameType_S : List Arg → Option (Bool × Res) := fun xs => match xs with
  | [(true, [(.int .i64, TC.i k), (.int .i64, TC.i s), (.bool, TC.b sg), (.bool, TC.b bg), (.slice 9, TC.l NA), (.slice 2, TC.l NU), (.slice 147, TC.l ME), (.slice 55, TC.l BA), (.int .i64, TC.i ct)]), (true, [(.int .i64, TC.i k2), (.int .i64, TC.i s2), (.bool, TC.b sg2), (.bool, TC.b bg2), (.slice 9, TC.l NA2), (.slice 2, TC.l NU2), (.slice 147, TC.l ME2), (.slice 55, TC.l BA2), (.int .i64, TC.i ct2)])] => some ((impl_SameType_c k s sg bg NA NU ME BA ct k2 s2 sg2 bg2 NA2 NU2 ME2 BA2 ct2), impl_SameType_mk (impl_SameType_v k s sg bg NA NU ME BA ct k2 s2 sg2 bg2 NA2 NU2 ME2 BA2 ct2))
  | _ => .none
theorem impl_SameType_e (k : Int) (s : Int) (sg : Bool) (bg : Bool) (NA : List (List TC)) (NU : List (List TC)) (ME : List (List TC)) (BA : List (List TC)) (ct : Int) (k2 : Int) (s2 : Int) (sg2 : Bool) (bg2 : Bool) (NA2 : List (List TC)) (NU2 : List (List TC)) (ME2 : List (List TC)) (BA2 : List (List TC)) (ct2 : Int) : runF tab FT D28 live 72 noLoops [(true, [(.int .i64, TC.i k), (.int .i64, TC.i s), (.bool, TC.b sg), (.bool, TC.b bg), (.slice 9, TC.l NA), (.slice 2, TC.l NU), (.slice 147, TC.l ME), (.slice 55, TC.l BA), (.int .i64, TC.i ct)]), (true, [(.int .i64, TC.i k2), (.int .i64, TC.i s2), (.bool, TC.b sg2), (.bool, TC.b bg2), (.slice 9, TC.l NA2), (.slice 2, TC.l NU2), (.slice 147, TC.l ME2), (.slice 55, TC.l BA2), (.int .i64, TC.i ct2)])] = (impl_SameType_t k s sg bg NA NU ME BA ct k2 s2 sg2 bg2 NA2 NU2 ME2 BA2 ct2).run fun p => some (impl_SameType_mk p) := by kernel_rfl
theorem impl_SameType_s : ∀ xs r, impl_SameType_S xs = some (true, r) → runF tab FT D28 live 72 noLoops xs = some r := by
  intro xs r h
  unfold impl_SameType_S at h
  split at h
  · simp only [Option.some.injEq, Prod.mk.injEq] at h
    obtain ⟨h1, rfl⟩ := h
    exact fun_told (impl_SameType_e _ _ _ _ _ _ _ _ _ _ _ _ _ _ _ _ _ _) (impl_SameType_l _ _ _ _ _ _ _ _ _ _ _ _ _ _ _ _ _ _) h1
  · cases h
theorem impl_SameType_nx (k : Int) (s : Int) (sg : Bool) (bg : Bool) (NA : List (List TC)) (NU : List (List TC)) (ME : List (List TC)) (BA : List (List TC)) (ct : Int) (k2 : Int) (s2 : Int) (sg2 : Bool) (bg2 : Bool) (NA2 : List (List TC)) (NU2 : List (List TC)) (ME2 : List (List TC)) (BA2 : List (List TC)) (ct2 : Int) : is (max (rowsDep ME) (rowsDep BA) < impl_SameType_O.n + 1 ∧ Typed tab (.slice 9) (.l NA) ∧ Typed tab (.slice 2) (.l NU) ∧ Typed tab (.slice 147) (.l ME) ∧ Typed tab (.slice 55) (.l BA) ∧ Typed tab (.slice 9) (.l NA2) ∧ Typed tab (.slice 2) (.l NU2) ∧ Typed tab (.slice 147) (.l ME2) ∧ Typed tab (.slice 55) (.l BA2)) = true → (impl_SameType_c k s sg bg NA NU ME BA ct k2 s2 sg2 bg2 NA2 NU2 ME2 BA2 ct2) = true ∧ (impl_SameType_v k s sg bg NA NU ME BA ct k2 s2 sg2 bg2 NA2 NU2 ME2 BA2 ct2) = sameV k s sg bg NA NU ME BA ct k2 s2 sg2 bg2 NA2 NU2 ME2 BA2 ct2 := by
  intro h
  obtain ⟨hM, a4, a5, a6, a7, b4, b5, b6, b7⟩ := is_iff.1 h
  have q6 : ∀ x y, x ∈ ME → y ∈ ME2 → impl_SameType_rc (nth x 2).int (nth x 3).int (nth x 4).bool (nth x 5).bool (nth x 6).list (nth x 7).list (nth x 8).list (nth x 9).list (nth x 10).int (nth y 2).int (nth y 3).int (nth y 4).bool (nth y 5).bool (nth y 6).list (nth y 7).list (nth y 8).list (nth y 9).list (nth y 10).int = true := fun x y hx hy => is_true ⟨by have a := dep_cell hx 8; have b := dep_cell hx 9; omega, typed_list ((typed_elem a6 hx).2 6 (by decide)), typed_list ((typed_elem a6 hx).2 7 (by decide)), typed_list ((typed_elem a6 hx).2 8 (by decide)), typed_list ((typed_elem a6 hx).2 9 (by decide)), typed_list ((typed_elem b6 hy).2 6 (by decide)), typed_list ((typed_elem b6 hy).2 7 (by decide)), typed_list ((typed_elem b6 hy).2 8 (by decide)), typed_list ((typed_elem b6 hy).2 9 (by decide))⟩
  have q7 : ∀ x y, x ∈ BA → y ∈ BA2 → impl_SameType_rc (nth x 0).int (nth x 1).int (nth x 2).bool (nth x 3).bool (nth x 4).list (nth x 5).list (nth x 6).list (nth x 7).list (nth x 8).int (nth y 0).int (nth y 1).int (nth y 2).bool (nth y 3).bool (nth y 4).list (nth y 5).list (nth y 6).list (nth y 7).list (nth y 8).int = true := fun x y hx hy => is_true ⟨by have a := dep_cell hx 6; have b := dep_cell hx 7; omega, typed_list ((typed_elem a7 hx).2 4 (by decide)), typed_list ((typed_elem a7 hx).2 5 (by decide)), typed_list ((typed_elem a7 hx).2 6 (by decide)), typed_list ((typed_elem a7 hx).2 7 (by decide)), typed_list ((typed_elem b7 hy).2 4 (by decide)), typed_list ((typed_elem b7 hy).2 5 (by decide)), typed_list ((typed_elem b7 hy).2 6 (by decide)), typed_list ((typed_elem b7 hy).2 7 (by decide))⟩
  have c4 : slices_Equal_string_string_c NA NA2 = true := is_true a4
  have c5 : slices_Equal_int64_int64_c NU NU2 = true := is_true a5
  have c6 : slices_EqualFunc_impl_Member_impl_Member_impl_Member_impl_Member_c ME ME2 = true := is_true ⟨a6, fun x y hx hy => by simp only [impl_sameMember_c, q6 x y hx hy, Bool.and_true, bif_same]⟩
  have c7 : slices_EqualFunc_impl_Type_impl_Type_impl_Type_impl_Type_c BA BA2 = true := is_true ⟨a7, q7⟩
  have v4 : slices_Equal_string_string_v NA NA2 = eqL NA NA2 := allEq_eqL (E := E_9) (fun x y hx hy => by
    constructor
    · intro h
      have hh : (nth x 0).str = (nth y 0).str := by
        simpa [E_9] using h
      have e0 := hh
      have hx' := form_9 a4 hx
      have hy' := form_9 b4 hy
      rw [hx', hy', e0]
    · rintro rfl
      simp [E_9])
  have v5 : slices_Equal_int64_int64_v NU NU2 = eqL NU NU2 := allEq_eqL (E := E_2) (fun x y hx hy => by
    constructor
    · intro h
      have hh : (nth x 0).int = (nth y 0).int := by
        simpa [E_2] using h
      have e0 := hh
      have hx' := form_2 a5 hx
      have hy' := form_2 b5 hy
      rw [hx', hy', e0]
    · rintro rfl
      simp [E_2])
  have v6 : slices_EqualFunc_impl_Member_impl_Member_impl_Member_impl_Member_v ME ME2 = eqL ME ME2 := allEq_eqL (E := slices_EqualFunc_impl_Member_impl_Member_impl_Member_impl_Member_E) (fun x y hx hy => by
    constructor
    · intro h
      have hh : (nth x 0).str = (nth y 0).str ∧ (nth x 1).int = (nth y 1).int ∧ (nth x 2).int = (nth y 2).int ∧ (nth x 3).int = (nth y 3).int ∧ (nth x 4).bool = (nth y 4).bool ∧ (nth x 5).bool = (nth y 5).bool ∧ (nth x 6).list = (nth y 6).list ∧ (nth x 7).list = (nth y 7).list ∧ (nth x 8).list = (nth y 8).list ∧ (nth x 9).list = (nth y 9).list ∧ (nth x 10).int = (nth y 10).int := by
        have h : (bif ((nth x 0).str == (nth y 0).str) then (bif ((nth x 1).int == (nth y 1).int) then sameV (nth x 2).int (nth x 3).int (nth x 4).bool (nth x 5).bool (nth x 6).list (nth x 7).list (nth x 8).list (nth x 9).list (nth x 10).int (nth y 2).int (nth y 3).int (nth y 4).bool (nth y 5).bool (nth y 6).list (nth y 7).list (nth y 8).list (nth y 9).list (nth y 10).int else false) else false) = true := h
        simp only [bif_ft, sameV, Bool.and_eq_true, beq_iff_eq, eqL_iff] at h
        obtain ⟨n, o, h⟩ := h
        exact ⟨n, o, h.1, h.2.1, h.2.2.1, h.2.2.2.1, h.2.2.2.2.2.1, h.2.2.2.2.2.2.1, h.2.2.2.2.2.2.2.1, h.2.2.2.2.2.2.2.2, h.2.2.2.2.1⟩
      obtain ⟨e0, e1, e2, e3, e4, e5, e6, e7, e8, e9, e10⟩ := hh
      have hx' := form_147 a6 hx
      have hy' := form_147 b6 hy
      rw [hx', hy', e0, e1, e2, e3, e4, e5, e6, e7, e8, e9, e10]
    · rintro rfl
      show (bif ((nth x 0).str == (nth x 0).str) then (bif ((nth x 1).int == (nth x 1).int) then sameV (nth x 2).int (nth x 3).int (nth x 4).bool (nth x 5).bool (nth x 6).list (nth x 7).list (nth x 8).list (nth x 9).list (nth x 10).int (nth x 2).int (nth x 3).int (nth x 4).bool (nth x 5).bool (nth x 6).list (nth x 7).list (nth x 8).list (nth x 9).list (nth x 10).int else false) else false) = true
      simp [sameV, eqL_refl])
  have v7 : slices_EqualFunc_impl_Type_impl_Type_impl_Type_impl_Type_v BA BA2 = eqL BA BA2 := allEq_eqL (E := slices_EqualFunc_impl_Type_impl_Type_impl_Type_impl_Type_E) (fun x y hx hy => by
    constructor
    · intro h
      have hh : (nth x 0).int = (nth y 0).int ∧ (nth x 1).int = (nth y 1).int ∧ (nth x 2).bool = (nth y 2).bool ∧ (nth x 3).bool = (nth y 3).bool ∧ (nth x 4).list = (nth y 4).list ∧ (nth x 5).list = (nth y 5).list ∧ (nth x 6).list = (nth y 6).list ∧ (nth x 7).list = (nth y 7).list ∧ (nth x 8).int = (nth y 8).int := by
        have h : sameV (nth x 0).int (nth x 1).int (nth x 2).bool (nth x 3).bool (nth x 4).list (nth x 5).list (nth x 6).list (nth x 7).list (nth x 8).int (nth y 0).int (nth y 1).int (nth y 2).bool (nth y 3).bool (nth y 4).list (nth y 5).list (nth y 6).list (nth y 7).list (nth y 8).int = true := h
        simp only [sameV, Bool.and_eq_true, beq_iff_eq, eqL_iff] at h
        exact ⟨h.1, h.2.1, h.2.2.1, h.2.2.2.1, h.2.2.2.2.2.1, h.2.2.2.2.2.2.1, h.2.2.2.2.2.2.2.1, h.2.2.2.2.2.2.2.2, h.2.2.2.2.1⟩
      obtain ⟨e0, e1, e2, e3, e4, e5, e6, e7, e8⟩ := hh
      have hx' := form_55 a7 hx
      have hy' := form_55 b7 hy
      rw [hx', hy', e0, e1, e2, e3, e4, e5, e6, e7, e8]
    · rintro rfl
      show sameV (nth x 0).int (nth x 1).int (nth x 2).bool (nth x 3).bool (nth x 4).list (nth x 5).list (nth x 6).list (nth x 7).list (nth x 8).int (nth x 0).int (nth x 1).int (nth x 2).bool (nth x 3).bool (nth x 4).list (nth x 5).list (nth x 6).list (nth x 7).list (nth x 8).int = true
      simp [sameV, eqL_refl])
  constructor
  · unfold impl_SameType_c
    simp only [c4, c5, c6, c7, Bool.true_and, Bool.and_true, bif_same]
  · unfold impl_SameType_v sameV
    rw [v4, v5, v6, v7]
    simp only [bif_ft]
theorem impl_SameType_nxr (k : Int) (s : Int) (sg : Bool) (bg : Bool) (NA : List (List TC)) (NU : List (List TC)) (ME : List (List TC)) (BA : List (List TC)) (ct : Int) (k2 : Int) (s2 : Int) (sg2 : Bool) (bg2 : Bool) (NA2 : List (List TC)) (NU2 : List (List TC)) (ME2 : List (List TC)) (BA2 : List (List TC)) (ct2 : Int) : impl_SameType_rc (i_impl_SameType := ⟨impl_SameType_O.n + 1⟩) k s sg bg NA NU ME BA ct k2 s2 sg2 bg2 NA2 NU2 ME2 BA2 ct2 = true → (impl_SameType_c k s sg bg NA NU ME BA ct k2 s2 sg2 bg2 NA2 NU2 ME2 BA2 ct2) = true ∧ (impl_SameType_v k s sg bg NA NU ME BA ct k2 s2 sg2 bg2 NA2 NU2 ME2 BA2 ct2) = (impl_SameType_rv k s sg bg NA NU ME BA ct k2 s2 sg2 bg2 NA2 NU2 ME2 BA2 ct2) := fun h => impl_SameType_nx k s sg bg NA NU ME BA ct k2 s2 sg2 bg2 NA2 NU2 ME2 BA2 ct2 h
theorem impl_SameType_rs : ∀ xs r, impl_SameType_rS (i_impl_SameType := ⟨impl_SameType_O.n + 1⟩) xs = some (true, r) → runF tab FT D28 live 72 noLoops xs = some r := by
  intro xs r h
  unfold impl_SameType_rS at h
  split at h
  · simp only [Option.some.injEq, Prod.mk.injEq] at h
    obtain ⟨h1, rfl⟩ := h
    have hx := impl_SameType_nxr _ _ _ _ _ _ _ _ _ _ _ _ _ _ _ _ _ _ h1
    have ht := fun_told (impl_SameType_e _ _ _ _ _ _ _ _ _ _ _ _ _ _ _ _ _ _) (impl_SameType_l _ _ _ _ _ _ _ _ _ _ _ _ _ _ _ _ _ _) hx.1
    rw [hx.2] at ht
    exact ht
  · cases h
theorem impl_SameType_step : impl_SameType_G (i_impl_SameType := ⟨impl_SameType_O.n + 1⟩) := by
  have h := DOk.also2 (S := impl_SameType_rS (i_impl_SameType := ⟨impl_SameType_O.n + 1⟩)) mixed_ok tab_ok names_ok d24 d28 noLoops_ok impl_SameType_rs
  refine impl_SameType_G.mk (i_impl_SameType := ⟨impl_SameType_O.n + 1⟩) ?_
  exact h
/-! impl_SameArray -/
noncomputable def impl_SameArray_t (a0 : Int) (a1 : Int) (a2 : Bool) (a3 : Bool) (a4 : List (List TC)) (a5 : List (List TC)) (a6 : List (List TC)) (a7 : List (List TC)) (a8 : Int) (a9 : List (List TC)) (a10 : List UInt8) (a11 : Int) (a12 : Int) (a13 : Bool) (a14 : Bool) (a15 : List (List TC)) (a16 : List (List TC)) (a17 : List (List TC)) (a18 : List (List TC)) (a19 : Int) (a20 : List (List TC)) (a21 : List UInt8) : Tr (Bool) := (.ite ((impl_SameType_rc a0 a1 a2 a3 a4 a5 a6 a7 a8 a11 a12 a13 a14 a15 a16 a17 a18 a19) = true) (.ite ((impl_SameType_rv a0 a1 a2 a3 a4 a5 a6 a7 a8 a11 a12 a13 a14 a15 a16 a17 a18 a19) = true) (.ite ((slices_Equal_int64_int64_c a9 a20) = true) (.ite ((slices_Equal_int64_int64_v a9 a20) = true) (.ok (a10 == a21))
     (.ok false))
    .no)
   (.ok false))
  .no)
def impl_SameArray_mk (p : Bool) : Res := [(false, [⟨.bool, .sh, TC.b p⟩])]
noncomputable def impl_SameArray_c (a0 : Int) (a1 : Int) (a2 : Bool) (a3 : Bool) (a4 : List (List TC)) (a5 : List (List TC)) (a6 : List (List TC)) (a7 : List (List TC)) (a8 : Int) (a9 : List (List TC)) (a10 : List UInt8) (a11 : Int) (a12 : Int) (a13 : Bool) (a14 : Bool) (a15 : List (List TC)) (a16 : List (List TC)) (a17 : List (List TC)) (a18 : List (List TC)) (a19 : Int) (a20 : List (List TC)) (a21 : List UInt8) : Bool := ((impl_SameType_rc a0 a1 a2 a3 a4 a5 a6 a7 a8 a11 a12 a13 a14 a15 a16 a17 a18 a19) && (bif (impl_SameType_rv a0 a1 a2 a3 a4 a5 a6 a7 a8 a11 a12 a13 a14 a15 a16 a17 a18 a19) then ((slices_Equal_int64_int64_c a9 a20) && (bif (slices_Equal_int64_int64_v a9 a20) then true else true)) else true))
noncomputable def impl_SameArray_v (a0 : Int) (a1 : Int) (a2 : Bool) (a3 : Bool) (a4 : List (List TC)) (a5 : List (List TC)) (a6 : List (List TC)) (a7 : List (List TC)) (a8 : Int) (a9 : List (List TC)) (a10 : List UInt8) (a11 : Int) (a12 : Int) (a13 : Bool) (a14 : Bool) (a15 : List (List TC)) (a16 : List (List TC)) (a17 : List (List TC)) (a18 : List (List TC)) (a19 : Int) (a20 : List (List TC)) (a21 : List UInt8) : Bool := (bif (impl_SameType_rv a0 a1 a2 a3 a4 a5 a6 a7 a8 a11 a12 a13 a14 a15 a16 a17 a18 a19) then (bif (slices_Equal_int64_int64_v a9 a20) then (a10 == a21) else false) else false)
theorem impl_SameArray_l (a0 : Int) (a1 : Int) (a2 : Bool) (a3 : Bool) (a4 : List (List TC)) (a5 : List (List TC)) (a6 : List (List TC)) (a7 : List (List TC)) (a8 : Int) (a9 : List (List TC)) (a10 : List UInt8) (a11 : Int) (a12 : Int) (a13 : Bool) (a14 : Bool) (a15 : List (List TC)) (a16 : List (List TC)) (a17 : List (List TC)) (a18 : List (List TC)) (a19 : Int) (a20 : List (List TC)) (a21 : List UInt8) : (impl_SameArray_c a0 a1 a2 a3 a4 a5 a6 a7 a8 a9 a10 a11 a12 a13 a14 a15 a16 a17 a18 a19 a20 a21) = true → (impl_SameArray_t a0 a1 a2 a3 a4 a5 a6 a7 a8 a9 a10 a11 a12 a13 a14 a15 a16 a17 a18 a19 a20 a21).val = some (impl_SameArray_v a0 a1 a2 a3 a4 a5 a6 a7 a8 a9 a10 a11 a12 a13 a14 a15 a16 a17 a18 a19 a20 a21) := by
  unfold impl_SameArray_t impl_SameArray_v impl_SameArray_c
  exact fun h => (Tr.gb h fun h => (Tr.ss h (fun h => (Tr.gb h fun h => (Tr.ss h (fun h => rfl) (fun h => rfl)))) (fun h => rfl)))
noncomputable def impl_SameArray_S : List Arg → Option (Bool × Res) := fun xs => match xs with
  | [(true, [(.int .i64, TC.i a0), (.int .i64, TC.i a1), (.bool, TC.b a2), (.bool, TC.b a3), (.slice 9, TC.l a4), (.slice 2, TC.l a5), (.slice 147, TC.l a6), (.slice 55, TC.l a7), (.int .i64, TC.i a8), (.slice 2, TC.l a9), (.str, TC.s a10)]), (true, [(.int .i64, TC.i a11), (.int .i64, TC.i a12), (.bool, TC.b a13), (.bool, TC.b a14), (.slice 9, TC.l a15), (.slice 2, TC.l a16), (.slice 147, TC.l a17), (.slice 55, TC.l a18), (.int .i64, TC.i a19), (.slice 2, TC.l a20), (.str, TC.s a21)])] => some ((impl_SameArray_c a0 a1 a2 a3 a4 a5 a6 a7 a8 a9 a10 a11 a12 a13 a14 a15 a16 a17 a18 a19 a20 a21), impl_SameArray_mk (impl_SameArray_v a0 a1 a2 a3 a4 a5 a6 a7 a8 a9 a10 a11 a12 a13 a14 a15 a16 a17 a18 a19 a20 a21))
  | _ => .none
theorem impl_SameArray_e (a0 : Int) (a1 : Int) (a2 : Bool) (a3 : Bool) (a4 : List (List TC)) (a5 : List (List TC)) (a6 : List (List TC)) (a7 : List (List TC)) (a8 : Int) (a9 : List (List TC)) (a10 : List UInt8) (a11 : Int) (a12 : Int) (a13 : Bool) (a14 : Bool) (a15 : List (List TC)) (a16 : List (List TC)) (a17 : List (List TC)) (a18 : List (List TC)) (a19 : Int) (a20 : List (List TC)) (a21 : List UInt8) : runF tab FT D28 live 58 noLoops [(true, [(.int .i64, TC.i a0), (.int .i64, TC.i a1), (.bool, TC.b a2), (.bool, TC.b a3), (.slice 9, TC.l a4), (.slice 2, TC.l a5), (.slice 147, TC.l a6), (.slice 55, TC.l a7), (.int .i64, TC.i a8), (.slice 2, TC.l a9), (.str, TC.s a10)]), (true, [(.int .i64, TC.i a11), (.int .i64, TC.i a12), (.bool, TC.b a13), (.bool, TC.b a14), (.slice 9, TC.l a15), (.slice 2, TC.l a16), (.slice 147, TC.l a17), (.slice 55, TC.l a18), (.int .i64, TC.i a19), (.slice 2, TC.l a20), (.str, TC.s a21)])] = (impl_SameArray_t a0 a1 a2 a3 a4 a5 a6 a7 a8 a9 a10 a11 a12 a13 a14 a15 a16 a17 a18 a19 a20 a21).run fun p => some (impl_SameArray_mk p) := by kernel_rfl
theorem impl_SameArray_s : ∀ xs r, impl_SameArray_S xs = some (true, r) → runF tab FT D28 live 58 noLoops xs = some r := by
  intro xs r h
  unfold impl_SameArray_S at h
  split at h
  · simp only [Option.some.injEq, Prod.mk.injEq] at h
    obtain ⟨h1, rfl⟩ := h
    exact fun_told (impl_SameArray_e _ _ _ _ _ _ _ _ _ _ _ _ _ _ _ _ _ _ _ _ _ _) (impl_SameArray_l _ _ _ _ _ _ _ _ _ _ _ _ _ _ _ _ _ _ _ _ _ _) h1
  · cases h
noncomputable def D29 : Dt := also D28 58 impl_SameArray_S
theorem d29 : DOk Go.Proofs.Try.prog tab D29 := d28.also mixed_ok tab_ok names_ok noLoops_ok impl_SameArray_s
/-! impl_SameAttribute -/
noncomputable def impl_SameAttribute_t (a0 : List UInt8) (a1 : Int) (a2 : Int) (a3 : Bool) (a4 : Bool) (a5 : List (List TC)) (a6 : List (List TC)) (a7 : List (List TC)) (a8 : List (List TC)) (a9 : Int) (a10 : List (List TC)) (a11 : List UInt8) (a12 : List UInt8) (a13 : Int) (a14 : Int) (a15 : Bool) (a16 : Bool) (a17 : List (List TC)) (a18 : List (List TC)) (a19 : List (List TC)) (a20 : List (List TC)) (a21 : Int) (a22 : List (List TC)) (a23 : List UInt8) : Tr (Bool) := (.ite ((a0 == a12) = true) (.ite ((impl_SameArray_c a1 a2 a3 a4 a5 a6 a7 a8 a9 a10 a11 a13 a14 a15 a16 a17 a18 a19 a20 a21 a22 a23) = true) (.ok (impl_SameArray_v a1 a2 a3 a4 a5 a6 a7 a8 a9 a10 a11 a13 a14 a15 a16 a17 a18 a19 a20 a21 a22 a23))
   .no)
  (.ok false))
def impl_SameAttribute_mk (p : Bool) : Res := [(false, [⟨.bool, .sh, TC.b p⟩])]
noncomputable def impl_SameAttribute_c (a0 : List UInt8) (a1 : Int) (a2 : Int) (a3 : Bool) (a4 : Bool) (a5 : List (List TC)) (a6 : List (List TC)) (a7 : List (List TC)) (a8 : List (List TC)) (a9 : Int) (a10 : List (List TC)) (a11 : List UInt8) (a12 : List UInt8) (a13 : Int) (a14 : Int) (a15 : Bool) (a16 : Bool) (a17 : List (List TC)) (a18 : List (List TC)) (a19 : List (List TC)) (a20 : List (List TC)) (a21 : Int) (a22 : List (List TC)) (a23 : List UInt8) : Bool := (impl_SameArray_c a1 a2 a3 a4 a5 a6 a7 a8 a9 a10 a11 a13 a14 a15 a16 a17 a18 a19 a20 a21 a22 a23)
noncomputable def impl_SameAttribute_v (a0 : List UInt8) (a1 : Int) (a2 : Int) (a3 : Bool) (a4 : Bool) (a5 : List (List TC)) (a6 : List (List TC)) (a7 : List (List TC)) (a8 : List (List TC)) (a9 : Int) (a10 : List (List TC)) (a11 : List UInt8) (a12 : List UInt8) (a13 : Int) (a14 : Int) (a15 : Bool) (a16 : Bool) (a17 : List (List TC)) (a18 : List (List TC)) (a19 : List (List TC)) (a20 : List (List TC)) (a21 : Int) (a22 : List (List TC)) (a23 : List UInt8) : Bool := (bif (a0 == a12) then (impl_SameArray_v a1 a2 a3 a4 a5 a6 a7 a8 a9 a10 a11 a13 a14 a15 a16 a17 a18 a19 a20 a21 a22 a23) else false)
theorem impl_SameAttribute_l (a0 : List UInt8) (a1 : Int) (a2 : Int) (a3 : Bool) (a4 : Bool) (a5 : List (List TC)) (a6 : List (List TC)) (a7 : List (List TC)) (a8 : List (List TC)) (a9 : Int) (a10 : List (List TC)) (a11 : List UInt8) (a12 : List UInt8) (a13 : Int) (a14 : Int) (a15 : Bool) (a16 : Bool) (a17 : List (List TC)) (a18 : List (List TC)) (a19 : List (List TC)) (a20 : List (List TC)) (a21 : Int) (a22 : List (List TC)) (a23 : List UInt8) : (impl_SameAttribute_c a0 a1 a2 a3 a4 a5 a6 a7 a8 a9 a10 a11 a12 a13 a14 a15 a16 a17 a18 a19 a20 a21 a22 a23) = true → (impl_SameAttribute_t a0 a1 a2 a3 a4 a5 a6 a7 a8 a9 a10 a11 a12 a13 a14 a15 a16 a17 a18 a19 a20 a21 a22 a23).val = some (impl_SameAttribute_v a0 a1 a2 a3 a4 a5 a6 a7 a8 a9 a10 a11 a12 a13 a14 a15 a16 a17 a18 a19 a20 a21 a22 a23) := by
  intro h
  have g0 : (impl_SameArray_c a1 a2 a3 a4 a5 a6 a7 a8 a9 a10 a11 a13 a14 a15 a16 a17 a18 a19 a20 a21 a22 a23) = true := h
  unfold impl_SameAttribute_t impl_SameAttribute_v
  exact (Tr.s (Tr.t g0 rfl) rfl)
noncomputable def impl_SameAttribute_S : List Arg → Option (Bool × Res) := fun xs => match xs with
  | [(true, [(.str, TC.s a0), (.int .i64, TC.i a1), (.int .i64, TC.i a2), (.bool, TC.b a3), (.bool, TC.b a4), (.slice 9, TC.l a5), (.slice 2, TC.l a6), (.slice 147, TC.l a7), (.slice 55, TC.l a8), (.int .i64, TC.i a9), (.slice 2, TC.l a10), (.str, TC.s a11)]), (true, [(.str, TC.s a12), (.int .i64, TC.i a13), (.int .i64, TC.i a14), (.bool, TC.b a15), (.bool, TC.b a16), (.slice 9, TC.l a17), (.slice 2, TC.l a18), (.slice 147, TC.l a19), (.slice 55, TC.l a20), (.int .i64, TC.i a21), (.slice 2, TC.l a22), (.str, TC.s a23)])] => some ((impl_SameAttribute_c a0 a1 a2 a3 a4 a5 a6 a7 a8 a9 a10 a11 a12 a13 a14 a15 a16 a17 a18 a19 a20 a21 a22 a23), impl_SameAttribute_mk (impl_SameAttribute_v a0 a1 a2 a3 a4 a5 a6 a7 a8 a9 a10 a11 a12 a13 a14 a15 a16 a17 a18 a19 a20 a21 a22 a23))
  | _ => .none
theorem impl_SameAttribute_e (a0 : List UInt8) (a1 : Int) (a2 : Int) (a3 : Bool) (a4 : Bool) (a5 : List (List TC)) (a6 : List (List TC)) (a7 : List (List TC)) (a8 : List (List TC)) (a9 : Int) (a10 : List (List TC)) (a11 : List UInt8) (a12 : List UInt8) (a13 : Int) (a14 : Int) (a15 : Bool) (a16 : Bool) (a17 : List (List TC)) (a18 : List (List TC)) (a19 : List (List TC)) (a20 : List (List TC)) (a21 : Int) (a22 : List (List TC)) (a23 : List UInt8) : runF tab FT D29 live 25 noLoops [(true, [(.str, TC.s a0), (.int .i64, TC.i a1), (.int .i64, TC.i a2), (.bool, TC.b a3), (.bool, TC.b a4), (.slice 9, TC.l a5), (.slice 2, TC.l a6), (.slice 147, TC.l a7), (.slice 55, TC.l a8), (.int .i64, TC.i a9), (.slice 2, TC.l a10), (.str, TC.s a11)]), (true, [(.str, TC.s a12), (.int .i64, TC.i a13), (.int .i64, TC.i a14), (.bool, TC.b a15), (.bool, TC.b a16), (.slice 9, TC.l a17), (.slice 2, TC.l a18), (.slice 147, TC.l a19), (.slice 55, TC.l a20), (.int .i64, TC.i a21), (.slice 2, TC.l a22), (.str, TC.s a23)])] = (impl_SameAttribute_t a0 a1 a2 a3 a4 a5 a6 a7 a8 a9 a10 a11 a12 a13 a14 a15 a16 a17 a18 a19 a20 a21 a22 a23).run fun p => some (impl_SameAttribute_mk p) := by kernel_rfl
theorem impl_SameAttribute_s : ∀ xs r, impl_SameAttribute_S xs = some (true, r) → runF tab FT D29 live 25 noLoops xs = some r := by
  intro xs r h
  unfold impl_SameAttribute_S at h
  split at h
  · simp only [Option.some.injEq, Prod.mk.injEq] at h
    obtain ⟨h1, rfl⟩ := h
    exact fun_told (impl_SameAttribute_e _ _ _ _ _ _ _ _ _ _ _ _ _ _ _ _ _ _ _ _ _ _ _ _) (impl_SameAttribute_l _ _ _ _ _ _ _ _ _ _ _ _ _ _ _ _ _ _ _ _ _ _ _ _) h1
  · cases h
noncomputable def D30 : Dt := also D29 25 impl_SameAttribute_S
theorem d30 : DOk Go.Proofs.Try.prog tab D30 := d29.also mixed_ok tab_ok names_ok noLoops_ok impl_SameAttribute_s
/-! laws_eqStringS -/
abbrev laws_eqStringS_4_σ := List (List TC) × List (List TC) × Int
abbrev laws_eqStringS_4_ω := (Unit) ⊕ (Unit)
noncomputable def laws_eqStringS_4_step (A : List (List TC)) (C : List (List TC)) (i : Int) : Tr (laws_eqStringS_4_σ ⊕ laws_eqStringS_4_ω) := (.ite ((decide (i < (A.length : Int))) = true) (.ite ((0 : Int) ≤ i ∧ i < (A.length : Int)) (.ite ((0 : Int) ≤ i ∧ i < (C.length : Int)) (.ite ((!((nth (row A i) 0).str == (nth (row C i) 0).str)) = true) (.ok (.inr (.inl ())))
     (.ok (.inl (A, C, (IntKind.wrap .i64 (i + (1 : Int)))))))
    .no)
   .no)
  (.ok (.inr (.inr ()))))
noncomputable def laws_eqStringS_4_st : laws_eqStringS_4_σ → Tr (laws_eqStringS_4_σ ⊕ laws_eqStringS_4_ω) := fun x => (laws_eqStringS_4_step (x.1) (x.2.1) (x.2.2))
noncomputable def laws_eqStringS_o4_1 (A : List (List TC)) (C : List (List TC)) (i : Int) : Bool := is (A = C ∧ Typed tab (.slice 9) (.l A) ∧ i = 0)
noncomputable def laws_eqStringS_4_fin (A : List (List TC)) (C : List (List TC)) (i : Int) : Told laws_eqStringS_4_ω := (.leaf (laws_eqStringS_o4_1 A C i) (.inr ()))
def laws_eqStringS_4_sl (x : laws_eqStringS_4_σ) : List Slot := [⟨.val false [⟨.slice 9, .sh, TC.l (x.1)⟩], ⟨0, 0⟩⟩, ⟨.val false [⟨.slice 9, .sh, TC.l (x.2.1)⟩], ⟨0, 0⟩⟩, ⟨.val false [⟨.int .i64, .sh, TC.i (x.2.2)⟩], ⟨0, 0⟩⟩]
def laws_eqStringS_4_out : laws_eqStringS_4_ω → Ex × List Slot := (Sum.elim (fun x => (.ret, [⟨.val false [⟨.bool, .sh, TC.b false⟩], ⟨0, 0⟩⟩])) (fun x => (.exit 0, [Slot.none])))
noncomputable def laws_eqStringS_lo4 : List Slot → Option (Told (Ex × List Slot)) := fun s => match s with
  | [⟨.val false [⟨.slice 9, .sh, TC.l A⟩], ⟨0, 0⟩⟩, ⟨.val false [⟨.slice 9, .sh, TC.l C⟩], ⟨0, 0⟩⟩, ⟨.val false [⟨.int .i64, .sh, TC.i i⟩], ⟨0, 0⟩⟩] => some (((laws_eqStringS_4_fin A C i)).map laws_eqStringS_4_out)
  | _ => .none
noncomputable def laws_eqStringS_lo : LoopTeller := fun r s => bif Nat.beq r 4 then laws_eqStringS_lo4 s else .none
theorem laws_eqStringS_4_r (A : List (List TC)) (C : List (List TC)) (i : Int) (fuel : Nat) : rounds (rnd tab FT D30 live 18 laws_eqStringS_lo 0 4) leave (fuel + 1) (laws_eqStringS_4_sl (A, C, i)) = ((laws_eqStringS_4_step A C i)).run (goOn (fun s => rounds (rnd tab FT D30 live 18 laws_eqStringS_lo 0 4) leave fuel (laws_eqStringS_4_sl s)) fun w => some (laws_eqStringS_4_out w)) := by kernel_rfl
theorem laws_eqStringS_4_h (A : List (List TC)) (C : List (List TC)) (i : Int) (ow : laws_eqStringS_4_ω) : ((laws_eqStringS_4_fin A C i)).val = some ow → ∃ fuel, loopN laws_eqStringS_4_st fuel (A, C, i) = some ow := by
  intro h
  refine auto_leaf (R := Sum.inr ()) (fun ho => ?_) h
  obtain ⟨rfl, ht, rfl⟩ := is_iff.1 ho
  have hlen : A.length ≤ 140737488351232 := by have := typed_room ht; simp only [show (tab 9).bytes = 16 from rfl] at this; omega
  refine ⟨_, loopN_run (N := A.length) (fun i => (A, A, (i : Int))) (fun i hi => ?_) ?_ A.length 0 (by omega)⟩
  · have c0 : Typed tab (.str) (.s (nth (A.getD i []) 0).str) := typed_s (typed_cell ht (A.getD i []) (mem_getD hi) 0 (by decide))
    show (laws_eqStringS_4_step A A (i : Int)).val = _
    unfold laws_eqStringS_4_step
    refine Tr.t (by simp; omega) ?_
    refine Tr.t (by first | omega | (constructor <;> omega)) ?_
    refine Tr.t (by first | omega | (constructor <;> omega)) ?_
    refine Tr.n (by simp [impl_SameType_rv, laws_szType_rv, laws_toType_rv, spec_SameType_rv]) ?_
    rw [Tr.val_ok, wrap64 (i := (i : Int) + 1) (by omega) (by omega)]; rfl
  · show (laws_eqStringS_4_step A A (A.length : Int)).val = _
    refine Tr.n (by simp) ?_
    rfl
theorem laws_eqStringS_is4 : LoopIs tab FT D30 live 18 laws_eqStringS_lo 0 4 := by
  refine loop_told (sl := laws_eqStringS_4_sl) (step := laws_eqStringS_4_st) (out := laws_eqStringS_4_out) (lor := laws_eqStringS_lo4) (fin := fun x => (laws_eqStringS_4_fin (x.1) (x.2.1) (x.2.2))) (fun _ => rfl) ?_ (fun x n => laws_eqStringS_4_r x.1 x.2.1 x.2.2 n) (fun x ow => laws_eqStringS_4_h x.1 x.2.1 x.2.2 ow)
  intro s t h
  unfold laws_eqStringS_lo4 at h
  split at h
  · cases h; exact ⟨(_, _, _), rfl, rfl⟩
  · cases h
noncomputable def laws_eqStringS_t (A : List (List TC)) (C : List (List TC)) : Tr (Bool) := (.ite ((!((A.length : Int) == (C.length : Int))) = true) (.ok false)
  (.ite ((laws_eqStringS_o4_1 A C (0 : Int)) = true) (.ok true)
   .no))
def laws_eqStringS_mk (p : Bool) : Res := [(false, [⟨.bool, .sh, TC.b p⟩])]
noncomputable def laws_eqStringS_c (A : List (List TC)) (C : List (List TC)) : Bool := is (A = C ∧ Typed tab (.slice 9) (.l A))
noncomputable def laws_eqStringS_v (A : List (List TC)) (C : List (List TC)) : Bool := true
theorem laws_eqStringS_l (A : List (List TC)) (C : List (List TC)) : (laws_eqStringS_c A C) = true → (laws_eqStringS_t A C).val = some (laws_eqStringS_v A C) := by
  intro h
  obtain ⟨rfl, ht⟩ := is_iff.1 h
  unfold laws_eqStringS_t
  refine Tr.n (by simp) ?_
  refine Tr.t (is_true ⟨rfl, ht, rfl⟩) ?_
  rfl
noncomputable def laws_eqStringS_S : List Arg → Option (Bool × Res) := fun xs => match xs with
  | [(false, [(.slice 9, TC.l A)]), (false, [(.slice 9, TC.l C)])] => some ((laws_eqStringS_c A C), laws_eqStringS_mk (laws_eqStringS_v A C))
  | _ => .none
theorem laws_eqStringS_e (A : List (List TC)) (C : List (List TC)) : runF tab FT D30 live 18 laws_eqStringS_lo [(false, [(.slice 9, TC.l A)]), (false, [(.slice 9, TC.l C)])] = (laws_eqStringS_t A C).run fun p => some (laws_eqStringS_mk p) := by kernel_rfl
theorem laws_eqStringS_s : ∀ xs r, laws_eqStringS_S xs = some (true, r) → runF tab FT D30 live 18 laws_eqStringS_lo xs = some r := by
  intro xs r h
  unfold laws_eqStringS_S at h
  split at h
  · simp only [Option.some.injEq, Prod.mk.injEq] at h
    obtain ⟨h1, rfl⟩ := h
    exact fun_told (laws_eqStringS_e _ _) (laws_eqStringS_l _ _) h1
  · cases h
noncomputable def D31 : Dt := also D30 18 laws_eqStringS_S
theorem d31 : DOk Go.Proofs.Try.prog tab D31 := d30.also mixed_ok tab_ok names_ok (fnLoops_one (by kernel_rfl) laws_eqStringS_is4) laws_eqStringS_s
/-! laws_eqInt64S -/
abbrev laws_eqInt64S_4_σ := List (List TC) × List (List TC) × Int
abbrev laws_eqInt64S_4_ω := (Unit) ⊕ (Unit)
noncomputable def laws_eqInt64S_4_step (A : List (List TC)) (C : List (List TC)) (i : Int) : Tr (laws_eqInt64S_4_σ ⊕ laws_eqInt64S_4_ω) := (.ite ((decide (i < (A.length : Int))) = true) (.ite ((0 : Int) ≤ i ∧ i < (A.length : Int)) (.ite ((0 : Int) ≤ i ∧ i < (C.length : Int)) (.ite ((!((nth (row A i) 0).int == (nth (row C i) 0).int)) = true) (.ok (.inr (.inl ())))
     (.ok (.inl (A, C, (IntKind.wrap .i64 (i + (1 : Int)))))))
    .no)
   .no)
  (.ok (.inr (.inr ()))))
noncomputable def laws_eqInt64S_4_st : laws_eqInt64S_4_σ → Tr (laws_eqInt64S_4_σ ⊕ laws_eqInt64S_4_ω) := fun x => (laws_eqInt64S_4_step (x.1) (x.2.1) (x.2.2))
noncomputable def laws_eqInt64S_o4_1 (A : List (List TC)) (C : List (List TC)) (i : Int) : Bool := is (A = C ∧ Typed tab (.slice 2) (.l A) ∧ i = 0)
noncomputable def laws_eqInt64S_4_fin (A : List (List TC)) (C : List (List TC)) (i : Int) : Told laws_eqInt64S_4_ω := (.leaf (laws_eqInt64S_o4_1 A C i) (.inr ()))
def laws_eqInt64S_4_sl (x : laws_eqInt64S_4_σ) : List Slot := [⟨.val false [⟨.slice 2, .sh, TC.l (x.1)⟩], ⟨0, 0⟩⟩, ⟨.val false [⟨.slice 2, .sh, TC.l (x.2.1)⟩], ⟨0, 0⟩⟩, ⟨.val false [⟨.int .i64, .sh, TC.i (x.2.2)⟩], ⟨0, 0⟩⟩]
def laws_eqInt64S_4_out : laws_eqInt64S_4_ω → Ex × List Slot := (Sum.elim (fun x => (.ret, [⟨.val false [⟨.bool, .sh, TC.b false⟩], ⟨0, 0⟩⟩])) (fun x => (.exit 0, [Slot.none])))
noncomputable def laws_eqInt64S_lo4 : List Slot → Option (Told (Ex × List Slot)) := fun s => match s with
  | [⟨.val false [⟨.slice 2, .sh, TC.l A⟩], ⟨0, 0⟩⟩, ⟨.val false [⟨.slice 2, .sh, TC.l C⟩], ⟨0, 0⟩⟩, ⟨.val false [⟨.int .i64, .sh, TC.i i⟩], ⟨0, 0⟩⟩] => some (((laws_eqInt64S_4_fin A C i)).map laws_eqInt64S_4_out)
  | _ => .none
noncomputable def laws_eqInt64S_lo : LoopTeller := fun r s => bif Nat.beq r 4 then laws_eqInt64S_lo4 s else .none
theorem laws_eqInt64S_4_r (A : List (List TC)) (C : List (List TC)) (i : Int) (fuel : Nat) : rounds (rnd tab FT D31 live 78 laws_eqInt64S_lo 0 4) leave (fuel + 1) (laws_eqInt64S_4_sl (A, C, i)) = ((laws_eqInt64S_4_step A C i)).run (goOn (fun s => rounds (rnd tab FT D31 live 78 laws_eqInt64S_lo 0 4) leave fuel (laws_eqInt64S_4_sl s)) fun w => some (laws_eqInt64S_4_out w)) := by kernel_rfl
theorem laws_eqInt64S_4_h (A : List (List TC)) (C : List (List TC)) (i : Int) (ow : laws_eqInt64S_4_ω) : ((laws_eqInt64S_4_fin A C i)).val = some ow → ∃ fuel, loopN laws_eqInt64S_4_st fuel (A, C, i) = some ow := by
  intro h
  refine auto_leaf (R := Sum.inr ()) (fun ho => ?_) h
  obtain ⟨rfl, ht, rfl⟩ := is_iff.1 ho
  have hlen : A.length ≤ 140737488351232 := by have := typed_room ht; simp only [show (tab 2).bytes = 8 from rfl] at this; omega
  refine ⟨_, loopN_run (N := A.length) (fun i => (A, A, (i : Int))) (fun i hi => ?_) ?_ A.length 0 (by omega)⟩
  · skip
    show (laws_eqInt64S_4_step A A (i : Int)).val = _
    unfold laws_eqInt64S_4_step
    refine Tr.t (by simp; omega) ?_
    refine Tr.t (by first | omega | (constructor <;> omega)) ?_
    refine Tr.t (by first | omega | (constructor <;> omega)) ?_
    refine Tr.n (by simp [impl_SameType_rv, laws_szType_rv, laws_toType_rv, spec_SameType_rv]) ?_
    rw [Tr.val_ok, wrap64 (i := (i : Int) + 1) (by omega) (by omega)]; rfl
  · show (laws_eqInt64S_4_step A A (A.length : Int)).val = _
    refine Tr.n (by simp) ?_
    rfl
theorem laws_eqInt64S_is4 : LoopIs tab FT D31 live 78 laws_eqInt64S_lo 0 4 := by
  refine loop_told (sl := laws_eqInt64S_4_sl) (step := laws_eqInt64S_4_st) (out := laws_eqInt64S_4_out) (lor := laws_eqInt64S_lo4) (fin := fun x => (laws_eqInt64S_4_fin (x.1) (x.2.1) (x.2.2))) (fun _ => rfl) ?_ (fun x n => laws_eqInt64S_4_r x.1 x.2.1 x.2.2 n) (fun x ow => laws_eqInt64S_4_h x.1 x.2.1 x.2.2 ow)
  intro s t h
  unfold laws_eqInt64S_lo4 at h
  split at h
  · cases h; exact ⟨(_, _, _), rfl, rfl⟩
  · cases h
noncomputable def laws_eqInt64S_t (A : List (List TC)) (C : List (List TC)) : Tr (Bool) := (.ite ((!((A.length : Int) == (C.length : Int))) = true) (.ok false)
  (.ite ((laws_eqInt64S_o4_1 A C (0 : Int)) = true) (.ok true)
   .no))
def laws_eqInt64S_mk (p : Bool) : Res := [(false, [⟨.bool, .sh, TC.b p⟩])]
noncomputable def laws_eqInt64S_c (A : List (List TC)) (C : List (List TC)) : Bool := is (A = C ∧ Typed tab (.slice 2) (.l A))
noncomputable def laws_eqInt64S_v (A : List (List TC)) (C : List (List TC)) : Bool := true
theorem laws_eqInt64S_l (A : List (List TC)) (C : List (List TC)) : (laws_eqInt64S_c A C) = true → (laws_eqInt64S_t A C).val = some (laws_eqInt64S_v A C) := by
  intro h
  obtain ⟨rfl, ht⟩ := is_iff.1 h
  unfold laws_eqInt64S_t
  refine Tr.n (by simp) ?_
  refine Tr.t (is_true ⟨rfl, ht, rfl⟩) ?_
  rfl
noncomputable def laws_eqInt64S_S : List Arg → Option (Bool × Res) := fun xs => match xs with
  | [(false, [(.slice 2, TC.l A)]), (false, [(.slice 2, TC.l C)])] => some ((laws_eqInt64S_c A C), laws_eqInt64S_mk (laws_eqInt64S_v A C))
  | _ => .none
theorem laws_eqInt64S_e (A : List (List TC)) (C : List (List TC)) : runF tab FT D31 live 78 laws_eqInt64S_lo [(false, [(.slice 2, TC.l A)]), (false, [(.slice 2, TC.l C)])] = (laws_eqInt64S_t A C).run fun p => some (laws_eqInt64S_mk p) := by kernel_rfl
theorem laws_eqInt64S_s : ∀ xs r, laws_eqInt64S_S xs = some (true, r) → runF tab FT D31 live 78 laws_eqInt64S_lo xs = some r := by
  intro xs r h
  unfold laws_eqInt64S_S at h
  split at h
  · simp only [Option.some.injEq, Prod.mk.injEq] at h
    obtain ⟨h1, rfl⟩ := h
    exact fun_told (laws_eqInt64S_e _ _) (laws_eqInt64S_l _ _) h1
  · cases h
noncomputable def D32 : Dt := also D31 78 laws_eqInt64S_S
theorem d32 : DOk Go.Proofs.Try.prog tab D32 := d31.also mixed_ok tab_ok names_ok (fnLoops_one (by kernel_rfl) laws_eqInt64S_is4) laws_eqInt64S_s
/-! laws_eqType calls itself -/
section
class laws_eqType_O where n : Nat
variable [i_laws_eqType : laws_eqType_O]
noncomputable def laws_eqType_rc (x0 : Int) (x1 : Int) (x2 : Bool) (x3 : Bool) (x4 : List (List TC)) (x5 : List (List TC)) (x6 : List (List TC)) (x7 : List (List TC)) (x8 : Int) (y0 : Int) (y1 : Int) (y2 : Bool) (y3 : Bool) (y4 : List (List TC)) (y5 : List (List TC)) (y6 : List (List TC)) (y7 : List (List TC)) (y8 : Int) : Bool := is (max (rowsDep x6) (rowsDep x7) < laws_eqType_O.n ∧ x0 = y0 ∧ x1 = y1 ∧ x2 = y2 ∧ x3 = y3 ∧ x4 = y4 ∧ x5 = y5 ∧ x6 = y6 ∧ x7 = y7 ∧ x8 = y8 ∧ Typed tab (.slice 9) (.l x4) ∧ Typed tab (.slice 2) (.l x5) ∧ Typed tab (.slice 147) (.l x6) ∧ Typed tab (.slice 55) (.l x7))
noncomputable def laws_eqType_rv (x0 : Int) (x1 : Int) (x2 : Bool) (x3 : Bool) (x4 : List (List TC)) (x5 : List (List TC)) (x6 : List (List TC)) (x7 : List (List TC)) (x8 : Int) (y0 : Int) (y1 : Int) (y2 : Bool) (y3 : Bool) (y4 : List (List TC)) (y5 : List (List TC)) (y6 : List (List TC)) (y7 : List (List TC)) (y8 : Int) : Bool := true
def laws_eqType_rmk (p : Bool) : Res := [(false, [⟨.bool, .sh, TC.b p⟩])]
noncomputable def laws_eqType_rS : List Arg → Option (Bool × Res) := fun xs => match xs with
  | [(true, [(.int .i64, TC.i x0), (.int .i64, TC.i x1), (.bool, TC.b x2), (.bool, TC.b x3), (.slice 9, TC.l x4), (.slice 2, TC.l x5), (.slice 147, TC.l x6), (.slice 55, TC.l x7), (.int .i64, TC.i x8)]), (true, [(.int .i64, TC.i y0), (.int .i64, TC.i y1), (.bool, TC.b y2), (.bool, TC.b y3), (.slice 9, TC.l y4), (.slice 2, TC.l y5), (.slice 147, TC.l y6), (.slice 55, TC.l y7), (.int .i64, TC.i y8)])] => some ((laws_eqType_rc x0 x1 x2 x3 x4 x5 x6 x7 x8 y0 y1 y2 y3 y4 y5 y6 y7 y8), laws_eqType_rmk (laws_eqType_rv x0 x1 x2 x3 x4 x5 x6 x7 x8 y0 y1 y2 y3 y4 y5 y6 y7 y8))
  | _ => .none
noncomputable def D33 : Dt := also D32 76 laws_eqType_rS
class laws_eqType_G : Prop where ok : DOk Go.Proofs.Try.prog tab D33
variable [g_laws_eqType : laws_eqType_G]
theorem d33 : DOk Go.Proofs.Try.prog tab D33 := laws_eqType_G.ok
/-! laws_eqMember -/
noncomputable def laws_eqMember_t (x0 : List UInt8) (x1 : Int) (x2 : Int) (x3 : Int) (x4 : Bool) (x5 : Bool) (x6 : List (List TC)) (x7 : List (List TC)) (x8 : List (List TC)) (x9 : List (List TC)) (x10 : Int) (y0 : List UInt8) (y1 : Int) (y2 : Int) (y3 : Int) (y4 : Bool) (y5 : Bool) (y6 : List (List TC)) (y7 : List (List TC)) (y8 : List (List TC)) (y9 : List (List TC)) (y10 : Int) : Tr (Bool) := (.ite ((!(x0 == y0)) = true) (.ok false)
  (.ite ((!(x1 == y1)) = true) (.ok false)
   (.ite ((laws_eqType_rc x2 x3 x4 x5 x6 x7 x8 x9 x10 y2 y3 y4 y5 y6 y7 y8 y9 y10) = true) (.ite ((!(laws_eqType_rv x2 x3 x4 x5 x6 x7 x8 x9 x10 y2 y3 y4 y5 y6 y7 y8 y9 y10)) = true) (.ok false)
     (.ok true))
    .no)))
def laws_eqMember_mk (p : Bool) : Res := [(false, [⟨.bool, .sh, TC.b p⟩])]
noncomputable def laws_eqMember_c (x0 : List UInt8) (x1 : Int) (x2 : Int) (x3 : Int) (x4 : Bool) (x5 : Bool) (x6 : List (List TC)) (x7 : List (List TC)) (x8 : List (List TC)) (x9 : List (List TC)) (x10 : Int) (y0 : List UInt8) (y1 : Int) (y2 : Int) (y3 : Int) (y4 : Bool) (y5 : Bool) (y6 : List (List TC)) (y7 : List (List TC)) (y8 : List (List TC)) (y9 : List (List TC)) (y10 : Int) : Bool := (bif (!(x0 == y0)) then true else (bif (!(x1 == y1)) then true else ((laws_eqType_rc x2 x3 x4 x5 x6 x7 x8 x9 x10 y2 y3 y4 y5 y6 y7 y8 y9 y10) && (bif (!(laws_eqType_rv x2 x3 x4 x5 x6 x7 x8 x9 x10 y2 y3 y4 y5 y6 y7 y8 y9 y10)) then true else true))))
noncomputable def laws_eqMember_v (x0 : List UInt8) (x1 : Int) (x2 : Int) (x3 : Int) (x4 : Bool) (x5 : Bool) (x6 : List (List TC)) (x7 : List (List TC)) (x8 : List (List TC)) (x9 : List (List TC)) (x10 : Int) (y0 : List UInt8) (y1 : Int) (y2 : Int) (y3 : Int) (y4 : Bool) (y5 : Bool) (y6 : List (List TC)) (y7 : List (List TC)) (y8 : List (List TC)) (y9 : List (List TC)) (y10 : Int) : Bool := (bif (!(x0 == y0)) then false else (bif (!(x1 == y1)) then false else (bif (!(laws_eqType_rv x2 x3 x4 x5 x6 x7 x8 x9 x10 y2 y3 y4 y5 y6 y7 y8 y9 y10)) then false else true)))
theorem laws_eqMember_l (x0 : List UInt8) (x1 : Int) (x2 : Int) (x3 : Int) (x4 : Bool) (x5 : Bool) (x6 : List (List TC)) (x7 : List (List TC)) (x8 : List (List TC)) (x9 : List (List TC)) (x10 : Int) (y0 : List UInt8) (y1 : Int) (y2 : Int) (y3 : Int) (y4 : Bool) (y5 : Bool) (y6 : List (List TC)) (y7 : List (List TC)) (y8 : List (List TC)) (y9 : List (List TC)) (y10 : Int) : (laws_eqMember_c x0 x1 x2 x3 x4 x5 x6 x7 x8 x9 x10 y0 y1 y2 y3 y4 y5 y6 y7 y8 y9 y10) = true → (laws_eqMember_t x0 x1 x2 x3 x4 x5 x6 x7 x8 x9 x10 y0 y1 y2 y3 y4 y5 y6 y7 y8 y9 y10).val = some (laws_eqMember_v x0 x1 x2 x3 x4 x5 x6 x7 x8 x9 x10 y0 y1 y2 y3 y4 y5 y6 y7 y8 y9 y10) := by
  unfold laws_eqMember_t laws_eqMember_v laws_eqMember_c
  exact fun h => (Tr.ss h (fun h => rfl) (fun h => (Tr.ss h (fun h => rfl) (fun h => (Tr.gb h fun h => (Tr.ss h (fun h => rfl) (fun h => rfl)))))))
noncomputable def laws_eqMember_S : List Arg → Option (Bool × Res) := fun xs => match xs with
  | [(true, [(.str, TC.s x0), (.int .i64, TC.i x1), (.int .i64, TC.i x2), (.int .i64, TC.i x3), (.bool, TC.b x4), (.bool, TC.b x5), (.slice 9, TC.l x6), (.slice 2, TC.l x7), (.slice 147, TC.l x8), (.slice 55, TC.l x9), (.int .i64, TC.i x10)]), (true, [(.str, TC.s y0), (.int .i64, TC.i y1), (.int .i64, TC.i y2), (.int .i64, TC.i y3), (.bool, TC.b y4), (.bool, TC.b y5), (.slice 9, TC.l y6), (.slice 2, TC.l y7), (.slice 147, TC.l y8), (.slice 55, TC.l y9), (.int .i64, TC.i y10)])] => some ((laws_eqMember_c x0 x1 x2 x3 x4 x5 x6 x7 x8 x9 x10 y0 y1 y2 y3 y4 y5 y6 y7 y8 y9 y10), laws_eqMember_mk (laws_eqMember_v x0 x1 x2 x3 x4 x5 x6 x7 x8 x9 x10 y0 y1 y2 y3 y4 y5 y6 y7 y8 y9 y10))
  | _ => .none
theorem laws_eqMember_e (x0 : List UInt8) (x1 : Int) (x2 : Int) (x3 : Int) (x4 : Bool) (x5 : Bool) (x6 : List (List TC)) (x7 : List (List TC)) (x8 : List (List TC)) (x9 : List (List TC)) (x10 : Int) (y0 : List UInt8) (y1 : Int) (y2 : Int) (y3 : Int) (y4 : Bool) (y5 : Bool) (y6 : List (List TC)) (y7 : List (List TC)) (y8 : List (List TC)) (y9 : List (List TC)) (y10 : Int) : runF tab FT D33 live 139 noLoops [(true, [(.str, TC.s x0), (.int .i64, TC.i x1), (.int .i64, TC.i x2), (.int .i64, TC.i x3), (.bool, TC.b x4), (.bool, TC.b x5), (.slice 9, TC.l x6), (.slice 2, TC.l x7), (.slice 147, TC.l x8), (.slice 55, TC.l x9), (.int .i64, TC.i x10)]), (true, [(.str, TC.s y0), (.int .i64, TC.i y1), (.int .i64, TC.i y2), (.int .i64, TC.i y3), (.bool, TC.b y4), (.bool, TC.b y5), (.slice 9, TC.l y6), (.slice 2, TC.l y7), (.slice 147, TC.l y8), (.slice 55, TC.l y9), (.int .i64, TC.i y10)])] = (laws_eqMember_t x0 x1 x2 x3 x4 x5 x6 x7 x8 x9 x10 y0 y1 y2 y3 y4 y5 y6 y7 y8 y9 y10).run fun p => some (laws_eqMember_mk p) := by kernel_rfl
theorem laws_eqMember_s : ∀ xs r, laws_eqMember_S xs = some (true, r) → runF tab FT D33 live 139 noLoops xs = some r := by
  intro xs r h
  unfold laws_eqMember_S at h
  split at h
  · simp only [Option.some.injEq, Prod.mk.injEq] at h
    obtain ⟨h1, rfl⟩ := h
    exact fun_told (laws_eqMember_e _ _ _ _ _ _ _ _ _ _ _ _ _ _ _ _ _ _ _ _ _ _) (laws_eqMember_l _ _ _ _ _ _ _ _ _ _ _ _ _ _ _ _ _ _ _ _ _ _) h1
  · cases h
noncomputable def D34 : Dt := also D33 139 laws_eqMember_S
theorem d34 : DOk Go.Proofs.Try.prog tab D34 := d33.also mixed_ok tab_ok names_ok noLoops_ok laws_eqMember_s
theorem laws_eqMember_cc {x0 : List UInt8} {x1 : Int} {x2 : Int} {x3 : Int} {x4 : Bool} {x5 : Bool} {x6 : List (List TC)} {x7 : List (List TC)} {x8 : List (List TC)} {x9 : List (List TC)} {x10 : Int} (h0 : (laws_eqType_rc x2 x3 x4 x5 x6 x7 x8 x9 x10 x2 x3 x4 x5 x6 x7 x8 x9 x10) = true) : (laws_eqMember_c x0 x1 x2 x3 x4 x5 x6 x7 x8 x9 x10 x0 x1 x2 x3 x4 x5 x6 x7 x8 x9 x10) = true := by
  unfold laws_eqMember_c
  simp [h0, laws_szType_rv, laws_toType_rv, spec_SameType_rv, impl_SameType_rv, laws_eqType_rv]
/-! laws_eqMemberS -/
abbrev laws_eqMemberS_4_σ := List (List TC) × List (List TC) × Int
abbrev laws_eqMemberS_4_ω := (Unit) ⊕ (Unit)
noncomputable def laws_eqMemberS_4_step (A : List (List TC)) (C : List (List TC)) (i : Int) : Tr (laws_eqMemberS_4_σ ⊕ laws_eqMemberS_4_ω) := (.ite ((decide (i < (A.length : Int))) = true) (.ite ((0 : Int) ≤ i ∧ i < (A.length : Int)) (.ite ((0 : Int) ≤ i ∧ i < (C.length : Int)) (.ite ((laws_eqMember_c ((nth (row A i) 0).str) ((nth (row A i) 1).int) ((nth (row A i) 2).int) ((nth (row A i) 3).int) ((nth (row A i) 4).bool) ((nth (row A i) 5).bool) ((nth (row A i) 6).list) ((nth (row A i) 7).list) ((nth (row A i) 8).list) ((nth (row A i) 9).list) ((nth (row A i) 10).int) ((nth (row C i) 0).str) ((nth (row C i) 1).int) ((nth (row C i) 2).int) ((nth (row C i) 3).int) ((nth (row C i) 4).bool) ((nth (row C i) 5).bool) ((nth (row C i) 6).list) ((nth (row C i) 7).list) ((nth (row C i) 8).list) ((nth (row C i) 9).list) ((nth (row C i) 10).int)) = true) (.ite ((!(laws_eqMember_v ((nth (row A i) 0).str) ((nth (row A i) 1).int) ((nth (row A i) 2).int) ((nth (row A i) 3).int) ((nth (row A i) 4).bool) ((nth (row A i) 5).bool) ((nth (row A i) 6).list) ((nth (row A i) 7).list) ((nth (row A i) 8).list) ((nth (row A i) 9).list) ((nth (row A i) 10).int) ((nth (row C i) 0).str) ((nth (row C i) 1).int) ((nth (row C i) 2).int) ((nth (row C i) 3).int) ((nth (row C i) 4).bool) ((nth (row C i) 5).bool) ((nth (row C i) 6).list) ((nth (row C i) 7).list) ((nth (row C i) 8).list) ((nth (row C i) 9).list) ((nth (row C i) 10).int))) = true) (.ok (.inr (.inl ())))
      (.ok (.inl (A, C, (IntKind.wrap .i64 (i + (1 : Int)))))))
     .no)
    .no)
   .no)
  (.ok (.inr (.inr ()))))
noncomputable def laws_eqMemberS_4_st : laws_eqMemberS_4_σ → Tr (laws_eqMemberS_4_σ ⊕ laws_eqMemberS_4_ω) := fun x => (laws_eqMemberS_4_step (x.1) (x.2.1) (x.2.2))
noncomputable def laws_eqMemberS_o4_1 (A : List (List TC)) (C : List (List TC)) (i : Int) : Bool := is (A = C ∧ Typed tab (.slice 147) (.l A) ∧ (∀ x : List TC, x ∈ A → (laws_eqMember_c ((nth x 0).str) ((nth x 1).int) ((nth x 2).int) ((nth x 3).int) ((nth x 4).bool) ((nth x 5).bool) ((nth x 6).list) ((nth x 7).list) ((nth x 8).list) ((nth x 9).list) ((nth x 10).int) ((nth x 0).str) ((nth x 1).int) ((nth x 2).int) ((nth x 3).int) ((nth x 4).bool) ((nth x 5).bool) ((nth x 6).list) ((nth x 7).list) ((nth x 8).list) ((nth x 9).list) ((nth x 10).int)) = true) ∧ i = 0)
noncomputable def laws_eqMemberS_4_fin (A : List (List TC)) (C : List (List TC)) (i : Int) : Told laws_eqMemberS_4_ω := (.leaf (laws_eqMemberS_o4_1 A C i) (.inr ()))
def laws_eqMemberS_4_sl (x : laws_eqMemberS_4_σ) : List Slot := [⟨.val false [⟨.slice 147, .sh, TC.l (x.1)⟩], ⟨0, 0⟩⟩, ⟨.val false [⟨.slice 147, .sh, TC.l (x.2.1)⟩], ⟨0, 0⟩⟩, ⟨.val false [⟨.int .i64, .sh, TC.i (x.2.2)⟩], ⟨0, 0⟩⟩]
def laws_eqMemberS_4_out : laws_eqMemberS_4_ω → Ex × List Slot := (Sum.elim (fun x => (.ret, [⟨.val false [⟨.bool, .sh, TC.b false⟩], ⟨0, 0⟩⟩])) (fun x => (.exit 0, [Slot.none])))
noncomputable def laws_eqMemberS_lo4 : List Slot → Option (Told (Ex × List Slot)) := fun s => match s with
  | [⟨.val false [⟨.slice 147, .sh, TC.l A⟩], ⟨0, 0⟩⟩, ⟨.val false [⟨.slice 147, .sh, TC.l C⟩], ⟨0, 0⟩⟩, ⟨.val false [⟨.int .i64, .sh, TC.i i⟩], ⟨0, 0⟩⟩] => some (((laws_eqMemberS_4_fin A C i)).map laws_eqMemberS_4_out)
  | _ => .none
noncomputable def laws_eqMemberS_lo : LoopTeller := fun r s => bif Nat.beq r 4 then laws_eqMemberS_lo4 s else .none
theorem laws_eqMemberS_4_r (A : List (List TC)) (C : List (List TC)) (i : Int) (fuel : Nat) : rounds (rnd tab FT D34 live 106 laws_eqMemberS_lo 0 4) leave (fuel + 1) (laws_eqMemberS_4_sl (A, C, i)) = ((laws_eqMemberS_4_step A C i)).run (goOn (fun s => rounds (rnd tab FT D34 live 106 laws_eqMemberS_lo 0 4) leave fuel (laws_eqMemberS_4_sl s)) fun w => some (laws_eqMemberS_4_out w)) := by kernel_rfl
theorem laws_eqMemberS_4_h (A : List (List TC)) (C : List (List TC)) (i : Int) (ow : laws_eqMemberS_4_ω) : ((laws_eqMemberS_4_fin A C i)).val = some ow → ∃ fuel, loopN laws_eqMemberS_4_st fuel (A, C, i) = some ow := by
  intro h
  refine auto_leaf (R := Sum.inr ()) (fun ho => ?_) h
  obtain ⟨rfl, ht, hr0, rfl⟩ := is_iff.1 ho
  have hlen : A.length ≤ 140737488351232 := by have := typed_room ht; simp only [show (tab 147).bytes = 152 from rfl] at this; omega
  refine ⟨_, loopN_run (N := A.length) (fun i => (A, A, (i : Int))) (fun i hi => ?_) ?_ A.length 0 (by omega)⟩
  · have c0 : Typed tab (.str) (.s (nth (A.getD i []) 0).str) := typed_s (typed_cell ht (A.getD i []) (mem_getD hi) 0 (by decide))
    have c6 : Typed tab (.slice 9) (.l (nth (A.getD i []) 6).list) := typed_list (typed_cell ht (A.getD i []) (mem_getD hi) 6 (by decide))
    have c7 : Typed tab (.slice 2) (.l (nth (A.getD i []) 7).list) := typed_list (typed_cell ht (A.getD i []) (mem_getD hi) 7 (by decide))
    have c8 : Typed tab (.slice 147) (.l (nth (A.getD i []) 8).list) := typed_list (typed_cell ht (A.getD i []) (mem_getD hi) 8 (by decide))
    have c9 : Typed tab (.slice 55) (.l (nth (A.getD i []) 9).list) := typed_list (typed_cell ht (A.getD i []) (mem_getD hi) 9 (by decide))
    show (laws_eqMemberS_4_step A A (i : Int)).val = _
    unfold laws_eqMemberS_4_step
    refine Tr.t (by simp; omega) ?_
    refine Tr.t (by first | omega | (constructor <;> omega)) ?_
    refine Tr.t (by first | omega | (constructor <;> omega)) ?_
    refine Tr.t (hr0 (A.getD i []) (mem_getD hi)) ?_
    refine Tr.n (by simp [impl_SameType_rv, laws_eqMember_v, laws_eqType_rv, laws_szType_rv, laws_toType_rv, spec_SameType_rv]) ?_
    rw [Tr.val_ok, wrap64 (i := (i : Int) + 1) (by omega) (by omega)]; rfl
  · show (laws_eqMemberS_4_step A A (A.length : Int)).val = _
    refine Tr.n (by simp) ?_
    rfl
theorem laws_eqMemberS_is4 : LoopIs tab FT D34 live 106 laws_eqMemberS_lo 0 4 := by
  refine loop_told (sl := laws_eqMemberS_4_sl) (step := laws_eqMemberS_4_st) (out := laws_eqMemberS_4_out) (lor := laws_eqMemberS_lo4) (fin := fun x => (laws_eqMemberS_4_fin (x.1) (x.2.1) (x.2.2))) (fun _ => rfl) ?_ (fun x n => laws_eqMemberS_4_r x.1 x.2.1 x.2.2 n) (fun x ow => laws_eqMemberS_4_h x.1 x.2.1 x.2.2 ow)
  intro s t h
  unfold laws_eqMemberS_lo4 at h
  split at h
  · cases h; exact ⟨(_, _, _), rfl, rfl⟩
  · cases h
noncomputable def laws_eqMemberS_t (A : List (List TC)) (C : List (List TC)) : Tr (Bool) := (.ite ((!((A.length : Int) == (C.length : Int))) = true) (.ok false)
  (.ite ((laws_eqMemberS_o4_1 A C (0 : Int)) = true) (.ok true)
   .no))
def laws_eqMemberS_mk (p : Bool) : Res := [(false, [⟨.bool, .sh, TC.b p⟩])]
noncomputable def laws_eqMemberS_c (A : List (List TC)) (C : List (List TC)) : Bool := is (A = C ∧ Typed tab (.slice 147) (.l A) ∧ (∀ x : List TC, x ∈ A → (laws_eqMember_c ((nth x 0).str) ((nth x 1).int) ((nth x 2).int) ((nth x 3).int) ((nth x 4).bool) ((nth x 5).bool) ((nth x 6).list) ((nth x 7).list) ((nth x 8).list) ((nth x 9).list) ((nth x 10).int) ((nth x 0).str) ((nth x 1).int) ((nth x 2).int) ((nth x 3).int) ((nth x 4).bool) ((nth x 5).bool) ((nth x 6).list) ((nth x 7).list) ((nth x 8).list) ((nth x 9).list) ((nth x 10).int)) = true))
noncomputable def laws_eqMemberS_v (A : List (List TC)) (C : List (List TC)) : Bool := true
theorem laws_eqMemberS_l (A : List (List TC)) (C : List (List TC)) : (laws_eqMemberS_c A C) = true → (laws_eqMemberS_t A C).val = some (laws_eqMemberS_v A C) := by
  intro h
  obtain ⟨rfl, ht, hr0⟩ := is_iff.1 h
  unfold laws_eqMemberS_t
  refine Tr.n (by simp) ?_
  refine Tr.t (is_true ⟨rfl, ht, hr0, rfl⟩) ?_
  rfl
noncomputable def laws_eqMemberS_S : List Arg → Option (Bool × Res) := fun xs => match xs with
  | [(false, [(.slice 147, TC.l A)]), (false, [(.slice 147, TC.l C)])] => some ((laws_eqMemberS_c A C), laws_eqMemberS_mk (laws_eqMemberS_v A C))
  | _ => .none
theorem laws_eqMemberS_e (A : List (List TC)) (C : List (List TC)) : runF tab FT D34 live 106 laws_eqMemberS_lo [(false, [(.slice 147, TC.l A)]), (false, [(.slice 147, TC.l C)])] = (laws_eqMemberS_t A C).run fun p => some (laws_eqMemberS_mk p) := by kernel_rfl
theorem laws_eqMemberS_s : ∀ xs r, laws_eqMemberS_S xs = some (true, r) → runF tab FT D34 live 106 laws_eqMemberS_lo xs = some r := by
  intro xs r h
  unfold laws_eqMemberS_S at h
  split at h
  · simp only [Option.some.injEq, Prod.mk.injEq] at h
    obtain ⟨h1, rfl⟩ := h
    exact fun_told (laws_eqMemberS_e _ _) (laws_eqMemberS_l _ _) h1
  · cases h
noncomputable def D35 : Dt := also D34 106 laws_eqMemberS_S
theorem d35 : DOk Go.Proofs.Try.prog tab D35 := d34.also mixed_ok tab_ok names_ok (fnLoops_one (by kernel_rfl) laws_eqMemberS_is4) laws_eqMemberS_s
/-! laws_eqTypeS -/
abbrev laws_eqTypeS_4_σ := List (List TC) × List (List TC) × Int
abbrev laws_eqTypeS_4_ω := (Unit) ⊕ (Unit)
noncomputable def laws_eqTypeS_4_step (A : List (List TC)) (C : List (List TC)) (i : Int) : Tr (laws_eqTypeS_4_σ ⊕ laws_eqTypeS_4_ω) := (.ite ((decide (i < (A.length : Int))) = true) (.ite ((0 : Int) ≤ i ∧ i < (A.length : Int)) (.ite ((0 : Int) ≤ i ∧ i < (C.length : Int)) (.ite ((laws_eqType_rc ((nth (row A i) 0).int) ((nth (row A i) 1).int) ((nth (row A i) 2).bool) ((nth (row A i) 3).bool) ((nth (row A i) 4).list) ((nth (row A i) 5).list) ((nth (row A i) 6).list) ((nth (row A i) 7).list) ((nth (row A i) 8).int) ((nth (row C i) 0).int) ((nth (row C i) 1).int) ((nth (row C i) 2).bool) ((nth (row C i) 3).bool) ((nth (row C i) 4).list) ((nth (row C i) 5).list) ((nth (row C i) 6).list) ((nth (row C i) 7).list) ((nth (row C i) 8).int)) = true) (.ite ((!(laws_eqType_rv ((nth (row A i) 0).int) ((nth (row A i) 1).int) ((nth (row A i) 2).bool) ((nth (row A i) 3).bool) ((nth (row A i) 4).list) ((nth (row A i) 5).list) ((nth (row A i) 6).list) ((nth (row A i) 7).list) ((nth (row A i) 8).int) ((nth (row C i) 0).int) ((nth (row C i) 1).int) ((nth (row C i) 2).bool) ((nth (row C i) 3).bool) ((nth (row C i) 4).list) ((nth (row C i) 5).list) ((nth (row C i) 6).list) ((nth (row C i) 7).list) ((nth (row C i) 8).int))) = true) (.ok (.inr (.inl ())))
      (.ok (.inl (A, C, (IntKind.wrap .i64 (i + (1 : Int)))))))
     .no)
    .no)
   .no)
  (.ok (.inr (.inr ()))))
noncomputable def laws_eqTypeS_4_st : laws_eqTypeS_4_σ → Tr (laws_eqTypeS_4_σ ⊕ laws_eqTypeS_4_ω) := fun x => (laws_eqTypeS_4_step (x.1) (x.2.1) (x.2.2))
noncomputable def laws_eqTypeS_o4_1 (A : List (List TC)) (C : List (List TC)) (i : Int) : Bool := is (A = C ∧ Typed tab (.slice 55) (.l A) ∧ (∀ x : List TC, x ∈ A → (laws_eqType_rc ((nth x 0).int) ((nth x 1).int) ((nth x 2).bool) ((nth x 3).bool) ((nth x 4).list) ((nth x 5).list) ((nth x 6).list) ((nth x 7).list) ((nth x 8).int) ((nth x 0).int) ((nth x 1).int) ((nth x 2).bool) ((nth x 3).bool) ((nth x 4).list) ((nth x 5).list) ((nth x 6).list) ((nth x 7).list) ((nth x 8).int)) = true) ∧ i = 0)
noncomputable def laws_eqTypeS_4_fin (A : List (List TC)) (C : List (List TC)) (i : Int) : Told laws_eqTypeS_4_ω := (.leaf (laws_eqTypeS_o4_1 A C i) (.inr ()))
def laws_eqTypeS_4_sl (x : laws_eqTypeS_4_σ) : List Slot := [⟨.val false [⟨.slice 55, .sh, TC.l (x.1)⟩], ⟨0, 0⟩⟩, ⟨.val false [⟨.slice 55, .sh, TC.l (x.2.1)⟩], ⟨0, 0⟩⟩, ⟨.val false [⟨.int .i64, .sh, TC.i (x.2.2)⟩], ⟨0, 0⟩⟩]
def laws_eqTypeS_4_out : laws_eqTypeS_4_ω → Ex × List Slot := (Sum.elim (fun x => (.ret, [⟨.val false [⟨.bool, .sh, TC.b false⟩], ⟨0, 0⟩⟩])) (fun x => (.exit 0, [Slot.none])))
noncomputable def laws_eqTypeS_lo4 : List Slot → Option (Told (Ex × List Slot)) := fun s => match s with
  | [⟨.val false [⟨.slice 55, .sh, TC.l A⟩], ⟨0, 0⟩⟩, ⟨.val false [⟨.slice 55, .sh, TC.l C⟩], ⟨0, 0⟩⟩, ⟨.val false [⟨.int .i64, .sh, TC.i i⟩], ⟨0, 0⟩⟩] => some (((laws_eqTypeS_4_fin A C i)).map laws_eqTypeS_4_out)
  | _ => .none
noncomputable def laws_eqTypeS_lo : LoopTeller := fun r s => bif Nat.beq r 4 then laws_eqTypeS_lo4 s else .none
theorem laws_eqTypeS_4_r (A : List (List TC)) (C : List (List TC)) (i : Int) (fuel : Nat) : rounds (rnd tab FT D35 live 107 laws_eqTypeS_lo 0 4) leave (fuel + 1) (laws_eqTypeS_4_sl (A, C, i)) = ((laws_eqTypeS_4_step A C i)).run (goOn (fun s => rounds (rnd tab FT D35 live 107 laws_eqTypeS_lo 0 4) leave fuel (laws_eqTypeS_4_sl s)) fun w => some (laws_eqTypeS_4_out w)) := by kernel_rfl
theorem laws_eqTypeS_4_h (A : List (List TC)) (C : List (List TC)) (i : Int) (ow : laws_eqTypeS_4_ω) : ((laws_eqTypeS_4_fin A C i)).val = some ow → ∃ fuel, loopN laws_eqTypeS_4_st fuel (A, C, i) = some ow := by
  intro h
  refine auto_leaf (R := Sum.inr ()) (fun ho => ?_) h
  obtain ⟨rfl, ht, hr0, rfl⟩ := is_iff.1 ho
  have hlen : A.length ≤ 140737488351232 := by have := typed_room ht; simp only [show (tab 55).bytes = 128 from rfl] at this; omega
  refine ⟨_, loopN_run (N := A.length) (fun i => (A, A, (i : Int))) (fun i hi => ?_) ?_ A.length 0 (by omega)⟩
  · have c4 : Typed tab (.slice 9) (.l (nth (A.getD i []) 4).list) := typed_list (typed_cell ht (A.getD i []) (mem_getD hi) 4 (by decide))
    have c5 : Typed tab (.slice 2) (.l (nth (A.getD i []) 5).list) := typed_list (typed_cell ht (A.getD i []) (mem_getD hi) 5 (by decide))
    have c6 : Typed tab (.slice 147) (.l (nth (A.getD i []) 6).list) := typed_list (typed_cell ht (A.getD i []) (mem_getD hi) 6 (by decide))
    have c7 : Typed tab (.slice 55) (.l (nth (A.getD i []) 7).list) := typed_list (typed_cell ht (A.getD i []) (mem_getD hi) 7 (by decide))
    show (laws_eqTypeS_4_step A A (i : Int)).val = _
    unfold laws_eqTypeS_4_step
    refine Tr.t (by simp; omega) ?_
    refine Tr.t (by first | omega | (constructor <;> omega)) ?_
    refine Tr.t (by first | omega | (constructor <;> omega)) ?_
    refine Tr.t (hr0 (A.getD i []) (mem_getD hi)) ?_
    refine Tr.n (by simp [impl_SameType_rv, laws_eqType_rv, laws_szType_rv, laws_toType_rv, spec_SameType_rv]) ?_
    rw [Tr.val_ok, wrap64 (i := (i : Int) + 1) (by omega) (by omega)]; rfl
  · show (laws_eqTypeS_4_step A A (A.length : Int)).val = _
    refine Tr.n (by simp) ?_
    rfl
theorem laws_eqTypeS_is4 : LoopIs tab FT D35 live 107 laws_eqTypeS_lo 0 4 := by
  refine loop_told (sl := laws_eqTypeS_4_sl) (step := laws_eqTypeS_4_st) (out := laws_eqTypeS_4_out) (lor := laws_eqTypeS_lo4) (fin := fun x => (laws_eqTypeS_4_fin (x.1) (x.2.1) (x.2.2))) (fun _ => rfl) ?_ (fun x n => laws_eqTypeS_4_r x.1 x.2.1 x.2.2 n) (fun x ow => laws_eqTypeS_4_h x.1 x.2.1 x.2.2 ow)
  intro s t h
  unfold laws_eqTypeS_lo4 at h
  split at h
  · cases h; exact ⟨(_, _, _), rfl, rfl⟩
  · cases h
noncomputable def laws_eqTypeS_t (A : List (List TC)) (C : List (List TC)) : Tr (Bool) := (.ite ((!((A.length : Int) == (C.length : Int))) = true) (.ok false)
  (.ite ((laws_eqTypeS_o4_1 A C (0 : Int)) = true) (.ok true)
   .no))
def laws_eqTypeS_mk (p : Bool) : Res := [(false, [⟨.bool, .sh, TC.b p⟩])]
noncomputable def laws_eqTypeS_c (A : List (List TC)) (C : List (List TC)) : Bool := is (A = C ∧ Typed tab (.slice 55) (.l A) ∧ (∀ x : List TC, x ∈ A → (laws_eqType_rc ((nth x 0).int) ((nth x 1).int) ((nth x 2).bool) ((nth x 3).bool) ((nth x 4).list) ((nth x 5).list) ((nth x 6).list) ((nth x 7).list) ((nth x 8).int) ((nth x 0).int) ((nth x 1).int) ((nth x 2).bool) ((nth x 3).bool) ((nth x 4).list) ((nth x 5).list) ((nth x 6).list) ((nth x 7).list) ((nth x 8).int)) = true))
noncomputable def laws_eqTypeS_v (A : List (List TC)) (C : List (List TC)) : Bool := true
theorem laws_eqTypeS_l (A : List (List TC)) (C : List (List TC)) : (laws_eqTypeS_c A C) = true → (laws_eqTypeS_t A C).val = some (laws_eqTypeS_v A C) := by
  intro h
  obtain ⟨rfl, ht, hr0⟩ := is_iff.1 h
  unfold laws_eqTypeS_t
  refine Tr.n (by simp) ?_
  refine Tr.t (is_true ⟨rfl, ht, hr0, rfl⟩) ?_
  rfl
noncomputable def laws_eqTypeS_S : List Arg → Option (Bool × Res) := fun xs => match xs with
  | [(false, [(.slice 55, TC.l A)]), (false, [(.slice 55, TC.l C)])] => some ((laws_eqTypeS_c A C), laws_eqTypeS_mk (laws_eqTypeS_v A C))
  | _ => .none
theorem laws_eqTypeS_e (A : List (List TC)) (C : List (List TC)) : runF tab FT D35 live 107 laws_eqTypeS_lo [(false, [(.slice 55, TC.l A)]), (false, [(.slice 55, TC.l C)])] = (laws_eqTypeS_t A C).run fun p => some (laws_eqTypeS_mk p) := by kernel_rfl
theorem laws_eqTypeS_s : ∀ xs r, laws_eqTypeS_S xs = some (true, r) → runF tab FT D35 live 107 laws_eqTypeS_lo xs = some r := by
  intro xs r h
  unfold laws_eqTypeS_S at h
  split at h
  · simp only [Option.some.injEq, Prod.mk.injEq] at h
    obtain ⟨h1, rfl⟩ := h
    exact fun_told (laws_eqTypeS_e _ _) (laws_eqTypeS_l _ _) h1
  · cases h
noncomputable def D36 : Dt := also D35 107 laws_eqTypeS_S
theorem d36 : DOk Go.Proofs.Try.prog tab D36 := d35.also mixed_ok tab_ok names_ok (fnLoops_one (by kernel_rfl) laws_eqTypeS_is4) laws_eqTypeS_s
/-! laws_eqType -/
noncomputable def laws_eqType_t (x0 : Int) (x1 : Int) (x2 : Bool) (x3 : Bool) (x4 : List (List TC)) (x5 : List (List TC)) (x6 : List (List TC)) (x7 : List (List TC)) (x8 : Int) (y0 : Int) (y1 : Int) (y2 : Bool) (y3 : Bool) (y4 : List (List TC)) (y5 : List (List TC)) (y6 : List (List TC)) (y7 : List (List TC)) (y8 : Int) : Tr (Bool) := (.ite ((!(x0 == y0)) = true) (.ok false)
  (.ite ((!(x1 == y1)) = true) (.ok false)
   (.ite ((!(x2 == y2)) = true) (.ok false)
    (.ite ((!(x3 == y3)) = true) (.ok false)
     (.ite ((laws_eqStringS_c x4 y4) = true) (.ite ((!(laws_eqStringS_v x4 y4)) = true) (.ok false)
       (.ite ((laws_eqInt64S_c x5 y5) = true) (.ite ((!(laws_eqInt64S_v x5 y5)) = true) (.ok false)
         (.ite ((laws_eqMemberS_c x6 y6) = true) (.ite ((!(laws_eqMemberS_v x6 y6)) = true) (.ok false)
           (.ite ((laws_eqTypeS_c x7 y7) = true) (.ite ((!(laws_eqTypeS_v x7 y7)) = true) (.ok false)
             (.ite ((!(x8 == y8)) = true) (.ok false)
              (.ok true)))
            .no))
          .no))
        .no))
      .no)))))
def laws_eqType_mk (p : Bool) : Res := [(false, [⟨.bool, .sh, TC.b p⟩])]
noncomputable def laws_eqType_c (x0 : Int) (x1 : Int) (x2 : Bool) (x3 : Bool) (x4 : List (List TC)) (x5 : List (List TC)) (x6 : List (List TC)) (x7 : List (List TC)) (x8 : Int) (y0 : Int) (y1 : Int) (y2 : Bool) (y3 : Bool) (y4 : List (List TC)) (y5 : List (List TC)) (y6 : List (List TC)) (y7 : List (List TC)) (y8 : Int) : Bool := (bif (!(x0 == y0)) then true else (bif (!(x1 == y1)) then true else (bif (!(x2 == y2)) then true else (bif (!(x3 == y3)) then true else ((laws_eqStringS_c x4 y4) && (bif (!(laws_eqStringS_v x4 y4)) then true else ((laws_eqInt64S_c x5 y5) && (bif (!(laws_eqInt64S_v x5 y5)) then true else ((laws_eqMemberS_c x6 y6) && (bif (!(laws_eqMemberS_v x6 y6)) then true else ((laws_eqTypeS_c x7 y7) && (bif (!(laws_eqTypeS_v x7 y7)) then true else (bif (!(x8 == y8)) then true else true)))))))))))))
noncomputable def laws_eqType_v (x0 : Int) (x1 : Int) (x2 : Bool) (x3 : Bool) (x4 : List (List TC)) (x5 : List (List TC)) (x6 : List (List TC)) (x7 : List (List TC)) (x8 : Int) (y0 : Int) (y1 : Int) (y2 : Bool) (y3 : Bool) (y4 : List (List TC)) (y5 : List (List TC)) (y6 : List (List TC)) (y7 : List (List TC)) (y8 : Int) : Bool := (bif (!(x0 == y0)) then false else (bif (!(x1 == y1)) then false else (bif (!(x2 == y2)) then false else (bif (!(x3 == y3)) then false else (bif (!(laws_eqStringS_v x4 y4)) then false else (bif (!(laws_eqInt64S_v x5 y5)) then false else (bif (!(laws_eqMemberS_v x6 y6)) then false else (bif (!(laws_eqTypeS_v x7 y7)) then false else (bif (!(x8 == y8)) then false else true)))))))))
theorem laws_eqType_l (x0 : Int) (x1 : Int) (x2 : Bool) (x3 : Bool) (x4 : List (List TC)) (x5 : List (List TC)) (x6 : List (List TC)) (x7 : List (List TC)) (x8 : Int) (y0 : Int) (y1 : Int) (y2 : Bool) (y3 : Bool) (y4 : List (List TC)) (y5 : List (List TC)) (y6 : List (List TC)) (y7 : List (List TC)) (y8 : Int) : (laws_eqType_c x0 x1 x2 x3 x4 x5 x6 x7 x8 y0 y1 y2 y3 y4 y5 y6 y7 y8) = true → (laws_eqType_t x0 x1 x2 x3 x4 x5 x6 x7 x8 y0 y1 y2 y3 y4 y5 y6 y7 y8).val = some (laws_eqType_v x0 x1 x2 x3 x4 x5 x6 x7 x8 y0 y1 y2 y3 y4 y5 y6 y7 y8) := by
  unfold laws_eqType_t laws_eqType_v laws_eqType_c
  exact fun h => (Tr.ss h (fun h => rfl) (fun h => (Tr.ss h (fun h => rfl) (fun h => (Tr.ss h (fun h => rfl) (fun h => (Tr.ss h (fun h => rfl) (fun h => (Tr.gb h fun h => (Tr.ss h (fun h => rfl) (fun h => (Tr.gb h fun h => (Tr.ss h (fun h => rfl) (fun h => (Tr.gb h fun h => (Tr.ss h (fun h => rfl) (fun h => (Tr.gb h fun h => (Tr.ss h (fun h => rfl) (fun h => (Tr.ss h (fun h => rfl) (fun h => rfl))))))))))))))))))))))
noncomputable def laws_eqType_S : List Arg → Option (Bool × Res) := fun xs => match xs with
  | [(true, [(.int .i64, TC.i x0), (.int .i64, TC.i x1), (.bool, TC.b x2), (.bool, TC.b x3), (.slice 9, TC.l x4), (.slice 2, TC.l x5), (.slice 147, TC.l x6), (.slice 55, TC.l x7), (.int .i64, TC.i x8)]), (true, [(.int .i64, TC.i y0), (.int .i64, TC.i y1), (.bool, TC.b y2), (.bool, TC.b y3), (.slice 9, TC.l y4), (.slice 2, TC.l y5), (.slice 147, TC.l y6), (.slice 55, TC.l y7), (.int .i64, TC.i y8)])] => some ((laws_eqType_c x0 x1 x2 x3 x4 x5 x6 x7 x8 y0 y1 y2 y3 y4 y5 y6 y7 y8), laws_eqType_mk (laws_eqType_v x0 x1 x2 x3 x4 x5 x6 x7 x8 y0 y1 y2 y3 y4 y5 y6 y7 y8))
  | _ => .none
theorem laws_eqType_e (x0 : Int) (x1 : Int) (x2 : Bool) (x3 : Bool) (x4 : List (List TC)) (x5 : List (List TC)) (x6 : List (List TC)) (x7 : List (List TC)) (x8 : Int) (y0 : Int) (y1 : Int) (y2 : Bool) (y3 : Bool) (y4 : List (List TC)) (y5 : List (List TC)) (y6 : List (List TC)) (y7 : List (List TC)) (y8 : Int) : runF tab FT D36 live 76 noLoops [(true, [(.int .i64, TC.i x0), (.int .i64, TC.i x1), (.bool, TC.b x2), (.bool, TC.b x3), (.slice 9, TC.l x4), (.slice 2, TC.l x5), (.slice 147, TC.l x6), (.slice 55, TC.l x7), (.int .i64, TC.i x8)]), (true, [(.int .i64, TC.i y0), (.int .i64, TC.i y1), (.bool, TC.b y2), (.bool, TC.b y3), (.slice 9, TC.l y4), (.slice 2, TC.l y5), (.slice 147, TC.l y6), (.slice 55, TC.l y7), (.int .i64, TC.i y8)])] = (laws_eqType_t x0 x1 x2 x3 x4 x5 x6 x7 x8 y0 y1 y2 y3 y4 y5 y6 y7 y8).run fun p => some (laws_eqType_mk p) := by kernel_rfl
theorem laws_eqType_s : ∀ xs r, laws_eqType_S xs = some (true, r) → runF tab FT D36 live 76 noLoops xs = some r := by
  intro xs r h
  unfold laws_eqType_S at h
  split at h
  · simp only [Option.some.injEq, Prod.mk.injEq] at h
    obtain ⟨h1, rfl⟩ := h
    exact fun_told (laws_eqType_e _ _ _ _ _ _ _ _ _ _ _ _ _ _ _ _ _ _) (laws_eqType_l _ _ _ _ _ _ _ _ _ _ _ _ _ _ _ _ _ _) h1
  · cases h
theorem laws_eqType_nx (x0 : Int) (x1 : Int) (x2 : Bool) (x3 : Bool) (x4 : List (List TC)) (x5 : List (List TC)) (x6 : List (List TC)) (x7 : List (List TC)) (x8 : Int) (y0 : Int) (y1 : Int) (y2 : Bool) (y3 : Bool) (y4 : List (List TC)) (y5 : List (List TC)) (y6 : List (List TC)) (y7 : List (List TC)) (y8 : Int) : is (max (rowsDep x6) (rowsDep x7) < laws_eqType_O.n + 1 ∧ x0 = y0 ∧ x1 = y1 ∧ x2 = y2 ∧ x3 = y3 ∧ x4 = y4 ∧ x5 = y5 ∧ x6 = y6 ∧ x7 = y7 ∧ x8 = y8 ∧ Typed tab (.slice 9) (.l x4) ∧ Typed tab (.slice 2) (.l x5) ∧ Typed tab (.slice 147) (.l x6) ∧ Typed tab (.slice 55) (.l x7)) = true → (laws_eqType_c x0 x1 x2 x3 x4 x5 x6 x7 x8 y0 y1 y2 y3 y4 y5 y6 y7 y8) = true ∧ (laws_eqType_v x0 x1 x2 x3 x4 x5 x6 x7 x8 y0 y1 y2 y3 y4 y5 y6 y7 y8) = true := by
  intro h
  obtain ⟨hM, rfl, rfl, rfl, rfl, rfl, rfl, rfl, rfl, rfl, t4, t5, t6, t7⟩ := is_iff.1 h
  have c4 : laws_eqStringS_c x4 x4 = true := is_true ⟨rfl, t4⟩
  have c5 : laws_eqInt64S_c x5 x5 = true := is_true ⟨rfl, t5⟩
  have c6 : laws_eqMemberS_c x6 x6 = true := is_true ⟨rfl, t6, fun x hx => laws_eqMember_cc (is_true ⟨by have a := dep_cell hx 8; have b := dep_cell hx 9; omega, rfl, rfl, rfl, rfl, rfl, rfl, rfl, rfl, rfl, typed_list ((typed_elem t6 hx).2 6 (by decide)), typed_list ((typed_elem t6 hx).2 7 (by decide)), typed_list ((typed_elem t6 hx).2 8 (by decide)), typed_list ((typed_elem t6 hx).2 9 (by decide))⟩)⟩
  have c7 : laws_eqTypeS_c x7 x7 = true := is_true ⟨rfl, t7, fun x hx => is_true ⟨by have a := dep_cell hx 6; have b := dep_cell hx 7; omega, rfl, rfl, rfl, rfl, rfl, rfl, rfl, rfl, rfl, typed_list ((typed_elem t7 hx).2 4 (by decide)), typed_list ((typed_elem t7 hx).2 5 (by decide)), typed_list ((typed_elem t7 hx).2 6 (by decide)), typed_list ((typed_elem t7 hx).2 7 (by decide))⟩⟩
  constructor
  · unfold laws_eqType_c
    simp only [c4, c5, c6, c7, laws_eqStringS_v, laws_eqInt64S_v, laws_eqMemberS_v, laws_eqTypeS_v, beq_self_eq_true, Bool.not_true, cond_false, Bool.and_self]
  · unfold laws_eqType_v
    simp only [laws_eqStringS_v, laws_eqInt64S_v, laws_eqMemberS_v, laws_eqTypeS_v, beq_self_eq_true, Bool.not_true, cond_false]
theorem laws_eqType_nxr (x0 : Int) (x1 : Int) (x2 : Bool) (x3 : Bool) (x4 : List (List TC)) (x5 : List (List TC)) (x6 : List (List TC)) (x7 : List (List TC)) (x8 : Int) (y0 : Int) (y1 : Int) (y2 : Bool) (y3 : Bool) (y4 : List (List TC)) (y5 : List (List TC)) (y6 : List (List TC)) (y7 : List (List TC)) (y8 : Int) : laws_eqType_rc (i_laws_eqType := ⟨laws_eqType_O.n + 1⟩) x0 x1 x2 x3 x4 x5 x6 x7 x8 y0 y1 y2 y3 y4 y5 y6 y7 y8 = true → (laws_eqType_c x0 x1 x2 x3 x4 x5 x6 x7 x8 y0 y1 y2 y3 y4 y5 y6 y7 y8) = true ∧ (laws_eqType_v x0 x1 x2 x3 x4 x5 x6 x7 x8 y0 y1 y2 y3 y4 y5 y6 y7 y8) = (laws_eqType_rv x0 x1 x2 x3 x4 x5 x6 x7 x8 y0 y1 y2 y3 y4 y5 y6 y7 y8) := fun h => laws_eqType_nx x0 x1 x2 x3 x4 x5 x6 x7 x8 y0 y1 y2 y3 y4 y5 y6 y7 y8 h
theorem laws_eqType_rs : ∀ xs r, laws_eqType_rS (i_laws_eqType := ⟨laws_eqType_O.n + 1⟩) xs = some (true, r) → runF tab FT D36 live 76 noLoops xs = some r := by
  intro xs r h
  unfold laws_eqType_rS at h
  split at h
  · simp only [Option.some.injEq, Prod.mk.injEq] at h
    obtain ⟨h1, rfl⟩ := h
    have hx := laws_eqType_nxr _ _ _ _ _ _ _ _ _ _ _ _ _ _ _ _ _ _ h1
    have ht := fun_told (laws_eqType_e _ _ _ _ _ _ _ _ _ _ _ _ _ _ _ _ _ _) (laws_eqType_l _ _ _ _ _ _ _ _ _ _ _ _ _ _ _ _ _ _) hx.1
    rw [hx.2] at ht
    exact ht
  · cases h
theorem laws_eqType_step : laws_eqType_G (i_laws_eqType := ⟨laws_eqType_O.n + 1⟩) := by
  have h := DOk.also2 (S := laws_eqType_rS (i_laws_eqType := ⟨laws_eqType_O.n + 1⟩)) mixed_ok tab_ok names_ok d32 d36 noLoops_ok laws_eqType_rs
  refine laws_eqType_G.mk (i_laws_eqType := ⟨laws_eqType_O.n + 1⟩) ?_
  exact h
/-! laws_eqArray -/
noncomputable def laws_eqArray_t (x0 : Int) (x1 : Int) (x2 : Bool) (x3 : Bool) (x4 : List (List TC)) (x5 : List (List TC)) (x6 : List (List TC)) (x7 : List (List TC)) (x8 : Int) (x9 : List (List TC)) (x10 : List UInt8) (y0 : Int) (y1 : Int) (y2 : Bool) (y3 : Bool) (y4 : List (List TC)) (y5 : List (List TC)) (y6 : List (List TC)) (y7 : List (List TC)) (y8 : Int) (y9 : List (List TC)) (y10 : List UInt8) : Tr (Bool) := (.ite ((laws_eqType_rc x0 x1 x2 x3 x4 x5 x6 x7 x8 y0 y1 y2 y3 y4 y5 y6 y7 y8) = true) (.ite ((!(laws_eqType_rv x0 x1 x2 x3 x4 x5 x6 x7 x8 y0 y1 y2 y3 y4 y5 y6 y7 y8)) = true) (.ok false)
   (.ite ((laws_eqInt64S_c x9 y9) = true) (.ite ((!(laws_eqInt64S_v x9 y9)) = true) (.ok false)
     (.ite ((!(x10 == y10)) = true) (.ok false)
      (.ok true)))
    .no))
  .no)
def laws_eqArray_mk (p : Bool) : Res := [(false, [⟨.bool, .sh, TC.b p⟩])]
noncomputable def laws_eqArray_c (x0 : Int) (x1 : Int) (x2 : Bool) (x3 : Bool) (x4 : List (List TC)) (x5 : List (List TC)) (x6 : List (List TC)) (x7 : List (List TC)) (x8 : Int) (x9 : List (List TC)) (x10 : List UInt8) (y0 : Int) (y1 : Int) (y2 : Bool) (y3 : Bool) (y4 : List (List TC)) (y5 : List (List TC)) (y6 : List (List TC)) (y7 : List (List TC)) (y8 : Int) (y9 : List (List TC)) (y10 : List UInt8) : Bool := ((laws_eqType_rc x0 x1 x2 x3 x4 x5 x6 x7 x8 y0 y1 y2 y3 y4 y5 y6 y7 y8) && (bif (!(laws_eqType_rv x0 x1 x2 x3 x4 x5 x6 x7 x8 y0 y1 y2 y3 y4 y5 y6 y7 y8)) then true else ((laws_eqInt64S_c x9 y9) && (bif (!(laws_eqInt64S_v x9 y9)) then true else (bif (!(x10 == y10)) then true else true)))))
noncomputable def laws_eqArray_v (x0 : Int) (x1 : Int) (x2 : Bool) (x3 : Bool) (x4 : List (List TC)) (x5 : List (List TC)) (x6 : List (List TC)) (x7 : List (List TC)) (x8 : Int) (x9 : List (List TC)) (x10 : List UInt8) (y0 : Int) (y1 : Int) (y2 : Bool) (y3 : Bool) (y4 : List (List TC)) (y5 : List (List TC)) (y6 : List (List TC)) (y7 : List (List TC)) (y8 : Int) (y9 : List (List TC)) (y10 : List UInt8) : Bool := (bif (!(laws_eqType_rv x0 x1 x2 x3 x4 x5 x6 x7 x8 y0 y1 y2 y3 y4 y5 y6 y7 y8)) then false else (bif (!(laws_eqInt64S_v x9 y9)) then false else (bif (!(x10 == y10)) then false else true)))
theorem laws_eqArray_l (x0 : Int) (x1 : Int) (x2 : Bool) (x3 : Bool) (x4 : List (List TC)) (x5 : List (List TC)) (x6 : List (List TC)) (x7 : List (List TC)) (x8 : Int) (x9 : List (List TC)) (x10 : List UInt8) (y0 : Int) (y1 : Int) (y2 : Bool) (y3 : Bool) (y4 : List (List TC)) (y5 : List (List TC)) (y6 : List (List TC)) (y7 : List (List TC)) (y8 : Int) (y9 : List (List TC)) (y10 : List UInt8) : (laws_eqArray_c x0 x1 x2 x3 x4 x5 x6 x7 x8 x9 x10 y0 y1 y2 y3 y4 y5 y6 y7 y8 y9 y10) = true → (laws_eqArray_t x0 x1 x2 x3 x4 x5 x6 x7 x8 x9 x10 y0 y1 y2 y3 y4 y5 y6 y7 y8 y9 y10).val = some (laws_eqArray_v x0 x1 x2 x3 x4 x5 x6 x7 x8 x9 x10 y0 y1 y2 y3 y4 y5 y6 y7 y8 y9 y10) := by
  unfold laws_eqArray_t laws_eqArray_v laws_eqArray_c
  exact fun h => (Tr.gb h fun h => (Tr.ss h (fun h => rfl) (fun h => (Tr.gb h fun h => (Tr.ss h (fun h => rfl) (fun h => (Tr.ss h (fun h => rfl) (fun h => rfl))))))))
noncomputable def laws_eqArray_S : List Arg → Option (Bool × Res) := fun xs => match xs with
  | [(true, [(.int .i64, TC.i x0), (.int .i64, TC.i x1), (.bool, TC.b x2), (.bool, TC.b x3), (.slice 9, TC.l x4), (.slice 2, TC.l x5), (.slice 147, TC.l x6), (.slice 55, TC.l x7), (.int .i64, TC.i x8), (.slice 2, TC.l x9), (.str, TC.s x10)]), (true, [(.int .i64, TC.i y0), (.int .i64, TC.i y1), (.bool, TC.b y2), (.bool, TC.b y3), (.slice 9, TC.l y4), (.slice 2, TC.l y5), (.slice 147, TC.l y6), (.slice 55, TC.l y7), (.int .i64, TC.i y8), (.slice 2, TC.l y9), (.str, TC.s y10)])] => some ((laws_eqArray_c x0 x1 x2 x3 x4 x5 x6 x7 x8 x9 x10 y0 y1 y2 y3 y4 y5 y6 y7 y8 y9 y10), laws_eqArray_mk (laws_eqArray_v x0 x1 x2 x3 x4 x5 x6 x7 x8 x9 x10 y0 y1 y2 y3 y4 y5 y6 y7 y8 y9 y10))
  | _ => .none
theorem laws_eqArray_e (x0 : Int) (x1 : Int) (x2 : Bool) (x3 : Bool) (x4 : List (List TC)) (x5 : List (List TC)) (x6 : List (List TC)) (x7 : List (List TC)) (x8 : Int) (x9 : List (List TC)) (x10 : List UInt8) (y0 : Int) (y1 : Int) (y2 : Bool) (y3 : Bool) (y4 : List (List TC)) (y5 : List (List TC)) (y6 : List (List TC)) (y7 : List (List TC)) (y8 : Int) (y9 : List (List TC)) (y10 : List UInt8) : runF tab FT D36 live 59 noLoops [(true, [(.int .i64, TC.i x0), (.int .i64, TC.i x1), (.bool, TC.b x2), (.bool, TC.b x3), (.slice 9, TC.l x4), (.slice 2, TC.l x5), (.slice 147, TC.l x6), (.slice 55, TC.l x7), (.int .i64, TC.i x8), (.slice 2, TC.l x9), (.str, TC.s x10)]), (true, [(.int .i64, TC.i y0), (.int .i64, TC.i y1), (.bool, TC.b y2), (.bool, TC.b y3), (.slice 9, TC.l y4), (.slice 2, TC.l y5), (.slice 147, TC.l y6), (.slice 55, TC.l y7), (.int .i64, TC.i y8), (.slice 2, TC.l y9), (.str, TC.s y10)])] = (laws_eqArray_t x0 x1 x2 x3 x4 x5 x6 x7 x8 x9 x10 y0 y1 y2 y3 y4 y5 y6 y7 y8 y9 y10).run fun p => some (laws_eqArray_mk p) := by kernel_rfl
theorem laws_eqArray_s : ∀ xs r, laws_eqArray_S xs = some (true, r) → runF tab FT D36 live 59 noLoops xs = some r := by
  intro xs r h
  unfold laws_eqArray_S at h
  split at h
  · simp only [Option.some.injEq, Prod.mk.injEq] at h
    obtain ⟨h1, rfl⟩ := h
    exact fun_told (laws_eqArray_e _ _ _ _ _ _ _ _ _ _ _ _ _ _ _ _ _ _ _ _ _ _) (laws_eqArray_l _ _ _ _ _ _ _ _ _ _ _ _ _ _ _ _ _ _ _ _ _ _) h1
  · cases h
noncomputable def D37 : Dt := also D36 59 laws_eqArray_S
theorem d37 : DOk Go.Proofs.Try.prog tab D37 := d36.also mixed_ok tab_ok names_ok noLoops_ok laws_eqArray_s
theorem laws_eqArray_cc {x0 : Int} {x1 : Int} {x2 : Bool} {x3 : Bool} {x4 : List (List TC)} {x5 : List (List TC)} {x6 : List (List TC)} {x7 : List (List TC)} {x8 : Int} {x9 : List (List TC)} {x10 : List UInt8} (h0 : (laws_eqType_rc x0 x1 x2 x3 x4 x5 x6 x7 x8 x0 x1 x2 x3 x4 x5 x6 x7 x8) = true) (h1 : (laws_eqInt64S_c x9 x9) = true) : (laws_eqArray_c x0 x1 x2 x3 x4 x5 x6 x7 x8 x9 x10 x0 x1 x2 x3 x4 x5 x6 x7 x8 x9 x10) = true := by
  unfold laws_eqArray_c
  simp [h0, h1, laws_szType_rv, laws_toType_rv, spec_SameType_rv, impl_SameType_rv, laws_eqType_rv]
/-! laws_eqAttribute -/
noncomputable def laws_eqAttribute_t (x0 : List UInt8) (x1 : Int) (x2 : Int) (x3 : Bool) (x4 : Bool) (x5 : List (List TC)) (x6 : List (List TC)) (x7 : List (List TC)) (x8 : List (List TC)) (x9 : Int) (x10 : List (List TC)) (x11 : List UInt8) (y0 : List UInt8) (y1 : Int) (y2 : Int) (y3 : Bool) (y4 : Bool) (y5 : List (List TC)) (y6 : List (List TC)) (y7 : List (List TC)) (y8 : List (List TC)) (y9 : Int) (y10 : List (List TC)) (y11 : List UInt8) : Tr (Bool) := (.ite ((!(x0 == y0)) = true) (.ok false)
  (.ite ((laws_eqArray_c x1 x2 x3 x4 x5 x6 x7 x8 x9 x10 x11 y1 y2 y3 y4 y5 y6 y7 y8 y9 y10 y11) = true) (.ite ((!(laws_eqArray_v x1 x2 x3 x4 x5 x6 x7 x8 x9 x10 x11 y1 y2 y3 y4 y5 y6 y7 y8 y9 y10 y11)) = true) (.ok false)
    (.ok true))
   .no))
def laws_eqAttribute_mk (p : Bool) : Res := [(false, [⟨.bool, .sh, TC.b p⟩])]
noncomputable def laws_eqAttribute_c (x0 : List UInt8) (x1 : Int) (x2 : Int) (x3 : Bool) (x4 : Bool) (x5 : List (List TC)) (x6 : List (List TC)) (x7 : List (List TC)) (x8 : List (List TC)) (x9 : Int) (x10 : List (List TC)) (x11 : List UInt8) (y0 : List UInt8) (y1 : Int) (y2 : Int) (y3 : Bool) (y4 : Bool) (y5 : List (List TC)) (y6 : List (List TC)) (y7 : List (List TC)) (y8 : List (List TC)) (y9 : Int) (y10 : List (List TC)) (y11 : List UInt8) : Bool := (bif (!(x0 == y0)) then true else ((laws_eqArray_c x1 x2 x3 x4 x5 x6 x7 x8 x9 x10 x11 y1 y2 y3 y4 y5 y6 y7 y8 y9 y10 y11) && (bif (!(laws_eqArray_v x1 x2 x3 x4 x5 x6 x7 x8 x9 x10 x11 y1 y2 y3 y4 y5 y6 y7 y8 y9 y10 y11)) then true else true)))
noncomputable def laws_eqAttribute_v (x0 : List UInt8) (x1 : Int) (x2 : Int) (x3 : Bool) (x4 : Bool) (x5 : List (List TC)) (x6 : List (List TC)) (x7 : List (List TC)) (x8 : List (List TC)) (x9 : Int) (x10 : List (List TC)) (x11 : List UInt8) (y0 : List UInt8) (y1 : Int) (y2 : Int) (y3 : Bool) (y4 : Bool) (y5 : List (List TC)) (y6 : List (List TC)) (y7 : List (List TC)) (y8 : List (List TC)) (y9 : Int) (y10 : List (List TC)) (y11 : List UInt8) : Bool := (bif (!(x0 == y0)) then false else (bif (!(laws_eqArray_v x1 x2 x3 x4 x5 x6 x7 x8 x9 x10 x11 y1 y2 y3 y4 y5 y6 y7 y8 y9 y10 y11)) then false else true))
theorem laws_eqAttribute_l (x0 : List UInt8) (x1 : Int) (x2 : Int) (x3 : Bool) (x4 : Bool) (x5 : List (List TC)) (x6 : List (List TC)) (x7 : List (List TC)) (x8 : List (List TC)) (x9 : Int) (x10 : List (List TC)) (x11 : List UInt8) (y0 : List UInt8) (y1 : Int) (y2 : Int) (y3 : Bool) (y4 : Bool) (y5 : List (List TC)) (y6 : List (List TC)) (y7 : List (List TC)) (y8 : List (List TC)) (y9 : Int) (y10 : List (List TC)) (y11 : List UInt8) : (laws_eqAttribute_c x0 x1 x2 x3 x4 x5 x6 x7 x8 x9 x10 x11 y0 y1 y2 y3 y4 y5 y6 y7 y8 y9 y10 y11) = true → (laws_eqAttribute_t x0 x1 x2 x3 x4 x5 x6 x7 x8 x9 x10 x11 y0 y1 y2 y3 y4 y5 y6 y7 y8 y9 y10 y11).val = some (laws_eqAttribute_v x0 x1 x2 x3 x4 x5 x6 x7 x8 x9 x10 x11 y0 y1 y2 y3 y4 y5 y6 y7 y8 y9 y10 y11) := by
  unfold laws_eqAttribute_t laws_eqAttribute_v laws_eqAttribute_c
  exact fun h => (Tr.ss h (fun h => rfl) (fun h => (Tr.gb h fun h => (Tr.ss h (fun h => rfl) (fun h => rfl)))))
noncomputable def laws_eqAttribute_S : List Arg → Option (Bool × Res) := fun xs => match xs with
  | [(true, [(.str, TC.s x0), (.int .i64, TC.i x1), (.int .i64, TC.i x2), (.bool, TC.b x3), (.bool, TC.b x4), (.slice 9, TC.l x5), (.slice 2, TC.l x6), (.slice 147, TC.l x7), (.slice 55, TC.l x8), (.int .i64, TC.i x9), (.slice 2, TC.l x10), (.str, TC.s x11)]), (true, [(.str, TC.s y0), (.int .i64, TC.i y1), (.int .i64, TC.i y2), (.bool, TC.b y3), (.bool, TC.b y4), (.slice 9, TC.l y5), (.slice 2, TC.l y6), (.slice 147, TC.l y7), (.slice 55, TC.l y8), (.int .i64, TC.i y9), (.slice 2, TC.l y10), (.str, TC.s y11)])] => some ((laws_eqAttribute_c x0 x1 x2 x3 x4 x5 x6 x7 x8 x9 x10 x11 y0 y1 y2 y3 y4 y5 y6 y7 y8 y9 y10 y11), laws_eqAttribute_mk (laws_eqAttribute_v x0 x1 x2 x3 x4 x5 x6 x7 x8 x9 x10 x11 y0 y1 y2 y3 y4 y5 y6 y7 y8 y9 y10 y11))
  | _ => .none
theorem laws_eqAttribute_e (x0 : List UInt8) (x1 : Int) (x2 : Int) (x3 : Bool) (x4 : Bool) (x5 : List (List TC)) (x6 : List (List TC)) (x7 : List (List TC)) (x8 : List (List TC)) (x9 : Int) (x10 : List (List TC)) (x11 : List UInt8) (y0 : List UInt8) (y1 : Int) (y2 : Int) (y3 : Bool) (y4 : Bool) (y5 : List (List TC)) (y6 : List (List TC)) (y7 : List (List TC)) (y8 : List (List TC)) (y9 : Int) (y10 : List (List TC)) (y11 : List UInt8) : runF tab FT D37 live 26 noLoops [(true, [(.str, TC.s x0), (.int .i64, TC.i x1), (.int .i64, TC.i x2), (.bool, TC.b x3), (.bool, TC.b x4), (.slice 9, TC.l x5), (.slice 2, TC.l x6), (.slice 147, TC.l x7), (.slice 55, TC.l x8), (.int .i64, TC.i x9), (.slice 2, TC.l x10), (.str, TC.s x11)]), (true, [(.str, TC.s y0), (.int .i64, TC.i y1), (.int .i64, TC.i y2), (.bool, TC.b y3), (.bool, TC.b y4), (.slice 9, TC.l y5), (.slice 2, TC.l y6), (.slice 147, TC.l y7), (.slice 55, TC.l y8), (.int .i64, TC.i y9), (.slice 2, TC.l y10), (.str, TC.s y11)])] = (laws_eqAttribute_t x0 x1 x2 x3 x4 x5 x6 x7 x8 x9 x10 x11 y0 y1 y2 y3 y4 y5 y6 y7 y8 y9 y10 y11).run fun p => some (laws_eqAttribute_mk p) := by kernel_rfl
theorem laws_eqAttribute_s : ∀ xs r, laws_eqAttribute_S xs = some (true, r) → runF tab FT D37 live 26 noLoops xs = some r := by
  intro xs r h
  unfold laws_eqAttribute_S at h
  split at h
  · simp only [Option.some.injEq, Prod.mk.injEq] at h
    obtain ⟨h1, rfl⟩ := h
    exact fun_told (laws_eqAttribute_e _ _ _ _ _ _ _ _ _ _ _ _ _ _ _ _ _ _ _ _ _ _ _ _) (laws_eqAttribute_l _ _ _ _ _ _ _ _ _ _ _ _ _ _ _ _ _ _ _ _ _ _ _ _) h1
  · cases h
noncomputable def D38 : Dt := also D37 26 laws_eqAttribute_S
theorem d38 : DOk Go.Proofs.Try.prog tab D38 := d37.also mixed_ok tab_ok names_ok noLoops_ok laws_eqAttribute_s
theorem laws_eqAttribute_cc {x0 : List UInt8} {x1 : Int} {x2 : Int} {x3 : Bool} {x4 : Bool} {x5 : List (List TC)} {x6 : List (List TC)} {x7 : List (List TC)} {x8 : List (List TC)} {x9 : Int} {x10 : List (List TC)} {x11 : List UInt8} (h0 : (laws_eqArray_c x1 x2 x3 x4 x5 x6 x7 x8 x9 x10 x11 x1 x2 x3 x4 x5 x6 x7 x8 x9 x10 x11) = true) : (laws_eqAttribute_c x0 x1 x2 x3 x4 x5 x6 x7 x8 x9 x10 x11 x0 x1 x2 x3 x4 x5 x6 x7 x8 x9 x10 x11) = true := by
  unfold laws_eqAttribute_c
  simp [h0, laws_szType_rv, laws_toType_rv, spec_SameType_rv, impl_SameType_rv, laws_eqType_rv]
/-! the law -/
noncomputable def laws_FnExactSameAttribute_t (x0 : List UInt8) (x1 : Int) (x2 : Int) (x3 : Bool) (x4 : Bool) (x5 : List (List TC)) (x6 : List (List TC)) (x7 : List (List TC)) (x8 : List (List TC)) (x9 : Int) (x10 : List (List TC)) (x11 : List UInt8) (x12 : List UInt8) (x13 : Int) (x14 : Int) (x15 : Bool) (x16 : Bool) (x17 : List (List TC)) (x18 : List (List TC)) (x19 : List (List TC)) (x20 : List (List TC)) (x21 : Int) (x22 : List (List TC)) (x23 : List UInt8) : Tr Bool := (.ite ((laws_szAttribute_c x0 x1 x2 x3 x4 x5 x6 x7 x8 x9 x10 x11 (1048576 : Int)) = true) (.ite ((decide ((laws_szAttribute_v x0 x1 x2 x3 x4 x5 x6 x7 x8 x9 x10 x11 (1048576 : Int)) < (0 : Int))) = true) (.ok true)
   (.ite ((laws_szAttribute_c x12 x13 x14 x15 x16 x17 x18 x19 x20 x21 x22 x23 (laws_szAttribute_v x0 x1 x2 x3 x4 x5 x6 x7 x8 x9 x10 x11 (1048576 : Int))) = true) (.ite ((decide ((laws_szAttribute_v x12 x13 x14 x15 x16 x17 x18 x19 x20 x21 x22 x23 (laws_szAttribute_v x0 x1 x2 x3 x4 x5 x6 x7 x8 x9 x10 x11 (1048576 : Int))) < (0 : Int))) = true) (.ok true)
     (.ite ((laws_toAttribute_c x0 x1 x2 x3 x4 x5 x6 x7 x8 x9 x10 x11) = true) (.ite ((laws_toAttribute_c x12 x13 x14 x15 x16 x17 x18 x19 x20 x21 x22 x23) = true) (.ite ((spec_SameAttribute_c ((laws_toAttribute_v x0 x1 x2 x3 x4 x5 x6 x7 x8 x9 x10 x11).1) ((laws_toAttribute_v x0 x1 x2 x3 x4 x5 x6 x7 x8 x9 x10 x11).2.1) ((laws_toAttribute_v x0 x1 x2 x3 x4 x5 x6 x7 x8 x9 x10 x11).2.2.1) ((laws_toAttribute_v x0 x1 x2 x3 x4 x5 x6 x7 x8 x9 x10 x11).2.2.2.1) ((laws_toAttribute_v x0 x1 x2 x3 x4 x5 x6 x7 x8 x9 x10 x11).2.2.2.2.1) ((laws_toAttribute_v x0 x1 x2 x3 x4 x5 x6 x7 x8 x9 x10 x11).2.2.2.2.2.1) ((laws_toAttribute_v x0 x1 x2 x3 x4 x5 x6 x7 x8 x9 x10 x11).2.2.2.2.2.2.1) ((laws_toAttribute_v x0 x1 x2 x3 x4 x5 x6 x7 x8 x9 x10 x11).2.2.2.2.2.2.2.1) ((laws_toAttribute_v x0 x1 x2 x3 x4 x5 x6 x7 x8 x9 x10 x11).2.2.2.2.2.2.2.2.1) ((laws_toAttribute_v x0 x1 x2 x3 x4 x5 x6 x7 x8 x9 x10 x11).2.2.2.2.2.2.2.2.2.1) ((laws_toAttribute_v x0 x1 x2 x3 x4 x5 x6 x7 x8 x9 x10 x11).2.2.2.2.2.2.2.2.2.2.1) ((laws_toAttribute_v x0 x1 x2 x3 x4 x5 x6 x7 x8 x9 x10 x11).2.2.2.2.2.2.2.2.2.2.2) ((laws_toAttribute_v x12 x13 x14 x15 x16 x17 x18 x19 x20 x21 x22 x23).1) ((laws_toAttribute_v x12 x13 x14 x15 x16 x17 x18 x19 x20 x21 x22 x23).2.1) ((laws_toAttribute_v x12 x13 x14 x15 x16 x17 x18 x19 x20 x21 x22 x23).2.2.1) ((laws_toAttribute_v x12 x13 x14 x15 x16 x17 x18 x19 x20 x21 x22 x23).2.2.2.1) ((laws_toAttribute_v x12 x13 x14 x15 x16 x17 x18 x19 x20 x21 x22 x23).2.2.2.2.1) ((laws_toAttribute_v x12 x13 x14 x15 x16 x17 x18 x19 x20 x21 x22 x23).2.2.2.2.2.1) ((laws_toAttribute_v x12 x13 x14 x15 x16 x17 x18 x19 x20 x21 x22 x23).2.2.2.2.2.2.1) ((laws_toAttribute_v x12 x13 x14 x15 x16 x17 x18 x19 x20 x21 x22 x23).2.2.2.2.2.2.2.1) ((laws_toAttribute_v x12 x13 x14 x15 x16 x17 x18 x19 x20 x21 x22 x23).2.2.2.2.2.2.2.2.1) ((laws_toAttribute_v x12 x13 x14 x15 x16 x17 x18 x19 x20 x21 x22 x23).2.2.2.2.2.2.2.2.2.1) ((laws_toAttribute_v x12 x13 x14 x15 x16 x17 x18 x19 x20 x21 x22 x23).2.2.2.2.2.2.2.2.2.2.1) ((laws_toAttribute_v x12 x13 x14 x15 x16 x17 x18 x19 x20 x21 x22 x23).2.2.2.2.2.2.2.2.2.2.2)) = true) (.ite ((laws_toAttribute_c x0 x1 x2 x3 x4 x5 x6 x7 x8 x9 x10 x11) = true) (.ite ((laws_toAttribute_c x12 x13 x14 x15 x16 x17 x18 x19 x20 x21 x22 x23) = true) (.ite ((impl_SameAttribute_c ((laws_toAttribute_v x0 x1 x2 x3 x4 x5 x6 x7 x8 x9 x10 x11).1) ((laws_toAttribute_v x0 x1 x2 x3 x4 x5 x6 x7 x8 x9 x10 x11).2.1) ((laws_toAttribute_v x0 x1 x2 x3 x4 x5 x6 x7 x8 x9 x10 x11).2.2.1) ((laws_toAttribute_v x0 x1 x2 x3 x4 x5 x6 x7 x8 x9 x10 x11).2.2.2.1) ((laws_toAttribute_v x0 x1 x2 x3 x4 x5 x6 x7 x8 x9 x10 x11).2.2.2.2.1) ((laws_toAttribute_v x0 x1 x2 x3 x4 x5 x6 x7 x8 x9 x10 x11).2.2.2.2.2.1) ((laws_toAttribute_v x0 x1 x2 x3 x4 x5 x6 x7 x8 x9 x10 x11).2.2.2.2.2.2.1) ((laws_toAttribute_v x0 x1 x2 x3 x4 x5 x6 x7 x8 x9 x10 x11).2.2.2.2.2.2.2.1) ((laws_toAttribute_v x0 x1 x2 x3 x4 x5 x6 x7 x8 x9 x10 x11).2.2.2.2.2.2.2.2.1) ((laws_toAttribute_v x0 x1 x2 x3 x4 x5 x6 x7 x8 x9 x10 x11).2.2.2.2.2.2.2.2.2.1) ((laws_toAttribute_v x0 x1 x2 x3 x4 x5 x6 x7 x8 x9 x10 x11).2.2.2.2.2.2.2.2.2.2.1) ((laws_toAttribute_v x0 x1 x2 x3 x4 x5 x6 x7 x8 x9 x10 x11).2.2.2.2.2.2.2.2.2.2.2) ((laws_toAttribute_v x12 x13 x14 x15 x16 x17 x18 x19 x20 x21 x22 x23).1) ((laws_toAttribute_v x12 x13 x14 x15 x16 x17 x18 x19 x20 x21 x22 x23).2.1) ((laws_toAttribute_v x12 x13 x14 x15 x16 x17 x18 x19 x20 x21 x22 x23).2.2.1) ((laws_toAttribute_v x12 x13 x14 x15 x16 x17 x18 x19 x20 x21 x22 x23).2.2.2.1) ((laws_toAttribute_v x12 x13 x14 x15 x16 x17 x18 x19 x20 x21 x22 x23).2.2.2.2.1) ((laws_toAttribute_v x12 x13 x14 x15 x16 x17 x18 x19 x20 x21 x22 x23).2.2.2.2.2.1) ((laws_toAttribute_v x12 x13 x14 x15 x16 x17 x18 x19 x20 x21 x22 x23).2.2.2.2.2.2.1) ((laws_toAttribute_v x12 x13 x14 x15 x16 x17 x18 x19 x20 x21 x22 x23).2.2.2.2.2.2.2.1) ((laws_toAttribute_v x12 x13 x14 x15 x16 x17 x18 x19 x20 x21 x22 x23).2.2.2.2.2.2.2.2.1) ((laws_toAttribute_v x12 x13 x14 x15 x16 x17 x18 x19 x20 x21 x22 x23).2.2.2.2.2.2.2.2.2.1) ((laws_toAttribute_v x12 x13 x14 x15 x16 x17 x18 x19 x20 x21 x22 x23).2.2.2.2.2.2.2.2.2.2.1) ((laws_toAttribute_v x12 x13 x14 x15 x16 x17 x18 x19 x20 x21 x22 x23).2.2.2.2.2.2.2.2.2.2.2)) = true) (.ite ((!((impl_SameAttribute_v ((laws_toAttribute_v x0 x1 x2 x3 x4 x5 x6 x7 x8 x9 x10 x11).1) ((laws_toAttribute_v x0 x1 x2 x3 x4 x5 x6 x7 x8 x9 x10 x11).2.1) ((laws_toAttribute_v x0 x1 x2 x3 x4 x5 x6 x7 x8 x9 x10 x11).2.2.1) ((laws_toAttribute_v x0 x1 x2 x3 x4 x5 x6 x7 x8 x9 x10 x11).2.2.2.1) ((laws_toAttribute_v x0 x1 x2 x3 x4 x5 x6 x7 x8 x9 x10 x11).2.2.2.2.1) ((laws_toAttribute_v x0 x1 x2 x3 x4 x5 x6 x7 x8 x9 x10 x11).2.2.2.2.2.1) ((laws_toAttribute_v x0 x1 x2 x3 x4 x5 x6 x7 x8 x9 x10 x11).2.2.2.2.2.2.1) ((laws_toAttribute_v x0 x1 x2 x3 x4 x5 x6 x7 x8 x9 x10 x11).2.2.2.2.2.2.2.1) ((laws_toAttribute_v x0 x1 x2 x3 x4 x5 x6 x7 x8 x9 x10 x11).2.2.2.2.2.2.2.2.1) ((laws_toAttribute_v x0 x1 x2 x3 x4 x5 x6 x7 x8 x9 x10 x11).2.2.2.2.2.2.2.2.2.1) ((laws_toAttribute_v x0 x1 x2 x3 x4 x5 x6 x7 x8 x9 x10 x11).2.2.2.2.2.2.2.2.2.2.1) ((laws_toAttribute_v x0 x1 x2 x3 x4 x5 x6 x7 x8 x9 x10 x11).2.2.2.2.2.2.2.2.2.2.2) ((laws_toAttribute_v x12 x13 x14 x15 x16 x17 x18 x19 x20 x21 x22 x23).1) ((laws_toAttribute_v x12 x13 x14 x15 x16 x17 x18 x19 x20 x21 x22 x23).2.1) ((laws_toAttribute_v x12 x13 x14 x15 x16 x17 x18 x19 x20 x21 x22 x23).2.2.1) ((laws_toAttribute_v x12 x13 x14 x15 x16 x17 x18 x19 x20 x21 x22 x23).2.2.2.1) ((laws_toAttribute_v x12 x13 x14 x15 x16 x17 x18 x19 x20 x21 x22 x23).2.2.2.2.1) ((laws_toAttribute_v x12 x13 x14 x15 x16 x17 x18 x19 x20 x21 x22 x23).2.2.2.2.2.1) ((laws_toAttribute_v x12 x13 x14 x15 x16 x17 x18 x19 x20 x21 x22 x23).2.2.2.2.2.2.1) ((laws_toAttribute_v x12 x13 x14 x15 x16 x17 x18 x19 x20 x21 x22 x23).2.2.2.2.2.2.2.1) ((laws_toAttribute_v x12 x13 x14 x15 x16 x17 x18 x19 x20 x21 x22 x23).2.2.2.2.2.2.2.2.1) ((laws_toAttribute_v x12 x13 x14 x15 x16 x17 x18 x19 x20 x21 x22 x23).2.2.2.2.2.2.2.2.2.1) ((laws_toAttribute_v x12 x13 x14 x15 x16 x17 x18 x19 x20 x21 x22 x23).2.2.2.2.2.2.2.2.2.2.1) ((laws_toAttribute_v x12 x13 x14 x15 x16 x17 x18 x19 x20 x21 x22 x23).2.2.2.2.2.2.2.2.2.2.2)) == (spec_SameAttribute_v ((laws_toAttribute_v x0 x1 x2 x3 x4 x5 x6 x7 x8 x9 x10 x11).1) ((laws_toAttribute_v x0 x1 x2 x3 x4 x5 x6 x7 x8 x9 x10 x11).2.1) ((laws_toAttribute_v x0 x1 x2 x3 x4 x5 x6 x7 x8 x9 x10 x11).2.2.1) ((laws_toAttribute_v x0 x1 x2 x3 x4 x5 x6 x7 x8 x9 x10 x11).2.2.2.1) ((laws_toAttribute_v x0 x1 x2 x3 x4 x5 x6 x7 x8 x9 x10 x11).2.2.2.2.1) ((laws_toAttribute_v x0 x1 x2 x3 x4 x5 x6 x7 x8 x9 x10 x11).2.2.2.2.2.1) ((laws_toAttribute_v x0 x1 x2 x3 x4 x5 x6 x7 x8 x9 x10 x11).2.2.2.2.2.2.1) ((laws_toAttribute_v x0 x1 x2 x3 x4 x5 x6 x7 x8 x9 x10 x11).2.2.2.2.2.2.2.1) ((laws_toAttribute_v x0 x1 x2 x3 x4 x5 x6 x7 x8 x9 x10 x11).2.2.2.2.2.2.2.2.1) ((laws_toAttribute_v x0 x1 x2 x3 x4 x5 x6 x7 x8 x9 x10 x11).2.2.2.2.2.2.2.2.2.1) ((laws_toAttribute_v x0 x1 x2 x3 x4 x5 x6 x7 x8 x9 x10 x11).2.2.2.2.2.2.2.2.2.2.1) ((laws_toAttribute_v x0 x1 x2 x3 x4 x5 x6 x7 x8 x9 x10 x11).2.2.2.2.2.2.2.2.2.2.2) ((laws_toAttribute_v x12 x13 x14 x15 x16 x17 x18 x19 x20 x21 x22 x23).1) ((laws_toAttribute_v x12 x13 x14 x15 x16 x17 x18 x19 x20 x21 x22 x23).2.1) ((laws_toAttribute_v x12 x13 x14 x15 x16 x17 x18 x19 x20 x21 x22 x23).2.2.1) ((laws_toAttribute_v x12 x13 x14 x15 x16 x17 x18 x19 x20 x21 x22 x23).2.2.2.1) ((laws_toAttribute_v x12 x13 x14 x15 x16 x17 x18 x19 x20 x21 x22 x23).2.2.2.2.1) ((laws_toAttribute_v x12 x13 x14 x15 x16 x17 x18 x19 x20 x21 x22 x23).2.2.2.2.2.1) ((laws_toAttribute_v x12 x13 x14 x15 x16 x17 x18 x19 x20 x21 x22 x23).2.2.2.2.2.2.1) ((laws_toAttribute_v x12 x13 x14 x15 x16 x17 x18 x19 x20 x21 x22 x23).2.2.2.2.2.2.2.1) ((laws_toAttribute_v x12 x13 x14 x15 x16 x17 x18 x19 x20 x21 x22 x23).2.2.2.2.2.2.2.2.1) ((laws_toAttribute_v x12 x13 x14 x15 x16 x17 x18 x19 x20 x21 x22 x23).2.2.2.2.2.2.2.2.2.1) ((laws_toAttribute_v x12 x13 x14 x15 x16 x17 x18 x19 x20 x21 x22 x23).2.2.2.2.2.2.2.2.2.2.1) ((laws_toAttribute_v x12 x13 x14 x15 x16 x17 x18 x19 x20 x21 x22 x23).2.2.2.2.2.2.2.2.2.2.2)))) = true) (.ok false)
            (.ite ((laws_toAttribute_c x0 x1 x2 x3 x4 x5 x6 x7 x8 x9 x10 x11) = true) (.ite ((laws_eqAttribute_c ((laws_toAttribute_v x0 x1 x2 x3 x4 x5 x6 x7 x8 x9 x10 x11).1) ((laws_toAttribute_v x0 x1 x2 x3 x4 x5 x6 x7 x8 x9 x10 x11).2.1) ((laws_toAttribute_v x0 x1 x2 x3 x4 x5 x6 x7 x8 x9 x10 x11).2.2.1) ((laws_toAttribute_v x0 x1 x2 x3 x4 x5 x6 x7 x8 x9 x10 x11).2.2.2.1) ((laws_toAttribute_v x0 x1 x2 x3 x4 x5 x6 x7 x8 x9 x10 x11).2.2.2.2.1) ((laws_toAttribute_v x0 x1 x2 x3 x4 x5 x6 x7 x8 x9 x10 x11).2.2.2.2.2.1) ((laws_toAttribute_v x0 x1 x2 x3 x4 x5 x6 x7 x8 x9 x10 x11).2.2.2.2.2.2.1) ((laws_toAttribute_v x0 x1 x2 x3 x4 x5 x6 x7 x8 x9 x10 x11).2.2.2.2.2.2.2.1) ((laws_toAttribute_v x0 x1 x2 x3 x4 x5 x6 x7 x8 x9 x10 x11).2.2.2.2.2.2.2.2.1) ((laws_toAttribute_v x0 x1 x2 x3 x4 x5 x6 x7 x8 x9 x10 x11).2.2.2.2.2.2.2.2.2.1) ((laws_toAttribute_v x0 x1 x2 x3 x4 x5 x6 x7 x8 x9 x10 x11).2.2.2.2.2.2.2.2.2.2.1) ((laws_toAttribute_v x0 x1 x2 x3 x4 x5 x6 x7 x8 x9 x10 x11).2.2.2.2.2.2.2.2.2.2.2) ((laws_toAttribute_v x0 x1 x2 x3 x4 x5 x6 x7 x8 x9 x10 x11).1) ((laws_toAttribute_v x0 x1 x2 x3 x4 x5 x6 x7 x8 x9 x10 x11).2.1) ((laws_toAttribute_v x0 x1 x2 x3 x4 x5 x6 x7 x8 x9 x10 x11).2.2.1) ((laws_toAttribute_v x0 x1 x2 x3 x4 x5 x6 x7 x8 x9 x10 x11).2.2.2.1) ((laws_toAttribute_v x0 x1 x2 x3 x4 x5 x6 x7 x8 x9 x10 x11).2.2.2.2.1) ((laws_toAttribute_v x0 x1 x2 x3 x4 x5 x6 x7 x8 x9 x10 x11).2.2.2.2.2.1) ((laws_toAttribute_v x0 x1 x2 x3 x4 x5 x6 x7 x8 x9 x10 x11).2.2.2.2.2.2.1) ((laws_toAttribute_v x0 x1 x2 x3 x4 x5 x6 x7 x8 x9 x10 x11).2.2.2.2.2.2.2.1) ((laws_toAttribute_v x0 x1 x2 x3 x4 x5 x6 x7 x8 x9 x10 x11).2.2.2.2.2.2.2.2.1) ((laws_toAttribute_v x0 x1 x2 x3 x4 x5 x6 x7 x8 x9 x10 x11).2.2.2.2.2.2.2.2.2.1) ((laws_toAttribute_v x0 x1 x2 x3 x4 x5 x6 x7 x8 x9 x10 x11).2.2.2.2.2.2.2.2.2.2.1) ((laws_toAttribute_v x0 x1 x2 x3 x4 x5 x6 x7 x8 x9 x10 x11).2.2.2.2.2.2.2.2.2.2.2)) = true) (.ite ((!(laws_eqAttribute_v ((laws_toAttribute_v x0 x1 x2 x3 x4 x5 x6 x7 x8 x9 x10 x11).1) ((laws_toAttribute_v x0 x1 x2 x3 x4 x5 x6 x7 x8 x9 x10 x11).2.1) ((laws_toAttribute_v x0 x1 x2 x3 x4 x5 x6 x7 x8 x9 x10 x11).2.2.1) ((laws_toAttribute_v x0 x1 x2 x3 x4 x5 x6 x7 x8 x9 x10 x11).2.2.2.1) ((laws_toAttribute_v x0 x1 x2 x3 x4 x5 x6 x7 x8 x9 x10 x11).2.2.2.2.1) ((laws_toAttribute_v x0 x1 x2 x3 x4 x5 x6 x7 x8 x9 x10 x11).2.2.2.2.2.1) ((laws_toAttribute_v x0 x1 x2 x3 x4 x5 x6 x7 x8 x9 x10 x11).2.2.2.2.2.2.1) ((laws_toAttribute_v x0 x1 x2 x3 x4 x5 x6 x7 x8 x9 x10 x11).2.2.2.2.2.2.2.1) ((laws_toAttribute_v x0 x1 x2 x3 x4 x5 x6 x7 x8 x9 x10 x11).2.2.2.2.2.2.2.2.1) ((laws_toAttribute_v x0 x1 x2 x3 x4 x5 x6 x7 x8 x9 x10 x11).2.2.2.2.2.2.2.2.2.1) ((laws_toAttribute_v x0 x1 x2 x3 x4 x5 x6 x7 x8 x9 x10 x11).2.2.2.2.2.2.2.2.2.2.1) ((laws_toAttribute_v x0 x1 x2 x3 x4 x5 x6 x7 x8 x9 x10 x11).2.2.2.2.2.2.2.2.2.2.2) ((laws_toAttribute_v x0 x1 x2 x3 x4 x5 x6 x7 x8 x9 x10 x11).1) ((laws_toAttribute_v x0 x1 x2 x3 x4 x5 x6 x7 x8 x9 x10 x11).2.1) ((laws_toAttribute_v x0 x1 x2 x3 x4 x5 x6 x7 x8 x9 x10 x11).2.2.1) ((laws_toAttribute_v x0 x1 x2 x3 x4 x5 x6 x7 x8 x9 x10 x11).2.2.2.1) ((laws_toAttribute_v x0 x1 x2 x3 x4 x5 x6 x7 x8 x9 x10 x11).2.2.2.2.1) ((laws_toAttribute_v x0 x1 x2 x3 x4 x5 x6 x7 x8 x9 x10 x11).2.2.2.2.2.1) ((laws_toAttribute_v x0 x1 x2 x3 x4 x5 x6 x7 x8 x9 x10 x11).2.2.2.2.2.2.1) ((laws_toAttribute_v x0 x1 x2 x3 x4 x5 x6 x7 x8 x9 x10 x11).2.2.2.2.2.2.2.1) ((laws_toAttribute_v x0 x1 x2 x3 x4 x5 x6 x7 x8 x9 x10 x11).2.2.2.2.2.2.2.2.1) ((laws_toAttribute_v x0 x1 x2 x3 x4 x5 x6 x7 x8 x9 x10 x11).2.2.2.2.2.2.2.2.2.1) ((laws_toAttribute_v x0 x1 x2 x3 x4 x5 x6 x7 x8 x9 x10 x11).2.2.2.2.2.2.2.2.2.2.1) ((laws_toAttribute_v x0 x1 x2 x3 x4 x5 x6 x7 x8 x9 x10 x11).2.2.2.2.2.2.2.2.2.2.2))) = true) (.ok false)
               (.ite ((laws_toAttribute_c x12 x13 x14 x15 x16 x17 x18 x19 x20 x21 x22 x23) = true) (.ite ((laws_eqAttribute_c ((laws_toAttribute_v x12 x13 x14 x15 x16 x17 x18 x19 x20 x21 x22 x23).1) ((laws_toAttribute_v x12 x13 x14 x15 x16 x17 x18 x19 x20 x21 x22 x23).2.1) ((laws_toAttribute_v x12 x13 x14 x15 x16 x17 x18 x19 x20 x21 x22 x23).2.2.1) ((laws_toAttribute_v x12 x13 x14 x15 x16 x17 x18 x19 x20 x21 x22 x23).2.2.2.1) ((laws_toAttribute_v x12 x13 x14 x15 x16 x17 x18 x19 x20 x21 x22 x23).2.2.2.2.1) ((laws_toAttribute_v x12 x13 x14 x15 x16 x17 x18 x19 x20 x21 x22 x23).2.2.2.2.2.1) ((laws_toAttribute_v x12 x13 x14 x15 x16 x17 x18 x19 x20 x21 x22 x23).2.2.2.2.2.2.1) ((laws_toAttribute_v x12 x13 x14 x15 x16 x17 x18 x19 x20 x21 x22 x23).2.2.2.2.2.2.2.1) ((laws_toAttribute_v x12 x13 x14 x15 x16 x17 x18 x19 x20 x21 x22 x23).2.2.2.2.2.2.2.2.1) ((laws_toAttribute_v x12 x13 x14 x15 x16 x17 x18 x19 x20 x21 x22 x23).2.2.2.2.2.2.2.2.2.1) ((laws_toAttribute_v x12 x13 x14 x15 x16 x17 x18 x19 x20 x21 x22 x23).2.2.2.2.2.2.2.2.2.2.1) ((laws_toAttribute_v x12 x13 x14 x15 x16 x17 x18 x19 x20 x21 x22 x23).2.2.2.2.2.2.2.2.2.2.2) ((laws_toAttribute_v x12 x13 x14 x15 x16 x17 x18 x19 x20 x21 x22 x23).1) ((laws_toAttribute_v x12 x13 x14 x15 x16 x17 x18 x19 x20 x21 x22 x23).2.1) ((laws_toAttribute_v x12 x13 x14 x15 x16 x17 x18 x19 x20 x21 x22 x23).2.2.1) ((laws_toAttribute_v x12 x13 x14 x15 x16 x17 x18 x19 x20 x21 x22 x23).2.2.2.1) ((laws_toAttribute_v x12 x13 x14 x15 x16 x17 x18 x19 x20 x21 x22 x23).2.2.2.2.1) ((laws_toAttribute_v x12 x13 x14 x15 x16 x17 x18 x19 x20 x21 x22 x23).2.2.2.2.2.1) ((laws_toAttribute_v x12 x13 x14 x15 x16 x17 x18 x19 x20 x21 x22 x23).2.2.2.2.2.2.1) ((laws_toAttribute_v x12 x13 x14 x15 x16 x17 x18 x19 x20 x21 x22 x23).2.2.2.2.2.2.2.1) ((laws_toAttribute_v x12 x13 x14 x15 x16 x17 x18 x19 x20 x21 x22 x23).2.2.2.2.2.2.2.2.1) ((laws_toAttribute_v x12 x13 x14 x15 x16 x17 x18 x19 x20 x21 x22 x23).2.2.2.2.2.2.2.2.2.1) ((laws_toAttribute_v x12 x13 x14 x15 x16 x17 x18 x19 x20 x21 x22 x23).2.2.2.2.2.2.2.2.2.2.1) ((laws_toAttribute_v x12 x13 x14 x15 x16 x17 x18 x19 x20 x21 x22 x23).2.2.2.2.2.2.2.2.2.2.2)) = true) (.ite ((!(laws_eqAttribute_v ((laws_toAttribute_v x12 x13 x14 x15 x16 x17 x18 x19 x20 x21 x22 x23).1) ((laws_toAttribute_v x12 x13 x14 x15 x16 x17 x18 x19 x20 x21 x22 x23).2.1) ((laws_toAttribute_v x12 x13 x14 x15 x16 x17 x18 x19 x20 x21 x22 x23).2.2.1) ((laws_toAttribute_v x12 x13 x14 x15 x16 x17 x18 x19 x20 x21 x22 x23).2.2.2.1) ((laws_toAttribute_v x12 x13 x14 x15 x16 x17 x18 x19 x20 x21 x22 x23).2.2.2.2.1) ((laws_toAttribute_v x12 x13 x14 x15 x16 x17 x18 x19 x20 x21 x22 x23).2.2.2.2.2.1) ((laws_toAttribute_v x12 x13 x14 x15 x16 x17 x18 x19 x20 x21 x22 x23).2.2.2.2.2.2.1) ((laws_toAttribute_v x12 x13 x14 x15 x16 x17 x18 x19 x20 x21 x22 x23).2.2.2.2.2.2.2.1) ((laws_toAttribute_v x12 x13 x14 x15 x16 x17 x18 x19 x20 x21 x22 x23).2.2.2.2.2.2.2.2.1) ((laws_toAttribute_v x12 x13 x14 x15 x16 x17 x18 x19 x20 x21 x22 x23).2.2.2.2.2.2.2.2.2.1) ((laws_toAttribute_v x12 x13 x14 x15 x16 x17 x18 x19 x20 x21 x22 x23).2.2.2.2.2.2.2.2.2.2.1) ((laws_toAttribute_v x12 x13 x14 x15 x16 x17 x18 x19 x20 x21 x22 x23).2.2.2.2.2.2.2.2.2.2.2) ((laws_toAttribute_v x12 x13 x14 x15 x16 x17 x18 x19 x20 x21 x22 x23).1) ((laws_toAttribute_v x12 x13 x14 x15 x16 x17 x18 x19 x20 x21 x22 x23).2.1) ((laws_toAttribute_v x12 x13 x14 x15 x16 x17 x18 x19 x20 x21 x22 x23).2.2.1) ((laws_toAttribute_v x12 x13 x14 x15 x16 x17 x18 x19 x20 x21 x22 x23).2.2.2.1) ((laws_toAttribute_v x12 x13 x14 x15 x16 x17 x18 x19 x20 x21 x22 x23).2.2.2.2.1) ((laws_toAttribute_v x12 x13 x14 x15 x16 x17 x18 x19 x20 x21 x22 x23).2.2.2.2.2.1) ((laws_toAttribute_v x12 x13 x14 x15 x16 x17 x18 x19 x20 x21 x22 x23).2.2.2.2.2.2.1) ((laws_toAttribute_v x12 x13 x14 x15 x16 x17 x18 x19 x20 x21 x22 x23).2.2.2.2.2.2.2.1) ((laws_toAttribute_v x12 x13 x14 x15 x16 x17 x18 x19 x20 x21 x22 x23).2.2.2.2.2.2.2.2.1) ((laws_toAttribute_v x12 x13 x14 x15 x16 x17 x18 x19 x20 x21 x22 x23).2.2.2.2.2.2.2.2.2.1) ((laws_toAttribute_v x12 x13 x14 x15 x16 x17 x18 x19 x20 x21 x22 x23).2.2.2.2.2.2.2.2.2.2.1) ((laws_toAttribute_v x12 x13 x14 x15 x16 x17 x18 x19 x20 x21 x22 x23).2.2.2.2.2.2.2.2.2.2.2))) = true) (.ok false)
                  (.ok true))
                 .no)
                .no))
              .no)
             .no))
           .no)
          .no)
         .no)
        .no)
       .no)
      .no))
    .no))
  .no)
theorem laws_FnExactSameAttribute_e (x0 : List UInt8) (x1 : Int) (x2 : Int) (x3 : Bool) (x4 : Bool) (x5 : List (List TC)) (x6 : List (List TC)) (x7 : List (List TC)) (x8 : List (List TC)) (x9 : Int) (x10 : List (List TC)) (x11 : List UInt8) (x12 : List UInt8) (x13 : Int) (x14 : Int) (x15 : Bool) (x16 : Bool) (x17 : List (List TC)) (x18 : List (List TC)) (x19 : List (List TC)) (x20 : List (List TC)) (x21 : Int) (x22 : List (List TC)) (x23 : List UInt8) : runF tab FT D38 live 6 noLoops [(true, [(.str, TC.s x0), (.int .i64, TC.i x1), (.int .i64, TC.i x2), (.bool, TC.b x3), (.bool, TC.b x4), (.slice 9, TC.l x5), (.slice 2, TC.l x6), (.slice 189, TC.l x7), (.slice 45, TC.l x8), (.int .i64, TC.i x9), (.slice 2, TC.l x10), (.str, TC.s x11)]), (true, [(.str, TC.s x12), (.int .i64, TC.i x13), (.int .i64, TC.i x14), (.bool, TC.b x15), (.bool, TC.b x16), (.slice 9, TC.l x17), (.slice 2, TC.l x18), (.slice 189, TC.l x19), (.slice 45, TC.l x20), (.int .i64, TC.i x21), (.slice 2, TC.l x22), (.str, TC.s x23)])] = (laws_FnExactSameAttribute_t x0 x1 x2 x3 x4 x5 x6 x7 x8 x9 x10 x11 x12 x13 x14 x15 x16 x17 x18 x19 x20 x21 x22 x23).run fun p => some [(false, [⟨.bool, .sh, .b p⟩])] := by kernel_rfl
theorem tyArgsType {A B C E : List (List TC)} (a4 : Typed tab (.slice 9) (.l A)) (a5 : Typed tab (.slice 2) (.l B)) (a6 : Typed tab (.slice 189) (.l C)) (a7 : Typed tab (.slice 45) (.l E)) : Typed tab (.slice 9) (.l A) ∧ Typed tab (.slice 2) (.l B) ∧ Typed tab (.slice 147) (.l C) ∧ Typed tab (.slice 55) (.l E) :=
  ⟨typed_iso iso_ok a4 (by decide), typed_iso iso_ok a5 (by decide), typed_iso iso_ok a6 (by decide), typed_iso iso_ok a7 (by decide)⟩
theorem eqType_rv {x0 : Int} {x1 : Int} {x2 : Bool} {x3 : Bool} {x4 : List (List TC)} {x5 : List (List TC)} {x6 : List (List TC)} {x7 : List (List TC)} {x8 : Int} {y0 : Int} {y1 : Int} {y2 : Bool} {y3 : Bool} {y4 : List (List TC)} {y5 : List (List TC)} {y6 : List (List TC)} {y7 : List (List TC)} {y8 : Int} : ¬(!(laws_eqType_rv x0 x1 x2 x3 x4 x5 x6 x7 x8 y0 y1 y2 y3 y4 y5 y6 y7 y8)) = true := by
  show ¬(!true) = true
  decide
theorem neg_same {a : Bool} : ¬(!(a == a)) = true := by cases a <;> decide
theorem laws_FnExactSameAttribute_p (x0 : List UInt8) (x1 : Int) (x2 : Int) (x3 : Bool) (x4 : Bool) (x5 : List (List TC)) (x6 : List (List TC)) (x7 : List (List TC)) (x8 : List (List TC)) (x9 : Int) (x10 : List (List TC)) (x11 : List UInt8) (x12 : List UInt8) (x13 : Int) (x14 : Int) (x15 : Bool) (x16 : Bool) (x17 : List (List TC)) (x18 : List (List TC)) (x19 : List (List TC)) (x20 : List (List TC)) (x21 : Int) (x22 : List (List TC)) (x23 : List UInt8) (h0 : Typed tab (.str) (.s x0)) (h1 : Typed tab (.int .i64) (.i x1)) (h2 : Typed tab (.int .i64) (.i x2)) (h3 : Typed tab (.bool) (.b x3)) (h4 : Typed tab (.bool) (.b x4)) (h5 : Typed tab (.slice 9) (.l x5)) (h6 : Typed tab (.slice 2) (.l x6)) (h7 : Typed tab (.slice 189) (.l x7)) (h8 : Typed tab (.slice 45) (.l x8)) (h9 : Typed tab (.int .i64) (.i x9)) (h10 : Typed tab (.slice 2) (.l x10)) (h11 : Typed tab (.str) (.s x11)) (h12 : Typed tab (.str) (.s x12)) (h13 : Typed tab (.int .i64) (.i x13)) (h14 : Typed tab (.int .i64) (.i x14)) (h15 : Typed tab (.bool) (.b x15)) (h16 : Typed tab (.bool) (.b x16)) (h17 : Typed tab (.slice 9) (.l x17)) (h18 : Typed tab (.slice 2) (.l x18)) (h19 : Typed tab (.slice 189) (.l x19)) (h20 : Typed tab (.slice 45) (.l x20)) (h21 : Typed tab (.int .i64) (.i x21)) (h22 : Typed tab (.slice 2) (.l x22)) (h23 : Typed tab (.str) (.s x23)) (NN : Nat) (eN : NN = rowsDep x5 + rowsDep x6 + rowsDep x7 + rowsDep x8 + rowsDep x10 + rowsDep x17 + rowsDep x18 + rowsDep x19 + rowsDep x20 + rowsDep x22 + 1) (r_laws_szType : ∀ (x0 : Int) (x1 : Int) (x2 : Bool) (x3 : Bool) (x4 : List (List TC)) (x5 : List (List TC)) (x6 : List (List TC)) (x7 : List (List TC)) (x8 : Int) (x9 : Int), max (rowsDep x6) (rowsDep x7) < NN ∧ Typed tab (.slice 9) (.l x4) ∧ Typed tab (.slice 2) (.l x5) ∧ Typed tab (.slice 189) (.l x6) ∧ Typed tab (.slice 45) (.l x7) → (laws_szType_rc x0 x1 x2 x3 x4 x5 x6 x7 x8 x9) = true) (n_laws_toType : NN ≤ laws_toType_O.n) (n_spec_SameType : NN ≤ spec_SameType_O.n) (n_impl_SameType : NN ≤ impl_SameType_O.n) (n_laws_eqType : NN ≤ laws_eqType_O.n) : (laws_FnExactSameAttribute_t x0 x1 x2 x3 x4 x5 x6 x7 x8 x9 x10 x11 x12 x13 x14 x15 x16 x17 x18 x19 x20 x21 x22 x23).val = some true := by
  have t5_9 := laws_toStringS_ty h5
  have t6_2 := laws_toInt64S_ty h6
  have t7_147 := laws_toMemberS_ty h7
  have t8_55 := laws_toTypeS_ty h8
  have t10_2 := laws_toInt64S_ty h10
  have t17_9 := laws_toStringS_ty h17
  have t18_2 := laws_toInt64S_ty h18
  have t19_147 := laws_toMemberS_ty h19
  have t20_55 := laws_toTypeS_ty h20
  have t22_2 := laws_toInt64S_ty h22
  obtain ⟨i5, i6, i7, i8⟩ := tyArgsType h5 h6 h7 h8
  have zt0 : ∀ left : Int, laws_szType_rc x1 x2 x3 x4 x5 x6 x7 x8 x9 left = true := fun left => r_laws_szType x1 x2 x3 x4 x5 x6 x7 x8 x9 left ⟨by omega, h5, h6, h7, h8⟩
  have tt0 : laws_toType_rc x1 x2 x3 x4 x5 x6 x7 x8 x9 = true := is_true ⟨by omega, h5, h6, h7, h8⟩
  have et0 : laws_eqType_rc x1 x2 x3 x4 x5 x6 x7 x8 x9 x1 x2 x3 x4 x5 x6 x7 x8 x9 = true := is_true ⟨by omega, rfl, rfl, rfl, rfl, rfl, rfl, rfl, rfl, rfl, i5, i6, i7, i8⟩
  have ti10 : laws_toInt64S_c x10 = true := is_true h10
  have ii10 := laws_toInt64S_ty h10
  have ei10 : laws_eqInt64S_c x10 x10 = true := is_true ⟨rfl, ii10⟩
  obtain ⟨i17, i18, i19, i20⟩ := tyArgsType h17 h18 h19 h20
  have zt12 : ∀ left : Int, laws_szType_rc x13 x14 x15 x16 x17 x18 x19 x20 x21 left = true := fun left => r_laws_szType x13 x14 x15 x16 x17 x18 x19 x20 x21 left ⟨by omega, h17, h18, h19, h20⟩
  have tt12 : laws_toType_rc x13 x14 x15 x16 x17 x18 x19 x20 x21 = true := is_true ⟨by omega, h17, h18, h19, h20⟩
  have et12 : laws_eqType_rc x13 x14 x15 x16 x17 x18 x19 x20 x21 x13 x14 x15 x16 x17 x18 x19 x20 x21 = true := is_true ⟨by omega, rfl, rfl, rfl, rfl, rfl, rfl, rfl, rfl, rfl, i17, i18, i19, i20⟩
  have ti22 : laws_toInt64S_c x22 = true := is_true h22
  have ii22 := laws_toInt64S_ty h22
  have ei22 : laws_eqInt64S_c x22 x22 = true := is_true ⟨rfl, ii22⟩
  have ss : spec_SameType_rc x1 x2 x3 x4 x5 x6 x7 x8 x9 x13 x14 x15 x16 x17 x18 x19 x20 x21 = true := is_true ⟨by omega, i5, i6, i7, i8, i17, i18, i19, i20⟩
  have si : impl_SameType_rc x1 x2 x3 x4 x5 x6 x7 x8 x9 x13 x14 x15 x16 x17 x18 x19 x20 x21 = true := is_true ⟨by omega, i5, i6, i7, i8, i17, i18, i19, i20⟩
  have cs10 : spec_l00Same_c x10 x22 = true := is_true ii10
  have ci10 : slices_Equal_int64_int64_c x10 x22 = true := is_true ii10
  unfold laws_FnExactSameAttribute_t
  simp only [show laws_toAttribute_v x0 x1 x2 x3 x4 x5 x6 x7 x8 x9 x10 x11 = (x0, x1, x2, x3, x4, x5, x6, x7, x8, x9, x10, x11) from rfl, show laws_toAttribute_v x12 x13 x14 x15 x16 x17 x18 x19 x20 x21 x22 x23 = (x12, x13, x14, x15, x16, x17, x18, x19, x20, x21, x22, x23) from rfl]
  refine Tr.t (by apply laws_szAttribute_cc <;> first | assumption | (intro left; apply laws_szArray_cc <;> assumption)) ?_
  refine Tr.y ?_
  refine Tr.t (by apply laws_szAttribute_cc <;> first | assumption | (intro left; apply laws_szArray_cc <;> assumption)) ?_
  refine Tr.y ?_
  refine Tr.t (by simp [laws_toAttribute_c, laws_toArray_c, tt0, tt12, ti10, ti22, is_iff, bif_same]) ?_
  refine Tr.t (by simp [laws_toAttribute_c, laws_toArray_c, tt0, tt12, ti10, ti22, is_iff, bif_same]) ?_
  refine Tr.t (by simp [spec_SameAttribute_c, spec_SameArray_c, ss, cs10, is_iff, bif_same]) ?_
  refine Tr.t (by simp [laws_toAttribute_c, laws_toArray_c, tt0, tt12, ti10, ti22, is_iff, bif_same]) ?_
  refine Tr.t (by simp [laws_toAttribute_c, laws_toArray_c, tt0, tt12, ti10, ti22, is_iff, bif_same]) ?_
  refine Tr.t (by simp [impl_SameAttribute_c, impl_SameArray_c, si, ci10, is_iff, bif_same]) ?_
  refine Tr.n (by first | (exact neg_same) | (simp [laws_eqAttribute_v, laws_eqArray_v, laws_eqInt64S_v, laws_eqType_rv])) ?_
  refine Tr.t (by simp [laws_toAttribute_c, laws_toArray_c, tt0, tt12, ti10, ti22, is_iff, bif_same]) ?_
  refine Tr.t (by simp [laws_eqAttribute_c, laws_eqArray_c, et0, et12, ei10, ei22, is_iff, bif_same]) ?_
  refine Tr.n (by first | (exact neg_same) | (simp [laws_eqAttribute_v, laws_eqArray_v, laws_eqInt64S_v, laws_eqType_rv])) ?_
  refine Tr.t (by simp [laws_toAttribute_c, laws_toArray_c, tt0, tt12, ti10, ti22, is_iff, bif_same]) ?_
  refine Tr.t (by simp [laws_eqAttribute_c, laws_eqArray_c, et0, et12, ei10, ei22, is_iff, bif_same]) ?_
  refine Tr.n (by first | (exact neg_same) | (simp [laws_eqAttribute_v, laws_eqArray_v, laws_eqInt64S_v, laws_eqType_rv])) ?_
  rfl
end
end
end
end
end
end Go.Proofs.Ytghbndlkekaipaa.V
