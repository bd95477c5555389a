/- What the functions of FnExactSameDataset answer. No condition. -/
import Derived.Test.YtghbndlkekaipaaVFnExactSameDatasetP1
namespace Go.Proofs.Ytghbndlkekaipaa.V
open Go
set_option maxRecDepth 100000
set_option linter.unusedVariables false
set_option linter.unusedSectionVars false
set_option linter.unusedSimpArgs false
section
variable [i_laws_szType : laws_szType_O]
variable [g_laws_szType : laws_szType_G]
section
variable [i_laws_toType : laws_toType_O]
variable [g_laws_toType : laws_toType_G]
section
variable [i_spec_SameType : spec_SameType_O]
variable [g_spec_SameType : spec_SameType_G]
theorem spec_SameType_4_h (k : Int) (s : Int) (sg : Bool) (bg : Bool) (NA : List (List TC)) (NU : List (List TC)) (ME : List (List TC)) (BA : List (List TC)) (ct : Int) (k2 : Int) (s2 : Int) (sg2 : Bool) (bg2 : Bool) (NA2 : List (List TC)) (NU2 : List (List TC)) (ME2 : List (List TC)) (BA2 : List (List TC)) (ct2 : Int) (i : Int) (ow : spec_SameType_4_ω) : ((spec_SameType_4_fin k s sg bg NA NU ME BA ct k2 s2 sg2 bg2 NA2 NU2 ME2 BA2 ct2 i)).val = some ow → ∃ fuel, loopN spec_SameType_4_st fuel (k, s, sg, bg, NA, NU, ME, BA, ct, k2, s2, sg2, bg2, NA2, NU2, ME2, BA2, ct2, i) = some ow := by
  refine auto_const (R := (spec_SameType_R4 k s sg bg NA NU ME BA ct k2 s2 sg2 bg2 NA2 NU2 ME2 BA2 ct2 i)) rfl (iter_onR (f := (fun i a => (spec_SameType_f4 k s sg bg NA NU ME BA ct k2 s2 sg2 bg2 NA2 NU2 ME2 BA2 ct2 (i : Int)))) (fin := (fun a => (spec_SameType_e4 k s sg bg NA NU ME BA ct k2 s2 sg2 bg2 NA2 NU2 ME2 BA2 ct2))) (Q := endsAs (k, s, sg, bg, NA, NU, ME, BA, ct, k2, s2, sg2, bg2, NA2, NU2, ME2, BA2, ct2) (k, s, sg, bg, NA, NU, ME, BA, ct, k2, s2, sg2, bg2, NA2, NU2, ME2, BA2, ct2)) (fun i a => by unfold spec_SameType_f4; exact (onR_bif rfl (onR_bif rfl (onR_bif rfl trivial)))) (fun _ => rfl) _ _ _) ?_
  intro ho
  have ho : is (i = 0 ∧ ME.length = ME2.length ∧ ME.length ≤ 140737488355328 ∧ (∀ x y : List TC, x ∈ ME → y ∈ ME2 → spec_SameType_rc (nth x 2).int (nth x 3).int (nth x 4).bool (nth x 5).bool (nth x 6).list (nth x 7).list (nth x 8).list (nth x 9).list (nth x 10).int (nth y 2).int (nth y 3).int (nth y 4).bool (nth y 5).bool (nth y 6).list (nth y 7).list (nth y 8).list (nth y 9).list (nth y 10).int = true)) = true := ho.elim id id
  obtain ⟨rfl, hl, hm, hr⟩ := is_iff.1 ho
  skip
  refine ⟨(ME.length) + 1, ?_⟩
  refine iter_loop (step := spec_SameType_4_st) (ME.length) (fun i a => (spec_SameType_f4 k s sg bg NA NU ME BA ct k2 s2 sg2 bg2 NA2 NU2 ME2 BA2 ct2 (i : Int))) (fun a => (spec_SameType_e4 k s sg bg NA NU ME BA ct k2 s2 sg2 bg2 NA2 NU2 ME2 BA2 ct2)) (fun i a => (k, s, sg, bg, NA, NU, ME, BA, ct, k2, s2, sg2, bg2, NA2, NU2, ME2, BA2, ct2, (i : Int))) (fun _ _ => True) trivial (fun i a hi hI => ⟨?_, fun _ _ => trivial⟩) (fun a hI => ?_)
  · show (spec_SameType_4_step k s sg bg NA NU ME BA ct k2 s2 sg2 bg2 NA2 NU2 ME2 BA2 ct2 (i : Int)).val = _
    unfold spec_SameType_4_step spec_SameType_f4
    skip
    refine Tr.t (by simp; omega) ?_
    exact (Tr.t (by first | omega | (constructor <;> omega) | (exact hr _ _ (mem_getD (by omega)) (mem_getD (by omega)))) (Tr.t (by first | omega | (constructor <;> omega) | (exact hr _ _ (mem_getD (by omega)) (mem_getD (by omega)))) (Tr.bf rfl (Tr.t (by first | omega | (constructor <;> omega) | (exact hr _ _ (mem_getD (by omega)) (mem_getD (by omega)))) (Tr.t (by first | omega | (constructor <;> omega) | (exact hr _ _ (mem_getD (by omega)) (mem_getD (by omega)))) (Tr.bf rfl (Tr.t (by first | omega | (constructor <;> omega) | (exact hr _ _ (mem_getD (by omega)) (mem_getD (by omega)))) (Tr.t (by first | omega | (constructor <;> omega) | (exact hr _ _ (mem_getD (by omega)) (mem_getD (by omega)))) (Tr.t (by first | omega | (constructor <;> omega) | (exact hr _ _ (mem_getD (by omega)) (mem_getD (by omega)))) (Tr.bf rfl (by rw [Tr.val_ok, wrap64 (i := (i : Int) + 1) (by omega) (by omega)]; rfl)))))))))))
  · show (spec_SameType_4_step k s sg bg NA NU ME BA ct k2 s2 sg2 bg2 NA2 NU2 ME2 BA2 ct2 (ME.length : Int)).val = _
    refine Tr.n (by first | (simp; done) | (simp; omega) | omega) ?_
    rfl
theorem spec_SameType_is4 : LoopIs tab FT D22 live 64 spec_SameType_lo 0 4 := by
  refine loop_told (sl := spec_SameType_4_sl) (step := spec_SameType_4_st) (out := spec_SameType_4_out) (lor := spec_SameType_lo4) (fin := fun x => (spec_SameType_4_fin (x.1) (x.2.1) (x.2.2.1) (x.2.2.2.1) (x.2.2.2.2.1) (x.2.2.2.2.2.1) (x.2.2.2.2.2.2.1) (x.2.2.2.2.2.2.2.1) (x.2.2.2.2.2.2.2.2.1) (x.2.2.2.2.2.2.2.2.2.1) (x.2.2.2.2.2.2.2.2.2.2.1) (x.2.2.2.2.2.2.2.2.2.2.2.1) (x.2.2.2.2.2.2.2.2.2.2.2.2.1) (x.2.2.2.2.2.2.2.2.2.2.2.2.2.1) (x.2.2.2.2.2.2.2.2.2.2.2.2.2.2.1) (x.2.2.2.2.2.2.2.2.2.2.2.2.2.2.2.1) (x.2.2.2.2.2.2.2.2.2.2.2.2.2.2.2.2.1) (x.2.2.2.2.2.2.2.2.2.2.2.2.2.2.2.2.2.1) (x.2.2.2.2.2.2.2.2.2.2.2.2.2.2.2.2.2.2))) (fun _ => rfl) ?_ (fun x n => spec_SameType_4_r x.1 x.2.1 x.2.2.1 x.2.2.2.1 x.2.2.2.2.1 x.2.2.2.2.2.1 x.2.2.2.2.2.2.1 x.2.2.2.2.2.2.2.1 x.2.2.2.2.2.2.2.2.1 x.2.2.2.2.2.2.2.2.2.1 x.2.2.2.2.2.2.2.2.2.2.1 x.2.2.2.2.2.2.2.2.2.2.2.1 x.2.2.2.2.2.2.2.2.2.2.2.2.1 x.2.2.2.2.2.2.2.2.2.2.2.2.2.1 x.2.2.2.2.2.2.2.2.2.2.2.2.2.2.1 x.2.2.2.2.2.2.2.2.2.2.2.2.2.2.2.1 x.2.2.2.2.2.2.2.2.2.2.2.2.2.2.2.2.1 x.2.2.2.2.2.2.2.2.2.2.2.2.2.2.2.2.2.1 x.2.2.2.2.2.2.2.2.2.2.2.2.2.2.2.2.2.2 n) (fun x ow => spec_SameType_4_h x.1 x.2.1 x.2.2.1 x.2.2.2.1 x.2.2.2.2.1 x.2.2.2.2.2.1 x.2.2.2.2.2.2.1 x.2.2.2.2.2.2.2.1 x.2.2.2.2.2.2.2.2.1 x.2.2.2.2.2.2.2.2.2.1 x.2.2.2.2.2.2.2.2.2.2.1 x.2.2.2.2.2.2.2.2.2.2.2.1 x.2.2.2.2.2.2.2.2.2.2.2.2.1 x.2.2.2.2.2.2.2.2.2.2.2.2.2.1 x.2.2.2.2.2.2.2.2.2.2.2.2.2.2.1 x.2.2.2.2.2.2.2.2.2.2.2.2.2.2.2.1 x.2.2.2.2.2.2.2.2.2.2.2.2.2.2.2.2.1 x.2.2.2.2.2.2.2.2.2.2.2.2.2.2.2.2.2.1 x.2.2.2.2.2.2.2.2.2.2.2.2.2.2.2.2.2.2 ow)
  intro s t h
  unfold spec_SameType_lo4 at h
  split at h
  · cases h; exact ⟨(_, _, _, _, _, _, _, _, _, _, _, _, _, _, _, _, _, _, _), rfl, rfl⟩
  · cases h
noncomputable def spec_SameType_t (k : Int) (s : Int) (sg : Bool) (bg : Bool) (NA : List (List TC)) (NU : List (List TC)) (ME : List (List TC)) (BA : List (List TC)) (ct : Int) (k2 : Int) (s2 : Int) (sg2 : Bool) (bg2 : Bool) (NA2 : List (List TC)) (NU2 : List (List TC)) (ME2 : List (List TC)) (BA2 : List (List TC)) (ct2 : Int) : Tr (Bool) := (.ite ((!(k == k2)) = true) (.ok false)
  (.ite ((!(s == s2)) = true) (.ok false)
   (.ite ((!(sg == sg2)) = true) (.ok false)
    (.ite ((!(bg == bg2)) = true) (.ok false)
     (.ite ((!(ct == ct2)) = true) (.ok false)
      (.ite ((!((ME.length : Int) == (ME2.length : Int))) = true) (.ok false)
       (.ite ((!((BA.length : Int) == (BA2.length : Int))) = true) (.ok false)
        (.ite ((spec_SameType_k4_1 k s sg bg NA NU ME BA ct k2 s2 sg2 bg2 NA2 NU2 ME2 BA2 ct2 (0 : Int)) = true) (.ite ((spec_SameType_o4_2 k s sg bg NA NU ME BA ct k2 s2 sg2 bg2 NA2 NU2 ME2 BA2 ct2 (0 : Int)) = true) (.ok false)
          .no)
         (.ite ((spec_SameType_o4_3 k s sg bg NA NU ME BA ct k2 s2 sg2 bg2 NA2 NU2 ME2 BA2 ct2 (0 : Int)) = true) (.ite ((spec_SameType_k9_1 k s sg bg NA NU ME BA ct k2 s2 sg2 bg2 NA2 NU2 ME2 BA2 ct2 (0 : Int)) = true) (.ite ((spec_SameType_o9_2 k s sg bg NA NU ME BA ct k2 s2 sg2 bg2 NA2 NU2 ME2 BA2 ct2 (0 : Int)) = true) (.ok false)
            .no)
           (.ite ((spec_SameType_o9_3 k s sg bg NA NU ME BA ct k2 s2 sg2 bg2 NA2 NU2 ME2 BA2 ct2 (0 : Int)) = true) (.ite ((spec_l02Texts_c NA NA2) = true) (.ite ((spec_l02Texts_v NA NA2) = true) (.ite ((spec_l02Ints_c NU NU2) = true) (.ok (spec_l02Ints_v NU NU2))
               .no)
              (.ok false))
             .no)
            .no))
          .no)))))))))
def spec_SameType_mk (p : Bool) : Res := [(false, [⟨.bool, .sh, TC.b p⟩])]
noncomputable def spec_SameType_c (k : Int) (s : Int) (sg : Bool) (bg : Bool) (NA : List (List TC)) (NU : List (List TC)) (ME : List (List TC)) (BA : List (List TC)) (ct : Int) (k2 : Int) (s2 : Int) (sg2 : Bool) (bg2 : Bool) (NA2 : List (List TC)) (NU2 : List (List TC)) (ME2 : List (List TC)) (BA2 : List (List TC)) (ct2 : Int) : Bool := (bif (!(k == k2)) then true else (bif (!(s == s2)) then true else (bif (!(sg == sg2)) then true else (bif (!(bg == bg2)) then true else (bif (!(ct == ct2)) then true else (bif (!((ME.length : Int) == (ME2.length : Int))) then true else (bif (!((BA.length : Int) == (BA2.length : Int))) then true else (bif (spec_SameType_k4_1 k s sg bg NA NU ME BA ct k2 s2 sg2 bg2 NA2 NU2 ME2 BA2 ct2 (0 : Int)) then ((spec_SameType_o4_2 k s sg bg NA NU ME BA ct k2 s2 sg2 bg2 NA2 NU2 ME2 BA2 ct2 (0 : Int)) && true) else ((spec_SameType_o4_3 k s sg bg NA NU ME BA ct k2 s2 sg2 bg2 NA2 NU2 ME2 BA2 ct2 (0 : Int)) && (bif (spec_SameType_k9_1 k s sg bg NA NU ME BA ct k2 s2 sg2 bg2 NA2 NU2 ME2 BA2 ct2 (0 : Int)) then ((spec_SameType_o9_2 k s sg bg NA NU ME BA ct k2 s2 sg2 bg2 NA2 NU2 ME2 BA2 ct2 (0 : Int)) && true) else ((spec_SameType_o9_3 k s sg bg NA NU ME BA ct k2 s2 sg2 bg2 NA2 NU2 ME2 BA2 ct2 (0 : Int)) && ((spec_l02Texts_c NA NA2) && (bif (spec_l02Texts_v NA NA2) then ((spec_l02Ints_c NU NU2) && true) else true)))))))))))))
noncomputable def spec_SameType_v (k : Int) (s : Int) (sg : Bool) (bg : Bool) (NA : List (List TC)) (NU : List (List TC)) (ME : List (List TC)) (BA : List (List TC)) (ct : Int) (k2 : Int) (s2 : Int) (sg2 : Bool) (bg2 : Bool) (NA2 : List (List TC)) (NU2 : List (List TC)) (ME2 : List (List TC)) (BA2 : List (List TC)) (ct2 : Int) : Bool := (bif (!(k == k2)) then false else (bif (!(s == s2)) then false else (bif (!(sg == sg2)) then false else (bif (!(bg == bg2)) then false else (bif (!(ct == ct2)) then false else (bif (!((ME.length : Int) == (ME2.length : Int))) then false else (bif (!((BA.length : Int) == (BA2.length : Int))) then false else (bif (spec_SameType_k4_1 k s sg bg NA NU ME BA ct k2 s2 sg2 bg2 NA2 NU2 ME2 BA2 ct2 (0 : Int)) then false else (bif (spec_SameType_k9_1 k s sg bg NA NU ME BA ct k2 s2 sg2 bg2 NA2 NU2 ME2 BA2 ct2 (0 : Int)) then false else (bif (spec_l02Texts_v NA NA2) then (spec_l02Ints_v NU NU2) else false))))))))))
theorem spec_SameType_l (k : Int) (s : Int) (sg : Bool) (bg : Bool) (NA : List (List TC)) (NU : List (List TC)) (ME : List (List TC)) (BA : List (List TC)) (ct : Int) (k2 : Int) (s2 : Int) (sg2 : Bool) (bg2 : Bool) (NA2 : List (List TC)) (NU2 : List (List TC)) (ME2 : List (List TC)) (BA2 : List (List TC)) (ct2 : Int) : (spec_SameType_c k s sg bg NA NU ME BA ct k2 s2 sg2 bg2 NA2 NU2 ME2 BA2 ct2) = true → (spec_SameType_t k s sg bg NA NU ME BA ct k2 s2 sg2 bg2 NA2 NU2 ME2 BA2 ct2).val = some (spec_SameType_v k s sg bg NA NU ME BA ct k2 s2 sg2 bg2 NA2 NU2 ME2 BA2 ct2) := by
  unfold spec_SameType_t spec_SameType_v spec_SameType_c
  exact fun h => (Tr.ss h (fun h => rfl) (fun h => (Tr.ss h (fun h => rfl) (fun h => (Tr.ss h (fun h => rfl) (fun h => (Tr.ss h (fun h => rfl) (fun h => (Tr.ss h (fun h => rfl) (fun h => (Tr.ss h (fun h => rfl) (fun h => (Tr.ss h (fun h => rfl) (fun h => (Tr.ss h (fun h => (Tr.gb h fun h => rfl)) (fun h => (Tr.gb h fun h => (Tr.ss h (fun h => (Tr.gb h fun h => rfl)) (fun h => (Tr.gb h fun h => (Tr.gb h fun h => (Tr.ss h (fun h => (Tr.gb h fun h => rfl)) (fun h => rfl)))))))))))))))))))))))
noncomputable def spec_SameType_S : List Arg → Option (Bool × Res) := fun xs => match xs with
  | [(true, [(.int .i64, TC.i k), (.int .i64, TC.i s), (.bool, TC.b sg), (.bool, TC.b bg), (.slice 9, TC.l NA), (.slice 2, TC.l NU), (.slice 147, TC.l ME), (.slice 55, TC.l BA), (.int .i64, TC.i ct)]), (true, [(.int .i64, TC.i k2), (.int .i64, TC.i s2), (.bool, TC.b sg2), (.bool, TC.b bg2), (.slice 9, TC.l NA2), (.slice 2, TC.l NU2), (.slice 147, TC.l ME2), (.slice 55, TC.l BA2), (.int .i64, TC.i ct2)])] => some ((spec_SameType_c k s sg bg NA NU ME BA ct k2 s2 sg2 bg2 NA2 NU2 ME2 BA2 ct2), spec_SameType_mk (spec_SameType_v k s sg bg NA NU ME BA ct k2 s2 sg2 bg2 NA2 NU2 ME2 BA2 ct2))
  | _ => .none
theorem spec_SameType_e (k : Int) (s : Int) (sg : Bool) (bg : Bool) (NA : List (List TC)) (NU : List (List TC)) (ME : List (List TC)) (BA : List (List TC)) (ct : Int) (k2 : Int) (s2 : Int) (sg2 : Bool) (bg2 : Bool) (NA2 : List (List TC)) (NU2 : List (List TC)) (ME2 : List (List TC)) (BA2 : List (List TC)) (ct2 : Int) : runF tab FT D22 live 64 spec_SameType_lo [(true, [(.int .i64, TC.i k), (.int .i64, TC.i s), (.bool, TC.b sg), (.bool, TC.b bg), (.slice 9, TC.l NA), (.slice 2, TC.l NU), (.slice 147, TC.l ME), (.slice 55, TC.l BA), (.int .i64, TC.i ct)]), (true, [(.int .i64, TC.i k2), (.int .i64, TC.i s2), (.bool, TC.b sg2), (.bool, TC.b bg2), (.slice 9, TC.l NA2), (.slice 2, TC.l NU2), (.slice 147, TC.l ME2), (.slice 55, TC.l BA2), (.int .i64, TC.i ct2)])] = (spec_SameType_t k s sg bg NA NU ME BA ct k2 s2 sg2 bg2 NA2 NU2 ME2 BA2 ct2).run fun p => some (spec_SameType_mk p) := by kernel_rfl
theorem spec_SameType_s : ∀ xs r, spec_SameType_S xs = some (true, r) → runF tab FT D22 live 64 spec_SameType_lo xs = some r := by
  intro xs r h
  unfold spec_SameType_S at h
  split at h
  · simp only [Option.some.injEq, Prod.mk.injEq] at h
    obtain ⟨h1, rfl⟩ := h
    exact fun_told (spec_SameType_e _ _ _ _ _ _ _ _ _ _ _ _ _ _ _ _ _ _) (spec_SameType_l _ _ _ _ _ _ _ _ _ _ _ _ _ _ _ _ _ _) h1
  · cases h
theorem spec_SameType_nx (k : Int) (s : Int) (sg : Bool) (bg : Bool) (NA : List (List TC)) (NU : List (List TC)) (ME : List (List TC)) (BA : List (List TC)) (ct : Int) (k2 : Int) (s2 : Int) (sg2 : Bool) (bg2 : Bool) (NA2 : List (List TC)) (NU2 : List (List TC)) (ME2 : List (List TC)) (BA2 : List (List TC)) (ct2 : Int) : is (max (rowsDep ME) (rowsDep BA) < spec_SameType_O.n + 1 ∧ Typed tab (.slice 9) (.l NA) ∧ Typed tab (.slice 2) (.l NU) ∧ Typed tab (.slice 147) (.l ME) ∧ Typed tab (.slice 55) (.l BA) ∧ Typed tab (.slice 9) (.l NA2) ∧ Typed tab (.slice 2) (.l NU2) ∧ Typed tab (.slice 147) (.l ME2) ∧ Typed tab (.slice 55) (.l BA2)) = true → (spec_SameType_c k s sg bg NA NU ME BA ct k2 s2 sg2 bg2 NA2 NU2 ME2 BA2 ct2) = true ∧ (spec_SameType_v k s sg bg NA NU ME BA ct k2 s2 sg2 bg2 NA2 NU2 ME2 BA2 ct2) = sameV k s sg bg NA NU ME BA ct k2 s2 sg2 bg2 NA2 NU2 ME2 BA2 ct2 := by
  intro h
  obtain ⟨hM, a4, a5, a6, a7, b4, b5, b6, b7⟩ := is_iff.1 h
  have q6 : ∀ x y, x ∈ ME → y ∈ ME2 → spec_SameType_rc (nth x 2).int (nth x 3).int (nth x 4).bool (nth x 5).bool (nth x 6).list (nth x 7).list (nth x 8).list (nth x 9).list (nth x 10).int (nth y 2).int (nth y 3).int (nth y 4).bool (nth y 5).bool (nth y 6).list (nth y 7).list (nth y 8).list (nth y 9).list (nth y 10).int = true := fun x y hx hy => is_true ⟨by have a := dep_cell hx 8; have b := dep_cell hx 9; omega, typed_list ((typed_elem a6 hx).2 6 (by decide)), typed_list ((typed_elem a6 hx).2 7 (by decide)), typed_list ((typed_elem a6 hx).2 8 (by decide)), typed_list ((typed_elem a6 hx).2 9 (by decide)), typed_list ((typed_elem b6 hy).2 6 (by decide)), typed_list ((typed_elem b6 hy).2 7 (by decide)), typed_list ((typed_elem b6 hy).2 8 (by decide)), typed_list ((typed_elem b6 hy).2 9 (by decide))⟩
  have q7 : ∀ x y, x ∈ BA → y ∈ BA2 → spec_SameType_rc (nth x 0).int (nth x 1).int (nth x 2).bool (nth x 3).bool (nth x 4).list (nth x 5).list (nth x 6).list (nth x 7).list (nth x 8).int (nth y 0).int (nth y 1).int (nth y 2).bool (nth y 3).bool (nth y 4).list (nth y 5).list (nth y 6).list (nth y 7).list (nth y 8).int = true := fun x y hx hy => is_true ⟨by have a := dep_cell hx 6; have b := dep_cell hx 7; omega, typed_list ((typed_elem a7 hx).2 4 (by decide)), typed_list ((typed_elem a7 hx).2 5 (by decide)), typed_list ((typed_elem a7 hx).2 6 (by decide)), typed_list ((typed_elem a7 hx).2 7 (by decide)), typed_list ((typed_elem b7 hy).2 4 (by decide)), typed_list ((typed_elem b7 hy).2 5 (by decide)), typed_list ((typed_elem b7 hy).2 6 (by decide)), typed_list ((typed_elem b7 hy).2 7 (by decide))⟩
  have c4 : spec_l02Texts_c NA NA2 = true := is_true a4
  have c5 : spec_l02Ints_c NU NU2 = true := is_true a5
  have v4 : spec_l02Texts_v NA NA2 = eqL NA NA2 := allEq_eqL (E := E_9) (fun x y hx hy => by
    constructor
    · intro h
      have hh : (nth x 0).str = (nth y 0).str := by
        simpa [E_9] using h
      have e0 := hh
      have hx' := form_9 a4 hx
      have hy' := form_9 b4 hy
      rw [hx', hy', e0]
    · rintro rfl
      simp [E_9])
  have v5 : spec_l02Ints_v NU NU2 = eqL NU NU2 := allEq_eqL (E := E_2) (fun x y hx hy => by
    constructor
    · intro h
      have hh : (nth x 0).int = (nth y 0).int := by
        simpa [E_2] using h
      have e0 := hh
      have hx' := form_2 a5 hx
      have hy' := form_2 b5 hy
      rw [hx', hy', e0]
    · rintro rfl
      simp [E_2])
  have v6 : ME.length = ME2.length → allI (fun i : Nat => ((nth (row ME (i : Int)) 0).str == (nth (row ME2 (i : Int)) 0).str) && (((nth (row ME (i : Int)) 1).int == (nth (row ME2 (i : Int)) 1).int) && spec_SameType_rv (nth (row ME (i : Int)) 2).int (nth (row ME (i : Int)) 3).int (nth (row ME (i : Int)) 4).bool (nth (row ME (i : Int)) 5).bool (nth (row ME (i : Int)) 6).list (nth (row ME (i : Int)) 7).list (nth (row ME (i : Int)) 8).list (nth (row ME (i : Int)) 9).list (nth (row ME (i : Int)) 10).int (nth (row ME2 (i : Int)) 2).int (nth (row ME2 (i : Int)) 3).int (nth (row ME2 (i : Int)) 4).bool (nth (row ME2 (i : Int)) 5).bool (nth (row ME2 (i : Int)) 6).list (nth (row ME2 (i : Int)) 7).list (nth (row ME2 (i : Int)) 8).list (nth (row ME2 (i : Int)) 9).list (nth (row ME2 (i : Int)) 10).int)) ME.length = eqL ME ME2 := fun hl => (allI_allEq (E := fun x y => ((nth x 0).str == (nth y 0).str) && (((nth x 1).int == (nth y 1).int) && spec_SameType_rv (nth x 2).int (nth x 3).int (nth x 4).bool (nth x 5).bool (nth x 6).list (nth x 7).list (nth x 8).list (nth x 9).list (nth x 10).int (nth y 2).int (nth y 3).int (nth y 4).bool (nth y 5).bool (nth y 6).list (nth y 7).list (nth y 8).list (nth y 9).list (nth y 10).int)) hl).trans (allEq_eqL (fun x y hx hy => by
    constructor
    · intro h
      have hh : (nth x 0).str = (nth y 0).str ∧ (nth x 1).int = (nth y 1).int ∧ (nth x 2).int = (nth y 2).int ∧ (nth x 3).int = (nth y 3).int ∧ (nth x 4).bool = (nth y 4).bool ∧ (nth x 5).bool = (nth y 5).bool ∧ (nth x 6).list = (nth y 6).list ∧ (nth x 7).list = (nth y 7).list ∧ (nth x 8).list = (nth y 8).list ∧ (nth x 9).list = (nth y 9).list ∧ (nth x 10).int = (nth y 10).int := by
        have h : (((nth x 0).str == (nth y 0).str) && (((nth x 1).int == (nth y 1).int) && sameV (nth x 2).int (nth x 3).int (nth x 4).bool (nth x 5).bool (nth x 6).list (nth x 7).list (nth x 8).list (nth x 9).list (nth x 10).int (nth y 2).int (nth y 3).int (nth y 4).bool (nth y 5).bool (nth y 6).list (nth y 7).list (nth y 8).list (nth y 9).list (nth y 10).int)) = true := h
        simp only [sameV, Bool.and_eq_true, beq_iff_eq, eqL_iff] at h
        obtain ⟨n, o, h⟩ := h
        exact ⟨n, o, h.1, h.2.1, h.2.2.1, h.2.2.2.1, h.2.2.2.2.2.1, h.2.2.2.2.2.2.1, h.2.2.2.2.2.2.2.1, h.2.2.2.2.2.2.2.2, h.2.2.2.2.1⟩
      obtain ⟨e0, e1, e2, e3, e4, e5, e6, e7, e8, e9, e10⟩ := hh
      have hx' := form_147 a6 hx
      have hy' := form_147 b6 hy
      rw [hx', hy', e0, e1, e2, e3, e4, e5, e6, e7, e8, e9, e10]
    · rintro rfl
      show (((nth x 0).str == (nth x 0).str) && (((nth x 1).int == (nth x 1).int) && sameV (nth x 2).int (nth x 3).int (nth x 4).bool (nth x 5).bool (nth x 6).list (nth x 7).list (nth x 8).list (nth x 9).list (nth x 10).int (nth x 2).int (nth x 3).int (nth x 4).bool (nth x 5).bool (nth x 6).list (nth x 7).list (nth x 8).list (nth x 9).list (nth x 10).int)) = true
      simp [sameV, eqL_refl]))
  have v7 : BA.length = BA2.length → allI (fun i : Nat => spec_SameType_rv (nth (row BA (i : Int)) 0).int (nth (row BA (i : Int)) 1).int (nth (row BA (i : Int)) 2).bool (nth (row BA (i : Int)) 3).bool (nth (row BA (i : Int)) 4).list (nth (row BA (i : Int)) 5).list (nth (row BA (i : Int)) 6).list (nth (row BA (i : Int)) 7).list (nth (row BA (i : Int)) 8).int (nth (row BA2 (i : Int)) 0).int (nth (row BA2 (i : Int)) 1).int (nth (row BA2 (i : Int)) 2).bool (nth (row BA2 (i : Int)) 3).bool (nth (row BA2 (i : Int)) 4).list (nth (row BA2 (i : Int)) 5).list (nth (row BA2 (i : Int)) 6).list (nth (row BA2 (i : Int)) 7).list (nth (row BA2 (i : Int)) 8).int) BA.length = eqL BA BA2 := fun hl => (allI_allEq (E := fun x y => spec_SameType_rv (nth x 0).int (nth x 1).int (nth x 2).bool (nth x 3).bool (nth x 4).list (nth x 5).list (nth x 6).list (nth x 7).list (nth x 8).int (nth y 0).int (nth y 1).int (nth y 2).bool (nth y 3).bool (nth y 4).list (nth y 5).list (nth y 6).list (nth y 7).list (nth y 8).int) hl).trans (allEq_eqL (fun x y hx hy => by
    constructor
    · intro h
      have hh : (nth x 0).int = (nth y 0).int ∧ (nth x 1).int = (nth y 1).int ∧ (nth x 2).bool = (nth y 2).bool ∧ (nth x 3).bool = (nth y 3).bool ∧ (nth x 4).list = (nth y 4).list ∧ (nth x 5).list = (nth y 5).list ∧ (nth x 6).list = (nth y 6).list ∧ (nth x 7).list = (nth y 7).list ∧ (nth x 8).int = (nth y 8).int := by
        have h : sameV (nth x 0).int (nth x 1).int (nth x 2).bool (nth x 3).bool (nth x 4).list (nth x 5).list (nth x 6).list (nth x 7).list (nth x 8).int (nth y 0).int (nth y 1).int (nth y 2).bool (nth y 3).bool (nth y 4).list (nth y 5).list (nth y 6).list (nth y 7).list (nth y 8).int = true := h
        simp only [sameV, Bool.and_eq_true, beq_iff_eq, eqL_iff] at h
        exact ⟨h.1, h.2.1, h.2.2.1, h.2.2.2.1, h.2.2.2.2.2.1, h.2.2.2.2.2.2.1, h.2.2.2.2.2.2.2.1, h.2.2.2.2.2.2.2.2, h.2.2.2.2.1⟩
      obtain ⟨e0, e1, e2, e3, e4, e5, e6, e7, e8⟩ := hh
      have hx' := form_55 a7 hx
      have hy' := form_55 b7 hy
      rw [hx', hy', e0, e1, e2, e3, e4, e5, e6, e7, e8]
    · rintro rfl
      show sameV (nth x 0).int (nth x 1).int (nth x 2).bool (nth x 3).bool (nth x 4).list (nth x 5).list (nth x 6).list (nth x 7).list (nth x 8).int (nth x 0).int (nth x 1).int (nth x 2).bool (nth x 3).bool (nth x 4).list (nth x 5).list (nth x 6).list (nth x 7).list (nth x 8).int = true
      simp [sameV, eqL_refl]))
  have w6 : ME.length ≤ 140737488355328 := by have := typed_room a6; simp only [show (tab 147).bytes = 152 from rfl] at this; omega
  have w7 : BA.length ≤ 140737488355328 := by have := typed_room a7; simp only [show (tab 55).bytes = 128 from rfl] at this; omega
  have ne : ∀ A C : List (List TC), ¬A.length = C.length → eqL A C = false := fun A C hn => by
    cases he : eqL A C with
    | false => rfl
    | true => exact absurd (congrArg List.length (eqL_iff.1 he)) hn
  unfold spec_SameType_c spec_SameType_v sameV
  by_cases l6 : ME.length = ME2.length
  · by_cases l7 : BA.length = BA2.length
    · have o0 : spec_SameType_o4_2 k s sg bg NA NU ME BA ct k2 s2 sg2 bg2 NA2 NU2 ME2 BA2 ct2 0 = true ∧ spec_SameType_o4_3 k s sg bg NA NU ME BA ct k2 s2 sg2 bg2 NA2 NU2 ME2 BA2 ct2 0 = true := ⟨is_true ⟨rfl, l6, w6, q6⟩, is_true ⟨rfl, l6, w6, q6⟩⟩
      have o1 : spec_SameType_o9_2 k s sg bg NA NU ME BA ct k2 s2 sg2 bg2 NA2 NU2 ME2 BA2 ct2 0 = true ∧ spec_SameType_o9_3 k s sg bg NA NU ME BA ct k2 s2 sg2 bg2 NA2 NU2 ME2 BA2 ct2 0 = true := ⟨is_true ⟨rfl, l7, w7, q7⟩, is_true ⟨rfl, l7, w7, q7⟩⟩
      rw [show ((ME.length : Int) == (ME2.length : Int)) = true from by simp [l6], show ((BA.length : Int) == (BA2.length : Int)) = true from by simp [l7]]
      have k0 : spec_SameType_k4_1 k s sg bg NA NU ME BA ct k2 s2 sg2 bg2 NA2 NU2 ME2 BA2 ct2 0 = !(eqL ME ME2) := by
        unfold spec_SameType_k4_1
        rw [spec_SameType_R4_eq, v6 l6]
        cases eqL ME ME2 <;> rfl
      have k1 : spec_SameType_k9_1 k s sg bg NA NU ME BA ct k2 s2 sg2 bg2 NA2 NU2 ME2 BA2 ct2 0 = !(eqL BA BA2) := by
        unfold spec_SameType_k9_1
        rw [spec_SameType_R9_eq, v7 l7]
        cases eqL BA BA2 <;> rfl
      simp only [o0.1, o0.2, o1.1, o1.2, k0, k1, c4, c5, v4, v5, bif_nf, bif_tf, bif_ft, Bool.not_true, cond_false, Bool.not_not, Bool.and_true, Bool.true_and, bif_same, true_and]
      ac_rfl
    · have e4 : ((BA.length : Int) == (BA2.length : Int)) = false := by simp; omega
      simp only [e4, ne _ _ l7, bif_nf, bif_tf, bif_ft, Bool.not_false, cond_true, Bool.false_and, Bool.and_false, bif_same, and_self]
  · have e3 : ((ME.length : Int) == (ME2.length : Int)) = false := by simp; omega
    simp only [e3, ne _ _ l6, bif_nf, bif_tf, bif_ft, Bool.not_false, cond_true, Bool.false_and, Bool.and_false, bif_same, and_self]
theorem spec_SameType_nxr (k : Int) (s : Int) (sg : Bool) (bg : Bool) (NA : List (List TC)) (NU : List (List TC)) (ME : List (List TC)) (BA : List (List TC)) (ct : Int) (k2 : Int) (s2 : Int) (sg2 : Bool) (bg2 : Bool) (NA2 : List (List TC)) (NU2 : List (List TC)) (ME2 : List (List TC)) (BA2 : List (List TC)) (ct2 : Int) : spec_SameType_rc (i_spec_SameType := ⟨spec_SameType_O.n + 1⟩) k s sg bg NA NU ME BA ct k2 s2 sg2 bg2 NA2 NU2 ME2 BA2 ct2 = true → (spec_SameType_c k s sg bg NA NU ME BA ct k2 s2 sg2 bg2 NA2 NU2 ME2 BA2 ct2) = true ∧ (spec_SameType_v k s sg bg NA NU ME BA ct k2 s2 sg2 bg2 NA2 NU2 ME2 BA2 ct2) = (spec_SameType_rv k s sg bg NA NU ME BA ct k2 s2 sg2 bg2 NA2 NU2 ME2 BA2 ct2) := fun h => spec_SameType_nx k s sg bg NA NU ME BA ct k2 s2 sg2 bg2 NA2 NU2 ME2 BA2 ct2 h
theorem spec_SameType_rs : ∀ xs r, spec_SameType_rS (i_spec_SameType := ⟨spec_SameType_O.n + 1⟩) xs = some (true, r) → runF tab FT D22 live 64 spec_SameType_lo xs = some r := by
  intro xs r h
  unfold spec_SameType_rS at h
  split at h
  · simp only [Option.some.injEq, Prod.mk.injEq] at h
    obtain ⟨h1, rfl⟩ := h
    have hx := spec_SameType_nxr _ _ _ _ _ _ _ _ _ _ _ _ _ _ _ _ _ _ h1
    have ht := fun_told (spec_SameType_e _ _ _ _ _ _ _ _ _ _ _ _ _ _ _ _ _ _) (spec_SameType_l _ _ _ _ _ _ _ _ _ _ _ _ _ _ _ _ _ _) hx.1
    rw [hx.2] at ht
    exact ht
  · cases h
theorem spec_SameType_step : spec_SameType_G (i_spec_SameType := ⟨spec_SameType_O.n + 1⟩) := by
  have h := DOk.also2 (S := spec_SameType_rS (i_spec_SameType := ⟨spec_SameType_O.n + 1⟩)) mixed_ok tab_ok names_ok d19 d22 (fnLoops_two (by kernel_rfl) spec_SameType_is4 spec_SameType_is9) spec_SameType_rs
  refine spec_SameType_G.mk (i_spec_SameType := ⟨spec_SameType_O.n + 1⟩) ?_
  exact h
/-! spec_l00Same -/
abbrev spec_l00Same_4_σ := List (List TC) × List (List TC) × Int
abbrev spec_l00Same_4_ω := (Unit) ⊕ (Unit)
noncomputable def spec_l00Same_4_step (A : List (List TC)) (C : List (List TC)) (i : Int) : Tr (spec_l00Same_4_σ ⊕ spec_l00Same_4_ω) := (.ite ((decide (i < (A.length : Int))) = true) (.ite ((0 : Int) ≤ i ∧ i < (A.length : Int)) (.ite ((0 : Int) ≤ i ∧ i < (C.length : Int)) (.ite ((!((nth (row A i) 0).int == (nth (row C i) 0).int)) = true) (.ok (.inr (.inl ())))
     (.ok (.inl (A, C, (IntKind.wrap .i64 (i + (1 : Int)))))))
    .no)
   .no)
  (.ok (.inr (.inr ()))))
noncomputable def spec_l00Same_4_st : spec_l00Same_4_σ → Tr (spec_l00Same_4_σ ⊕ spec_l00Same_4_ω) := fun x => (spec_l00Same_4_step (x.1) (x.2.1) (x.2.2))
noncomputable def spec_l00Same_k4_1 (A : List (List TC)) (C : List (List TC)) (i : Int) : Bool := allEq E_2 A C
noncomputable def spec_l00Same_o4_2 (A : List (List TC)) (C : List (List TC)) (i : Int) : Bool := is (A.length = C.length ∧ i = 0 ∧ Typed tab (.slice 2) (.l A))
noncomputable def spec_l00Same_o4_3 (A : List (List TC)) (C : List (List TC)) (i : Int) : Bool := is (A.length = C.length ∧ i = 0 ∧ Typed tab (.slice 2) (.l A))
noncomputable def spec_l00Same_4_fin (A : List (List TC)) (C : List (List TC)) (i : Int) : Told spec_l00Same_4_ω := (.br (spec_l00Same_k4_1 A C i) (.leaf (spec_l00Same_o4_2 A C i) (.inr ())) (.leaf (spec_l00Same_o4_3 A C i) (.inl ())))
def spec_l00Same_4_sl (x : spec_l00Same_4_σ) : List Slot := [⟨.val false [⟨.slice 2, .sh, TC.l (x.1)⟩], ⟨0, 0⟩⟩, ⟨.val false [⟨.slice 2, .sh, TC.l (x.2.1)⟩], ⟨0, 0⟩⟩, ⟨.val false [⟨.int .i64, .sh, TC.i (x.2.2)⟩], ⟨0, 0⟩⟩]
def spec_l00Same_4_out : spec_l00Same_4_ω → Ex × List Slot := (Sum.elim (fun x => (.ret, [⟨.val false [⟨.bool, .sh, TC.b false⟩], ⟨0, 0⟩⟩])) (fun x => (.exit 0, [Slot.none])))
noncomputable def spec_l00Same_lo4 : List Slot → Option (Told (Ex × List Slot)) := fun s => match s with
  | [⟨.val false [⟨.slice 2, .sh, TC.l A⟩], ⟨0, 0⟩⟩, ⟨.val false [⟨.slice 2, .sh, TC.l C⟩], ⟨0, 0⟩⟩, ⟨.val false [⟨.int .i64, .sh, TC.i i⟩], ⟨0, 0⟩⟩] => some (((spec_l00Same_4_fin A C i)).map spec_l00Same_4_out)
  | _ => .none
noncomputable def spec_l00Same_lo : LoopTeller := fun r s => bif Nat.beq r 4 then spec_l00Same_lo4 s else .none
theorem spec_l00Same_4_r (A : List (List TC)) (C : List (List TC)) (i : Int) (fuel : Nat) : rounds (rnd tab FT D22 live 81 spec_l00Same_lo 0 4) leave (fuel + 1) (spec_l00Same_4_sl (A, C, i)) = ((spec_l00Same_4_step A C i)).run (goOn (fun s => rounds (rnd tab FT D22 live 81 spec_l00Same_lo 0 4) leave fuel (spec_l00Same_4_sl s)) fun w => some (spec_l00Same_4_out w)) := by kernel_rfl
theorem spec_l00Same_4_h (A : List (List TC)) (C : List (List TC)) (i : Int) (ow : spec_l00Same_4_ω) : ((spec_l00Same_4_fin A C i)).val = some ow → ∃ fuel, loopN spec_l00Same_4_st fuel (A, C, i) = some ow := by
  intro h
  have key : A.length = C.length → Typed tab (.slice 2) (.l A) → loopN spec_l00Same_4_st (A.length + 1) (A, C, 0) = some (if allEq E_2 A C = true then .inr () else .inl ()) := by
    intro hl ht
    have hlen : A.length ≤ 140737488351232 := by have := typed_room ht; simp only [show (tab 2).bytes = 8 from rfl] at this; omega
    refine loopN_allEq A C E_2 (fun i => (A, C, (i : Int))) _ _ hl (fun i hi => ?_) ?_ A.length 0 (by omega)
    · show (spec_l00Same_4_step A C (i : Int)).val = _
      unfold spec_l00Same_4_step
      refine Tr.t (by simp; omega) ?_
      refine Tr.t (by constructor <;> omega) ?_
      refine Tr.t (by constructor <;> omega) ?_
      rw [wrap64 (i := (i : Int) + 1) (by omega) (by omega)]
      rw [Tr.val_br]
      show (if (!(E_2 (A.getD i []) (C.getD i []))) = true then _ else _) = _
      cases E_2 (A.getD i []) (C.getD i []) <;> rfl
    · show (spec_l00Same_4_step A C (A.length : Int)).val = _
      refine Tr.n (by simp) ?_
      rfl
  simp only [spec_l00Same_4_fin, Told.val] at h
  cases hk : allEq E_2 A C with
  | true =>
    rw [if_pos (show spec_l00Same_k4_1 A C i = true from hk)] at h
    split at h
    · rename_i ho
      obtain ⟨hl, rfl, ht⟩ := is_iff.1 ho
      cases h
      refine ⟨_, (key hl ht).trans ?_⟩
      rw [hk]; rfl
    · cases h
  | false =>
    rw [if_neg (show ¬spec_l00Same_k4_1 A C i = true from by rw [show spec_l00Same_k4_1 A C i = allEq E_2 A C from rfl, hk]; simp)] at h
    split at h
    · rename_i ho
      obtain ⟨hl, rfl, ht⟩ := is_iff.1 ho
      cases h
      refine ⟨_, (key hl ht).trans ?_⟩
      rw [hk]; rfl
    · cases h
theorem spec_l00Same_is4 : LoopIs tab FT D22 live 81 spec_l00Same_lo 0 4 := by
  refine loop_told (sl := spec_l00Same_4_sl) (step := spec_l00Same_4_st) (out := spec_l00Same_4_out) (lor := spec_l00Same_lo4) (fin := fun x => (spec_l00Same_4_fin (x.1) (x.2.1) (x.2.2))) (fun _ => rfl) ?_ (fun x n => spec_l00Same_4_r x.1 x.2.1 x.2.2 n) (fun x ow => spec_l00Same_4_h x.1 x.2.1 x.2.2 ow)
  intro s t h
  unfold spec_l00Same_lo4 at h
  split at h
  · cases h; exact ⟨(_, _, _), rfl, rfl⟩
  · cases h
noncomputable def spec_l00Same_t (A : List (List TC)) (C : List (List TC)) : Tr (Bool) := (.ite ((!((A.length : Int) == (C.length : Int))) = true) (.ok false)
  (.ite ((spec_l00Same_k4_1 A C (0 : Int)) = true) (.ite ((spec_l00Same_o4_2 A C (0 : Int)) = true) (.ok true)
    .no)
   (.ite ((spec_l00Same_o4_3 A C (0 : Int)) = true) (.ok false)
    .no)))
def spec_l00Same_mk (p : Bool) : Res := [(false, [⟨.bool, .sh, TC.b p⟩])]
noncomputable def spec_l00Same_c (A : List (List TC)) (C : List (List TC)) : Bool := is (Typed tab (.slice 2) (.l A))
noncomputable def spec_l00Same_v (A : List (List TC)) (C : List (List TC)) : Bool := allEq E_2 A C
theorem spec_l00Same_l (A : List (List TC)) (C : List (List TC)) : (spec_l00Same_c A C) = true → (spec_l00Same_t A C).val = some (spec_l00Same_v A C) := by
  intro h
  have ht := is_iff.1 h
  unfold spec_l00Same_t
  by_cases hl : A.length = C.length
  · refine Tr.n (by simp [hl]) ?_
    cases hk : allEq E_2 A C with
    | true =>
      refine Tr.t (show allEq E_2 A C = true from hk) ?_
      refine Tr.t (is_true ⟨hl, rfl, ht⟩) ?_
      show _ = some (allEq E_2 A C); rw [hk]; rfl
    | false =>
      refine Tr.n (show ¬allEq E_2 A C = true from by rw [hk]; simp) ?_
      refine Tr.t (is_true ⟨hl, rfl, ht⟩) ?_
      show _ = some (allEq E_2 A C); rw [hk]; rfl
  · refine Tr.t (by simp; omega) ?_
    show _ = some (allEq E_2 A C)
    rw [allEq_ne hl]
    rfl
noncomputable def spec_l00Same_S : List Arg → Option (Bool × Res) := fun xs => match xs with
  | [(false, [(.slice 2, TC.l A)]), (false, [(.slice 2, TC.l C)])] => some ((spec_l00Same_c A C), spec_l00Same_mk (spec_l00Same_v A C))
  | _ => .none
theorem spec_l00Same_e (A : List (List TC)) (C : List (List TC)) : runF tab FT D22 live 81 spec_l00Same_lo [(false, [(.slice 2, TC.l A)]), (false, [(.slice 2, TC.l C)])] = (spec_l00Same_t A C).run fun p => some (spec_l00Same_mk p) := by kernel_rfl
theorem spec_l00Same_s : ∀ xs r, spec_l00Same_S xs = some (true, r) → runF tab FT D22 live 81 spec_l00Same_lo xs = some r := by
  intro xs r h
  unfold spec_l00Same_S at h
  split at h
  · simp only [Option.some.injEq, Prod.mk.injEq] at h
    obtain ⟨h1, rfl⟩ := h
    exact fun_told (spec_l00Same_e _ _) (spec_l00Same_l _ _) h1
  · cases h
noncomputable def D23 : Dt := also D22 81 spec_l00Same_S
theorem d23 : DOk Go.Proofs.Try.prog tab D23 := d22.also mixed_ok tab_ok names_ok (fnLoops_one (by kernel_rfl) spec_l00Same_is4) spec_l00Same_s
/-! spec_SameSpace -/
noncomputable def spec_SameSpace_t (a0 : List (List TC)) (a1 : List (List TC)) (a2 : List (List TC)) (a3 : List (List TC)) : Tr (Bool) := (.ite ((spec_l00Same_c a0 a2) = true) (.ite ((spec_l00Same_v a0 a2) = true) (.ite ((spec_l00Same_c a1 a3) = true) (.ok (spec_l00Same_v a1 a3))
    .no)
   (.ok false))
  .no)
def spec_SameSpace_mk (p : Bool) : Res := [(false, [⟨.bool, .sh, TC.b p⟩])]
noncomputable def spec_SameSpace_c (a0 : List (List TC)) (a1 : List (List TC)) (a2 : List (List TC)) (a3 : List (List TC)) : Bool := is (((spec_l00Same_c a0 a2) = true) ∧ ((spec_l00Same_c a1 a3) = true))
noncomputable def spec_SameSpace_v (a0 : List (List TC)) (a1 : List (List TC)) (a2 : List (List TC)) (a3 : List (List TC)) : Bool := (bif (spec_l00Same_v a0 a2) then (spec_l00Same_v a1 a3) else false)
theorem spec_SameSpace_l (a0 : List (List TC)) (a1 : List (List TC)) (a2 : List (List TC)) (a3 : List (List TC)) : (spec_SameSpace_c a0 a1 a2 a3) = true → (spec_SameSpace_t a0 a1 a2 a3).val = some (spec_SameSpace_v a0 a1 a2 a3) := by
  intro h
  obtain ⟨g0, g1⟩ := is_iff.1 h
  unfold spec_SameSpace_t spec_SameSpace_v
  exact (Tr.t g0 (Tr.s (Tr.t g1 rfl) rfl))
noncomputable def spec_SameSpace_S : List Arg → Option (Bool × Res) := fun xs => match xs with
  | [(true, [(.slice 2, TC.l a0), (.slice 2, TC.l a1)]), (true, [(.slice 2, TC.l a2), (.slice 2, TC.l a3)])] => some ((spec_SameSpace_c a0 a1 a2 a3), spec_SameSpace_mk (spec_SameSpace_v a0 a1 a2 a3))
  | _ => .none
theorem spec_SameSpace_e (a0 : List (List TC)) (a1 : List (List TC)) (a2 : List (List TC)) (a3 : List (List TC)) : runF tab FT D23 live 65 noLoops [(true, [(.slice 2, TC.l a0), (.slice 2, TC.l a1)]), (true, [(.slice 2, TC.l a2), (.slice 2, TC.l a3)])] = (spec_SameSpace_t a0 a1 a2 a3).run fun p => some (spec_SameSpace_mk p) := by kernel_rfl
theorem spec_SameSpace_s : ∀ xs r, spec_SameSpace_S xs = some (true, r) → runF tab FT D23 live 65 noLoops xs = some r := by
  intro xs r h
  unfold spec_SameSpace_S at h
  split at h
  · simp only [Option.some.injEq, Prod.mk.injEq] at h
    obtain ⟨h1, rfl⟩ := h
    exact fun_told (spec_SameSpace_e _ _ _ _) (spec_SameSpace_l _ _ _ _) h1
  · cases h
noncomputable def D24 : Dt := also D23 65 spec_SameSpace_S
theorem d24 : DOk Go.Proofs.Try.prog tab D24 := d23.also mixed_ok tab_ok names_ok noLoops_ok spec_SameSpace_s
/-! spec_l19Same -/
def E_122 (x y : List TC) : Bool := (((nth x 0).int == (nth y 0).int) && (((nth x 1).int == (nth y 1).int) && (((nth x 2).bool == (nth y 2).bool) && true)))
abbrev spec_l19Same_4_σ := List (List TC) × List (List TC) × Int
abbrev spec_l19Same_4_ω := (Unit) ⊕ (Unit)
noncomputable def spec_l19Same_4_step (A : List (List TC)) (C : List (List TC)) (i : Int) : Tr (spec_l19Same_4_σ ⊕ spec_l19Same_4_ω) := (.ite ((decide (i < (A.length : Int))) = true) (.ite ((0 : Int) ≤ i ∧ i < (A.length : Int)) (.ite ((0 : Int) ≤ i ∧ i < (C.length : Int)) (.ite ((!(((nth (row A i) 0).int == (nth (row C i) 0).int) && (((nth (row A i) 1).int == (nth (row C i) 1).int) && (((nth (row A i) 2).bool == (nth (row C i) 2).bool) && true)))) = true) (.ok (.inr (.inl ())))
     (.ok (.inl (A, C, (IntKind.wrap .i64 (i + (1 : Int)))))))
    .no)
   .no)
  (.ok (.inr (.inr ()))))
noncomputable def spec_l19Same_4_st : spec_l19Same_4_σ → Tr (spec_l19Same_4_σ ⊕ spec_l19Same_4_ω) := fun x => (spec_l19Same_4_step (x.1) (x.2.1) (x.2.2))
noncomputable def spec_l19Same_k4_1 (A : List (List TC)) (C : List (List TC)) (i : Int) : Bool := allEq E_122 A C
noncomputable def spec_l19Same_o4_2 (A : List (List TC)) (C : List (List TC)) (i : Int) : Bool := is (A.length = C.length ∧ i = 0 ∧ Typed tab (.slice 122) (.l A))
noncomputable def spec_l19Same_o4_3 (A : List (List TC)) (C : List (List TC)) (i : Int) : Bool := is (A.length = C.length ∧ i = 0 ∧ Typed tab (.slice 122) (.l A))
noncomputable def spec_l19Same_4_fin (A : List (List TC)) (C : List (List TC)) (i : Int) : Told spec_l19Same_4_ω := (.br (spec_l19Same_k4_1 A C i) (.leaf (spec_l19Same_o4_2 A C i) (.inr ())) (.leaf (spec_l19Same_o4_3 A C i) (.inl ())))
def spec_l19Same_4_sl (x : spec_l19Same_4_σ) : List Slot := [⟨.val false [⟨.slice 122, .sh, TC.l (x.1)⟩], ⟨0, 0⟩⟩, ⟨.val false [⟨.slice 122, .sh, TC.l (x.2.1)⟩], ⟨0, 0⟩⟩, ⟨.val false [⟨.int .i64, .sh, TC.i (x.2.2)⟩], ⟨0, 0⟩⟩]
def spec_l19Same_4_out : spec_l19Same_4_ω → Ex × List Slot := (Sum.elim (fun x => (.ret, [⟨.val false [⟨.bool, .sh, TC.b false⟩], ⟨0, 0⟩⟩])) (fun x => (.exit 0, [Slot.none])))
noncomputable def spec_l19Same_lo4 : List Slot → Option (Told (Ex × List Slot)) := fun s => match s with
  | [⟨.val false [⟨.slice 122, .sh, TC.l A⟩], ⟨0, 0⟩⟩, ⟨.val false [⟨.slice 122, .sh, TC.l C⟩], ⟨0, 0⟩⟩, ⟨.val false [⟨.int .i64, .sh, TC.i i⟩], ⟨0, 0⟩⟩] => some (((spec_l19Same_4_fin A C i)).map spec_l19Same_4_out)
  | _ => .none
noncomputable def spec_l19Same_lo : LoopTeller := fun r s => bif Nat.beq r 4 then spec_l19Same_lo4 s else .none
theorem spec_l19Same_4_r (A : List (List TC)) (C : List (List TC)) (i : Int) (fuel : Nat) : rounds (rnd tab FT D24 live 67 spec_l19Same_lo 0 4) leave (fuel + 1) (spec_l19Same_4_sl (A, C, i)) = ((spec_l19Same_4_step A C i)).run (goOn (fun s => rounds (rnd tab FT D24 live 67 spec_l19Same_lo 0 4) leave fuel (spec_l19Same_4_sl s)) fun w => some (spec_l19Same_4_out w)) := by kernel_rfl
theorem spec_l19Same_4_h (A : List (List TC)) (C : List (List TC)) (i : Int) (ow : spec_l19Same_4_ω) : ((spec_l19Same_4_fin A C i)).val = some ow → ∃ fuel, loopN spec_l19Same_4_st fuel (A, C, i) = some ow := by
  intro h
  have key : A.length = C.length → Typed tab (.slice 122) (.l A) → loopN spec_l19Same_4_st (A.length + 1) (A, C, 0) = some (if allEq E_122 A C = true then .inr () else .inl ()) := by
    intro hl ht
    have hlen : A.length ≤ 140737488351232 := by have := typed_room ht; simp only [show (tab 122).bytes = 24 from rfl] at this; omega
    refine loopN_allEq A C E_122 (fun i => (A, C, (i : Int))) _ _ hl (fun i hi => ?_) ?_ A.length 0 (by omega)
    · show (spec_l19Same_4_step A C (i : Int)).val = _
      unfold spec_l19Same_4_step
      refine Tr.t (by simp; omega) ?_
      refine Tr.t (by constructor <;> omega) ?_
      refine Tr.t (by constructor <;> omega) ?_
      rw [wrap64 (i := (i : Int) + 1) (by omega) (by omega)]
      rw [Tr.val_br]
      show (if (!(E_122 (A.getD i []) (C.getD i []))) = true then _ else _) = _
      cases E_122 (A.getD i []) (C.getD i []) <;> rfl
    · show (spec_l19Same_4_step A C (A.length : Int)).val = _
      refine Tr.n (by simp) ?_
      rfl
  simp only [spec_l19Same_4_fin, Told.val] at h
  cases hk : allEq E_122 A C with
  | true =>
    rw [if_pos (show spec_l19Same_k4_1 A C i = true from hk)] at h
    split at h
    · rename_i ho
      obtain ⟨hl, rfl, ht⟩ := is_iff.1 ho
      cases h
      refine ⟨_, (key hl ht).trans ?_⟩
      rw [hk]; rfl
    · cases h
  | false =>
    rw [if_neg (show ¬spec_l19Same_k4_1 A C i = true from by rw [show spec_l19Same_k4_1 A C i = allEq E_122 A C from rfl, hk]; simp)] at h
    split at h
    · rename_i ho
      obtain ⟨hl, rfl, ht⟩ := is_iff.1 ho
      cases h
      refine ⟨_, (key hl ht).trans ?_⟩
      rw [hk]; rfl
    · cases h
theorem spec_l19Same_is4 : LoopIs tab FT D24 live 67 spec_l19Same_lo 0 4 := by
  refine loop_told (sl := spec_l19Same_4_sl) (step := spec_l19Same_4_st) (out := spec_l19Same_4_out) (lor := spec_l19Same_lo4) (fin := fun x => (spec_l19Same_4_fin (x.1) (x.2.1) (x.2.2))) (fun _ => rfl) ?_ (fun x n => spec_l19Same_4_r x.1 x.2.1 x.2.2 n) (fun x ow => spec_l19Same_4_h x.1 x.2.1 x.2.2 ow)
  intro s t h
  unfold spec_l19Same_lo4 at h
  split at h
  · cases h; exact ⟨(_, _, _), rfl, rfl⟩
  · cases h
noncomputable def spec_l19Same_t (A : List (List TC)) (C : List (List TC)) : Tr (Bool) := (.ite ((!((A.length : Int) == (C.length : Int))) = true) (.ok false)
  (.ite ((spec_l19Same_k4_1 A C (0 : Int)) = true) (.ite ((spec_l19Same_o4_2 A C (0 : Int)) = true) (.ok true)
    .no)
   (.ite ((spec_l19Same_o4_3 A C (0 : Int)) = true) (.ok false)
    .no)))
def spec_l19Same_mk (p : Bool) : Res := [(false, [⟨.bool, .sh, TC.b p⟩])]
noncomputable def spec_l19Same_c (A : List (List TC)) (C : List (List TC)) : Bool := is (Typed tab (.slice 122) (.l A))
noncomputable def spec_l19Same_v (A : List (List TC)) (C : List (List TC)) : Bool := allEq E_122 A C
theorem spec_l19Same_l (A : List (List TC)) (C : List (List TC)) : (spec_l19Same_c A C) = true → (spec_l19Same_t A C).val = some (spec_l19Same_v A C) := by
  intro h
  have ht := is_iff.1 h
  unfold spec_l19Same_t
  by_cases hl : A.length = C.length
  · refine Tr.n (by simp [hl]) ?_
    cases hk : allEq E_122 A C with
    | true =>
      refine Tr.t (show allEq E_122 A C = true from hk) ?_
      refine Tr.t (is_true ⟨hl, rfl, ht⟩) ?_
      show _ = some (allEq E_122 A C); rw [hk]; rfl
    | false =>
      refine Tr.n (show ¬allEq E_122 A C = true from by rw [hk]; simp) ?_
      refine Tr.t (is_true ⟨hl, rfl, ht⟩) ?_
      show _ = some (allEq E_122 A C); rw [hk]; rfl
  · refine Tr.t (by simp; omega) ?_
    show _ = some (allEq E_122 A C)
    rw [allEq_ne hl]
    rfl
noncomputable def spec_l19Same_S : List Arg → Option (Bool × Res) := fun xs => match xs with
  | [(false, [(.slice 122, TC.l A)]), (false, [(.slice 122, TC.l C)])] => some ((spec_l19Same_c A C), spec_l19Same_mk (spec_l19Same_v A C))
  | _ => .none
theorem spec_l19Same_e (A : List (List TC)) (C : List (List TC)) : runF tab FT D24 live 67 spec_l19Same_lo [(false, [(.slice 122, TC.l A)]), (false, [(.slice 122, TC.l C)])] = (spec_l19Same_t A C).run fun p => some (spec_l19Same_mk p) := by kernel_rfl
theorem spec_l19Same_s : ∀ xs r, spec_l19Same_S xs = some (true, r) → runF tab FT D24 live 67 spec_l19Same_lo xs = some r := by
  intro xs r h
  unfold spec_l19Same_S at h
  split at h
  · simp only [Option.some.injEq, Prod.mk.injEq] at h
    obtain ⟨h1, rfl⟩ := h
    exact fun_told (spec_l19Same_e _ _) (spec_l19Same_l _ _) h1
  · cases h
noncomputable def D25 : Dt := also D24 67 spec_l19Same_S
theorem d25 : DOk Go.Proofs.Try.prog tab D25 := d24.also mixed_ok tab_ok names_ok (fnLoops_one (by kernel_rfl) spec_l19Same_is4) spec_l19Same_s
/-! spec_SameDataset -/
noncomputable def spec_SameDataset_t (a0 : Int) (a1 : Int) (a2 : Bool) (a3 : Bool) (a4 : List (List TC)) (a5 : List (List TC)) (a6 : List (List TC)) (a7 : List (List TC)) (a8 : Int) (a9 : List (List TC)) (a10 : List (List TC)) (a11 : List (List TC)) (a12 : List (List TC)) (a13 : List UInt8) (a14 : Int) (a15 : Int) (a16 : Int) (a17 : Bool) (a18 : Bool) (a19 : List (List TC)) (a20 : List (List TC)) (a21 : List (List TC)) (a22 : List (List TC)) (a23 : Int) (a24 : List (List TC)) (a25 : List (List TC)) (a26 : List (List TC)) (a27 : List (List TC)) (a28 : List UInt8) (a29 : Int) : Tr (Bool) := (.ite ((spec_SameType_rc a0 a1 a2 a3 a4 a5 a6 a7 a8 a15 a16 a17 a18 a19 a20 a21 a22 a23) = true) (.ite ((spec_SameType_rv a0 a1 a2 a3 a4 a5 a6 a7 a8 a15 a16 a17 a18 a19 a20 a21 a22 a23) = true) (.ite ((spec_SameSpace_c a9 a10 a24 a25) = true) (.ite ((spec_SameSpace_v a9 a10 a24 a25) = true) (.ite ((spec_l02Ints_c a11 a26) = true) (.ite ((spec_l02Ints_v a11 a26) = true) (.ite ((spec_l19Same_c a12 a27) = true) (.ite ((spec_l19Same_v a12 a27) = true) (.ite ((a13 == a28) = true) (.ok (a14 == a29))
          (.ok false))
         (.ok false))
        .no)
       (.ok false))
      .no)
     (.ok false))
    .no)
   (.ok false))
  .no)
def spec_SameDataset_mk (p : Bool) : Res := [(false, [⟨.bool, .sh, TC.b p⟩])]
noncomputable def spec_SameDataset_c (a0 : Int) (a1 : Int) (a2 : Bool) (a3 : Bool) (a4 : List (List TC)) (a5 : List (List TC)) (a6 : List (List TC)) (a7 : List (List TC)) (a8 : Int) (a9 : List (List TC)) (a10 : List (List TC)) (a11 : List (List TC)) (a12 : List (List TC)) (a13 : List UInt8) (a14 : Int) (a15 : Int) (a16 : Int) (a17 : Bool) (a18 : Bool) (a19 : List (List TC)) (a20 : List (List TC)) (a21 : List (List TC)) (a22 : List (List TC)) (a23 : Int) (a24 : List (List TC)) (a25 : List (List TC)) (a26 : List (List TC)) (a27 : List (List TC)) (a28 : List UInt8) (a29 : Int) : Bool := ((spec_SameType_rc a0 a1 a2 a3 a4 a5 a6 a7 a8 a15 a16 a17 a18 a19 a20 a21 a22 a23) && (bif (spec_SameType_rv a0 a1 a2 a3 a4 a5 a6 a7 a8 a15 a16 a17 a18 a19 a20 a21 a22 a23) then ((spec_SameSpace_c a9 a10 a24 a25) && (bif (spec_SameSpace_v a9 a10 a24 a25) then ((spec_l02Ints_c a11 a26) && (bif (spec_l02Ints_v a11 a26) then ((spec_l19Same_c a12 a27) && (bif (spec_l19Same_v a12 a27) then (bif (a13 == a28) then true else true) else true)) else true)) else true)) else true))
noncomputable def spec_SameDataset_v (a0 : Int) (a1 : Int) (a2 : Bool) (a3 : Bool) (a4 : List (List TC)) (a5 : List (List TC)) (a6 : List (List TC)) (a7 : List (List TC)) (a8 : Int) (a9 : List (List TC)) (a10 : List (List TC)) (a11 : List (List TC)) (a12 : List (List TC)) (a13 : List UInt8) (a14 : Int) (a15 : Int) (a16 : Int) (a17 : Bool) (a18 : Bool) (a19 : List (List TC)) (a20 : List (List TC)) (a21 : List (List TC)) (a22 : List (List TC)) (a23 : Int) (a24 : List (List TC)) (a25 : List (List TC)) (a26 : List (List TC)) (a27 : List (List TC)) (a28 : List UInt8) (a29 : Int) : Bool := (bif (spec_SameType_rv a0 a1 a2 a3 a4 a5 a6 a7 a8 a15 a16 a17 a18 a19 a20 a21 a22 a23) then (bif (spec_SameSpace_v a9 a10 a24 a25) then (bif (spec_l02Ints_v a11 a26) then (bif (spec_l19Same_v a12 a27) then (bif (a13 == a28) then (a14 == a29) else false) else false) else false) else false) else false)
theorem spec_SameDataset_l (a0 : Int) (a1 : Int) (a2 : Bool) (a3 : Bool) (a4 : List (List TC)) (a5 : List (List TC)) (a6 : List (List TC)) (a7 : List (List TC)) (a8 : Int) (a9 : List (List TC)) (a10 : List (List TC)) (a11 : List (List TC)) (a12 : List (List TC)) (a13 : List UInt8) (a14 : Int) (a15 : Int) (a16 : Int) (a17 : Bool) (a18 : Bool) (a19 : List (List TC)) (a20 : List (List TC)) (a21 : List (List TC)) (a22 : List (List TC)) (a23 : Int) (a24 : List (List TC)) (a25 : List (List TC)) (a26 : List (List TC)) (a27 : List (List TC)) (a28 : List UInt8) (a29 : Int) : (spec_SameDataset_c a0 a1 a2 a3 a4 a5 a6 a7 a8 a9 a10 a11 a12 a13 a14 a15 a16 a17 a18 a19 a20 a21 a22 a23 a24 a25 a26 a27 a28 a29) = true → (spec_SameDataset_t a0 a1 a2 a3 a4 a5 a6 a7 a8 a9 a10 a11 a12 a13 a14 a15 a16 a17 a18 a19 a20 a21 a22 a23 a24 a25 a26 a27 a28 a29).val = some (spec_SameDataset_v a0 a1 a2 a3 a4 a5 a6 a7 a8 a9 a10 a11 a12 a13 a14 a15 a16 a17 a18 a19 a20 a21 a22 a23 a24 a25 a26 a27 a28 a29) := by
  unfold spec_SameDataset_t spec_SameDataset_v spec_SameDataset_c
  exact fun h => (Tr.gb h fun h => (Tr.ss h (fun h => (Tr.gb h fun h => (Tr.ss h (fun h => (Tr.gb h fun h => (Tr.ss h (fun h => (Tr.gb h fun h => (Tr.ss h (fun h => (Tr.ss h (fun h => rfl) (fun h => rfl))) (fun h => rfl)))) (fun h => rfl)))) (fun h => rfl)))) (fun h => rfl)))
noncomputable def spec_SameDataset_S : List Arg → Option (Bool × Res) := fun xs => match xs with
  | [(true, [(.int .i64, TC.i a0), (.int .i64, TC.i a1), (.bool, TC.b a2), (.bool, TC.b a3), (.slice 9, TC.l a4), (.slice 2, TC.l a5), (.slice 147, TC.l a6), (.slice 55, TC.l a7), (.int .i64, TC.i a8), (.slice 2, TC.l a9), (.slice 2, TC.l a10), (.slice 2, TC.l a11), (.slice 122, TC.l a12), (.str, TC.s a13), (.int .i64, TC.i a14)]), (true, [(.int .i64, TC.i a15), (.int .i64, TC.i a16), (.bool, TC.b a17), (.bool, TC.b a18), (.slice 9, TC.l a19), (.slice 2, TC.l a20), (.slice 147, TC.l a21), (.slice 55, TC.l a22), (.int .i64, TC.i a23), (.slice 2, TC.l a24), (.slice 2, TC.l a25), (.slice 2, TC.l a26), (.slice 122, TC.l a27), (.str, TC.s a28), (.int .i64, TC.i a29)])] => some ((spec_SameDataset_c a0 a1 a2 a3 a4 a5 a6 a7 a8 a9 a10 a11 a12 a13 a14 a15 a16 a17 a18 a19 a20 a21 a22 a23 a24 a25 a26 a27 a28 a29), spec_SameDataset_mk (spec_SameDataset_v a0 a1 a2 a3 a4 a5 a6 a7 a8 a9 a10 a11 a12 a13 a14 a15 a16 a17 a18 a19 a20 a21 a22 a23 a24 a25 a26 a27 a28 a29))
  | _ => .none
theorem spec_SameDataset_e (a0 : Int) (a1 : Int) (a2 : Bool) (a3 : Bool) (a4 : List (List TC)) (a5 : List (List TC)) (a6 : List (List TC)) (a7 : List (List TC)) (a8 : Int) (a9 : List (List TC)) (a10 : List (List TC)) (a11 : List (List TC)) (a12 : List (List TC)) (a13 : List UInt8) (a14 : Int) (a15 : Int) (a16 : Int) (a17 : Bool) (a18 : Bool) (a19 : List (List TC)) (a20 : List (List TC)) (a21 : List (List TC)) (a22 : List (List TC)) (a23 : Int) (a24 : List (List TC)) (a25 : List (List TC)) (a26 : List (List TC)) (a27 : List (List TC)) (a28 : List UInt8) (a29 : Int) : runF tab FT D25 live 28 noLoops [(true, [(.int .i64, TC.i a0), (.int .i64, TC.i a1), (.bool, TC.b a2), (.bool, TC.b a3), (.slice 9, TC.l a4), (.slice 2, TC.l a5), (.slice 147, TC.l a6), (.slice 55, TC.l a7), (.int .i64, TC.i a8), (.slice 2, TC.l a9), (.slice 2, TC.l a10), (.slice 2, TC.l a11), (.slice 122, TC.l a12), (.str, TC.s a13), (.int .i64, TC.i a14)]), (true, [(.int .i64, TC.i a15), (.int .i64, TC.i a16), (.bool, TC.b a17), (.bool, TC.b a18), (.slice 9, TC.l a19), (.slice 2, TC.l a20), (.slice 147, TC.l a21), (.slice 55, TC.l a22), (.int .i64, TC.i a23), (.slice 2, TC.l a24), (.slice 2, TC.l a25), (.slice 2, TC.l a26), (.slice 122, TC.l a27), (.str, TC.s a28), (.int .i64, TC.i a29)])] = (spec_SameDataset_t a0 a1 a2 a3 a4 a5 a6 a7 a8 a9 a10 a11 a12 a13 a14 a15 a16 a17 a18 a19 a20 a21 a22 a23 a24 a25 a26 a27 a28 a29).run fun p => some (spec_SameDataset_mk p) := by kernel_rfl
theorem spec_SameDataset_s : ∀ xs r, spec_SameDataset_S xs = some (true, r) → runF tab FT D25 live 28 noLoops xs = some r := by
  intro xs r h
  unfold spec_SameDataset_S at h
  split at h
  · simp only [Option.some.injEq, Prod.mk.injEq] at h
    obtain ⟨h1, rfl⟩ := h
    exact fun_told (spec_SameDataset_e _ _ _ _ _ _ _ _ _ _ _ _ _ _ _ _ _ _ _ _ _ _ _ _ _ _ _ _ _ _) (spec_SameDataset_l _ _ _ _ _ _ _ _ _ _ _ _ _ _ _ _ _ _ _ _ _ _ _ _ _ _ _ _ _ _) h1
  · cases h
noncomputable def D26 : Dt := also D25 28 spec_SameDataset_S
theorem d26 : DOk Go.Proofs.Try.prog tab D26 := d25.also mixed_ok tab_ok names_ok noLoops_ok spec_SameDataset_s
/-! slices_Equal_string_string -/
abbrev slices_Equal_string_string_4_σ := List (List TC) × List (List TC) × Int × Int
abbrev slices_Equal_string_string_4_ω := (Unit) ⊕ (Unit)
noncomputable def slices_Equal_string_string_4_step (A : List (List TC)) (C : List (List TC)) (m : Int) (i : Int) : Tr (slices_Equal_string_string_4_σ ⊕ slices_Equal_string_string_4_ω) := (.ite ((decide (i < m)) = true) (.ite ((0 : Int) ≤ i ∧ i < (A.length : Int)) (.ite ((0 : Int) ≤ i ∧ i < (C.length : Int)) (.ite ((!((nth (row A i) 0).str == (nth (row C i) 0).str)) = true) (.ok (.inr (.inl ())))
     (.ok (.inl (A, C, m, (IntKind.wrap .i64 (i + (1 : Int)))))))
    .no)
   .no)
  (.ok (.inr (.inr ()))))
noncomputable def slices_Equal_string_string_4_st : slices_Equal_string_string_4_σ → Tr (slices_Equal_string_string_4_σ ⊕ slices_Equal_string_string_4_ω) := fun x => (slices_Equal_string_string_4_step (x.1) (x.2.1) (x.2.2.1) (x.2.2.2))
noncomputable def slices_Equal_string_string_k4_1 (A : List (List TC)) (C : List (List TC)) (m : Int) (i : Int) : Bool := allEq E_9 A C
noncomputable def slices_Equal_string_string_o4_2 (A : List (List TC)) (C : List (List TC)) (m : Int) (i : Int) : Bool := is (A.length = C.length ∧ i = 0 ∧ Typed tab (.slice 9) (.l A) ∧ m = (A.length : Int))
noncomputable def slices_Equal_string_string_o4_3 (A : List (List TC)) (C : List (List TC)) (m : Int) (i : Int) : Bool := is (A.length = C.length ∧ i = 0 ∧ Typed tab (.slice 9) (.l A) ∧ m = (A.length : Int))
noncomputable def slices_Equal_string_string_4_fin (A : List (List TC)) (C : List (List TC)) (m : Int) (i : Int) : Told slices_Equal_string_string_4_ω := (.br (slices_Equal_string_string_k4_1 A C m i) (.leaf (slices_Equal_string_string_o4_2 A C m i) (.inr ())) (.leaf (slices_Equal_string_string_o4_3 A C m i) (.inl ())))
def slices_Equal_string_string_4_sl (x : slices_Equal_string_string_4_σ) : List Slot := [⟨.val false [⟨.slice 9, .sh, TC.l (x.1)⟩], ⟨0, 0⟩⟩, ⟨.val false [⟨.slice 9, .sh, TC.l (x.2.1)⟩], ⟨0, 0⟩⟩, ⟨.val false [⟨.int .i64, .sh, TC.i (x.2.2.1)⟩], ⟨0, 0⟩⟩, ⟨.val false [⟨.int .i64, .sh, TC.i (x.2.2.2)⟩], ⟨0, 0⟩⟩]
def slices_Equal_string_string_4_out : slices_Equal_string_string_4_ω → Ex × List Slot := (Sum.elim (fun x => (.ret, [⟨.val false [⟨.bool, .sh, TC.b false⟩], ⟨0, 0⟩⟩])) (fun x => (.exit 0, [Slot.none])))
noncomputable def slices_Equal_string_string_lo4 : List Slot → Option (Told (Ex × List Slot)) := fun s => match s with
  | [⟨.val false [⟨.slice 9, .sh, TC.l A⟩], ⟨0, 0⟩⟩, ⟨.val false [⟨.slice 9, .sh, TC.l C⟩], ⟨0, 0⟩⟩, ⟨.val false [⟨.int .i64, .sh, TC.i m⟩], ⟨0, 0⟩⟩, ⟨.val false [⟨.int .i64, .sh, TC.i i⟩], ⟨0, 0⟩⟩] => some (((slices_Equal_string_string_4_fin A C m i)).map slices_Equal_string_string_4_out)
  | _ => .none
noncomputable def slices_Equal_string_string_lo : LoopTeller := fun r s => bif Nat.beq r 4 then slices_Equal_string_string_lo4 s else .none
theorem slices_Equal_string_string_4_r (A : List (List TC)) (C : List (List TC)) (m : Int) (i : Int) (fuel : Nat) : rounds (rnd tab FT D26 live 102 slices_Equal_string_string_lo 0 4) leave (fuel + 1) (slices_Equal_string_string_4_sl (A, C, m, i)) = ((slices_Equal_string_string_4_step A C m i)).run (goOn (fun s => rounds (rnd tab FT D26 live 102 slices_Equal_string_string_lo 0 4) leave fuel (slices_Equal_string_string_4_sl s)) fun w => some (slices_Equal_string_string_4_out w)) := by kernel_rfl
theorem slices_Equal_string_string_4_h (A : List (List TC)) (C : List (List TC)) (m : Int) (i : Int) (ow : slices_Equal_string_string_4_ω) : ((slices_Equal_string_string_4_fin A C m i)).val = some ow → ∃ fuel, loopN slices_Equal_string_string_4_st fuel (A, C, m, i) = some ow := by
  intro h
  have key : A.length = C.length → Typed tab (.slice 9) (.l A) → loopN slices_Equal_string_string_4_st (A.length + 1) (A, C, (A.length : Int), 0) = some (if allEq E_9 A C = true then .inr () else .inl ()) := by
    intro hl ht
    have hlen : A.length ≤ 140737488351232 := by have := typed_room ht; simp only [show (tab 9).bytes = 16 from rfl] at this; omega
    refine loopN_allEq A C E_9 (fun i => (A, C, (A.length : Int), (i : Int))) _ _ hl (fun i hi => ?_) ?_ A.length 0 (by omega)
    · show (slices_Equal_string_string_4_step A C (A.length : Int) (i : Int)).val = _
      unfold slices_Equal_string_string_4_step
      refine Tr.t (by simp; omega) ?_
      refine Tr.t (by constructor <;> omega) ?_
      refine Tr.t (by constructor <;> omega) ?_
      rw [wrap64 (i := (i : Int) + 1) (by omega) (by omega)]
      rw [Tr.val_br]
      show (if (!(E_9 (A.getD i []) (C.getD i []))) = true then _ else _) = _
      cases E_9 (A.getD i []) (C.getD i []) <;> rfl
    · show (slices_Equal_string_string_4_step A C (A.length : Int) (A.length : Int)).val = _
      refine Tr.n (by simp) ?_
      rfl
  simp only [slices_Equal_string_string_4_fin, Told.val] at h
  cases hk : allEq E_9 A C with
  | true =>
    rw [if_pos (show slices_Equal_string_string_k4_1 A C m i = true from hk)] at h
    split at h
    · rename_i ho
      obtain ⟨hl, rfl, ht, rfl⟩ := is_iff.1 ho
      cases h
      refine ⟨_, (key hl ht).trans ?_⟩
      rw [hk]; rfl
    · cases h
  | false =>
    rw [if_neg (show ¬slices_Equal_string_string_k4_1 A C m i = true from by rw [show slices_Equal_string_string_k4_1 A C m i = allEq E_9 A C from rfl, hk]; simp)] at h
    split at h
    · rename_i ho
      obtain ⟨hl, rfl, ht, rfl⟩ := is_iff.1 ho
      cases h
      refine ⟨_, (key hl ht).trans ?_⟩
      rw [hk]; rfl
    · cases h
theorem slices_Equal_string_string_is4 : LoopIs tab FT D26 live 102 slices_Equal_string_string_lo 0 4 := by
  refine loop_told (sl := slices_Equal_string_string_4_sl) (step := slices_Equal_string_string_4_st) (out := slices_Equal_string_string_4_out) (lor := slices_Equal_string_string_lo4) (fin := fun x => (slices_Equal_string_string_4_fin (x.1) (x.2.1) (x.2.2.1) (x.2.2.2))) (fun _ => rfl) ?_ (fun x n => slices_Equal_string_string_4_r x.1 x.2.1 x.2.2.1 x.2.2.2 n) (fun x ow => slices_Equal_string_string_4_h x.1 x.2.1 x.2.2.1 x.2.2.2 ow)
  intro s t h
  unfold slices_Equal_string_string_lo4 at h
  split at h
  · cases h; exact ⟨(_, _, _, _), rfl, rfl⟩
  · cases h
noncomputable def slices_Equal_string_string_t (A : List (List TC)) (C : List (List TC)) : Tr (Bool) := (.ite ((!((A.length : Int) == (C.length : Int))) = true) (.ok false)
  (.ite ((slices_Equal_string_string_k4_1 A C (A.length : Int) (0 : Int)) = true) (.ite ((slices_Equal_string_string_o4_2 A C (A.length : Int) (0 : Int)) = true) (.ok true)
    .no)
   (.ite ((slices_Equal_string_string_o4_3 A C (A.length : Int) (0 : Int)) = true) (.ok false)
    .no)))
def slices_Equal_string_string_mk (p : Bool) : Res := [(false, [⟨.bool, .sh, TC.b p⟩])]
noncomputable def slices_Equal_string_string_c (A : List (List TC)) (C : List (List TC)) : Bool := is (Typed tab (.slice 9) (.l A))
noncomputable def slices_Equal_string_string_v (A : List (List TC)) (C : List (List TC)) : Bool := allEq E_9 A C
theorem slices_Equal_string_string_l (A : List (List TC)) (C : List (List TC)) : (slices_Equal_string_string_c A C) = true → (slices_Equal_string_string_t A C).val = some (slices_Equal_string_string_v A C) := by
  intro h
  have ht := is_iff.1 h
  unfold slices_Equal_string_string_t
  by_cases hl : A.length = C.length
  · refine Tr.n (by simp [hl]) ?_
    cases hk : allEq E_9 A C with
    | true =>
      refine Tr.t (show allEq E_9 A C = true from hk) ?_
      refine Tr.t (is_true ⟨hl, rfl, ht, rfl⟩) ?_
      show _ = some (allEq E_9 A C); rw [hk]; rfl
    | false =>
      refine Tr.n (show ¬allEq E_9 A C = true from by rw [hk]; simp) ?_
      refine Tr.t (is_true ⟨hl, rfl, ht, rfl⟩) ?_
      show _ = some (allEq E_9 A C); rw [hk]; rfl
  · refine Tr.t (by simp; omega) ?_
    show _ = some (allEq E_9 A C)
    rw [allEq_ne hl]
    rfl
noncomputable def slices_Equal_string_string_S : List Arg → Option (Bool × Res) := fun xs => match xs with
  | [(false, [(.slice 9, TC.l A)]), (false, [(.slice 9, TC.l C)])] => some ((slices_Equal_string_string_c A C), slices_Equal_string_string_mk (slices_Equal_string_string_v A C))
  | _ => .none
theorem slices_Equal_string_string_e (A : List (List TC)) (C : List (List TC)) : runF tab FT D26 live 102 slices_Equal_string_string_lo [(false, [(.slice 9, TC.l A)]), (false, [(.slice 9, TC.l C)])] = (slices_Equal_string_string_t A C).run fun p => some (slices_Equal_string_string_mk p) := by kernel_rfl
theorem slices_Equal_string_string_s : ∀ xs r, slices_Equal_string_string_S xs = some (true, r) → runF tab FT D26 live 102 slices_Equal_string_string_lo xs = some r := by
  intro xs r h
  unfold slices_Equal_string_string_S at h
  split at h
  · simp only [Option.some.injEq, Prod.mk.injEq] at h
    obtain ⟨h1, rfl⟩ := h
    exact fun_told (slices_Equal_string_string_e _ _) (slices_Equal_string_string_l _ _) h1
  · cases h
noncomputable def D27 : Dt := also D26 102 slices_Equal_string_string_S
theorem d27 : DOk Go.Proofs.Try.prog tab D27 := d26.also mixed_ok tab_ok names_ok (fnLoops_one (by kernel_rfl) slices_Equal_string_string_is4) slices_Equal_string_string_s
/-! slices_Equal_int64_int64 -/
abbrev slices_Equal_int64_int64_4_σ := List (List TC) × List (List TC) × Int × Int
abbrev slices_Equal_int64_int64_4_ω := (Unit) ⊕ (Unit)
noncomputable def slices_Equal_int64_int64_4_step (A : List (List TC)) (C : List (List TC)) (m : Int) (i : Int) : Tr (slices_Equal_int64_int64_4_σ ⊕ slices_Equal_int64_int64_4_ω) := (.ite ((decide (i < m)) = true) (.ite ((0 : Int) ≤ i ∧ i < (A.length : Int)) (.ite ((0 : Int) ≤ i ∧ i < (C.length : Int)) (.ite ((!((nth (row A i) 0).int == (nth (row C i) 0).int)) = true) (.ok (.inr (.inl ())))
     (.ok (.inl (A, C, m, (IntKind.wrap .i64 (i + (1 : Int)))))))
    .no)
   .no)
  (.ok (.inr (.inr ()))))
noncomputable def slices_Equal_int64_int64_4_st : slices_Equal_int64_int64_4_σ → Tr (slices_Equal_int64_int64_4_σ ⊕ slices_Equal_int64_int64_4_ω) := fun x => (slices_Equal_int64_int64_4_step (x.1) (x.2.1) (x.2.2.1) (x.2.2.2))
noncomputable def slices_Equal_int64_int64_k4_1 (A : List (List TC)) (C : List (List TC)) (m : Int) (i : Int) : Bool := allEq E_2 A C
noncomputable def slices_Equal_int64_int64_o4_2 (A : List (List TC)) (C : List (List TC)) (m : Int) (i : Int) : Bool := is (A.length = C.length ∧ i = 0 ∧ Typed tab (.slice 2) (.l A) ∧ m = (A.length : Int))
noncomputable def slices_Equal_int64_int64_o4_3 (A : List (List TC)) (C : List (List TC)) (m : Int) (i : Int) : Bool := is (A.length = C.length ∧ i = 0 ∧ Typed tab (.slice 2) (.l A) ∧ m = (A.length : Int))
noncomputable def slices_Equal_int64_int64_4_fin (A : List (List TC)) (C : List (List TC)) (m : Int) (i : Int) : Told slices_Equal_int64_int64_4_ω := (.br (slices_Equal_int64_int64_k4_1 A C m i) (.leaf (slices_Equal_int64_int64_o4_2 A C m i) (.inr ())) (.leaf (slices_Equal_int64_int64_o4_3 A C m i) (.inl ())))
def slices_Equal_int64_int64_4_sl (x : slices_Equal_int64_int64_4_σ) : List Slot := [⟨.val false [⟨.slice 2, .sh, TC.l (x.1)⟩], ⟨0, 0⟩⟩, ⟨.val false [⟨.slice 2, .sh, TC.l (x.2.1)⟩], ⟨0, 0⟩⟩, ⟨.val false [⟨.int .i64, .sh, TC.i (x.2.2.1)⟩], ⟨0, 0⟩⟩, ⟨.val false [⟨.int .i64, .sh, TC.i (x.2.2.2)⟩], ⟨0, 0⟩⟩]
def slices_Equal_int64_int64_4_out : slices_Equal_int64_int64_4_ω → Ex × List Slot := (Sum.elim (fun x => (.ret, [⟨.val false [⟨.bool, .sh, TC.b false⟩], ⟨0, 0⟩⟩])) (fun x => (.exit 0, [Slot.none])))
noncomputable def slices_Equal_int64_int64_lo4 : List Slot → Option (Told (Ex × List Slot)) := fun s => match s with
  | [⟨.val false [⟨.slice 2, .sh, TC.l A⟩], ⟨0, 0⟩⟩, ⟨.val false [⟨.slice 2, .sh, TC.l C⟩], ⟨0, 0⟩⟩, ⟨.val false [⟨.int .i64, .sh, TC.i m⟩], ⟨0, 0⟩⟩, ⟨.val false [⟨.int .i64, .sh, TC.i i⟩], ⟨0, 0⟩⟩] => some (((slices_Equal_int64_int64_4_fin A C m i)).map slices_Equal_int64_int64_4_out)
  | _ => .none
noncomputable def slices_Equal_int64_int64_lo : LoopTeller := fun r s => bif Nat.beq r 4 then slices_Equal_int64_int64_lo4 s else .none
theorem slices_Equal_int64_int64_4_r (A : List (List TC)) (C : List (List TC)) (m : Int) (i : Int) (fuel : Nat) : rounds (rnd tab FT D27 live 74 slices_Equal_int64_int64_lo 0 4) leave (fuel + 1) (slices_Equal_int64_int64_4_sl (A, C, m, i)) = ((slices_Equal_int64_int64_4_step A C m i)).run (goOn (fun s => rounds (rnd tab FT D27 live 74 slices_Equal_int64_int64_lo 0 4) leave fuel (slices_Equal_int64_int64_4_sl s)) fun w => some (slices_Equal_int64_int64_4_out w)) := by kernel_rfl
theorem slices_Equal_int64_int64_4_h (A : List (List TC)) (C : List (List TC)) (m : Int) (i : Int) (ow : slices_Equal_int64_int64_4_ω) : ((slices_Equal_int64_int64_4_fin A C m i)).val = some ow → ∃ fuel, loopN slices_Equal_int64_int64_4_st fuel (A, C, m, i) = some ow := by
  intro h
  have key : A.length = C.length → Typed tab (.slice 2) (.l A) → loopN slices_Equal_int64_int64_4_st (A.length + 1) (A, C, (A.length : Int), 0) = some (if allEq E_2 A C = true then .inr () else .inl ()) := by
    intro hl ht
    have hlen : A.length ≤ 140737488351232 := by have := typed_room ht; simp only [show (tab 2).bytes = 8 from rfl] at this; omega
    refine loopN_allEq A C E_2 (fun i => (A, C, (A.length : Int), (i : Int))) _ _ hl (fun i hi => ?_) ?_ A.length 0 (by omega)
    · show (slices_Equal_int64_int64_4_step A C (A.length : Int) (i : Int)).val = _
      unfold slices_Equal_int64_int64_4_step
      refine Tr.t (by simp; omega) ?_
      refine Tr.t (by constructor <;> omega) ?_
      refine Tr.t (by constructor <;> omega) ?_
      rw [wrap64 (i := (i : Int) + 1) (by omega) (by omega)]
      rw [Tr.val_br]
      show (if (!(E_2 (A.getD i []) (C.getD i []))) = true then _ else _) = _
      cases E_2 (A.getD i []) (C.getD i []) <;> rfl
    · show (slices_Equal_int64_int64_4_step A C (A.length : Int) (A.length : Int)).val = _
      refine Tr.n (by simp) ?_
      rfl
  simp only [slices_Equal_int64_int64_4_fin, Told.val] at h
  cases hk : allEq E_2 A C with
  | true =>
    rw [if_pos (show slices_Equal_int64_int64_k4_1 A C m i = true from hk)] at h
    split at h
    · rename_i ho
      obtain ⟨hl, rfl, ht, rfl⟩ := is_iff.1 ho
      cases h
      refine ⟨_, (key hl ht).trans ?_⟩
      rw [hk]; rfl
    · cases h
  | false =>
    rw [if_neg (show ¬slices_Equal_int64_int64_k4_1 A C m i = true from by rw [show slices_Equal_int64_int64_k4_1 A C m i = allEq E_2 A C from rfl, hk]; simp)] at h
    split at h
    · rename_i ho
      obtain ⟨hl, rfl, ht, rfl⟩ := is_iff.1 ho
      cases h
      refine ⟨_, (key hl ht).trans ?_⟩
      rw [hk]; rfl
    · cases h
theorem slices_Equal_int64_int64_is4 : LoopIs tab FT D27 live 74 slices_Equal_int64_int64_lo 0 4 := by
  refine loop_told (sl := slices_Equal_int64_int64_4_sl) (step := slices_Equal_int64_int64_4_st) (out := slices_Equal_int64_int64_4_out) (lor := slices_Equal_int64_int64_lo4) (fin := fun x => (slices_Equal_int64_int64_4_fin (x.1) (x.2.1) (x.2.2.1) (x.2.2.2))) (fun _ => rfl) ?_ (fun x n => slices_Equal_int64_int64_4_r x.1 x.2.1 x.2.2.1 x.2.2.2 n) (fun x ow => slices_Equal_int64_int64_4_h x.1 x.2.1 x.2.2.1 x.2.2.2 ow)
  intro s t h
  unfold slices_Equal_int64_int64_lo4 at h
  split at h
  · cases h; exact ⟨(_, _, _, _), rfl, rfl⟩
  · cases h
noncomputable def slices_Equal_int64_int64_t (A : List (List TC)) (C : List (List TC)) : Tr (Bool) := (.ite ((!((A.length : Int) == (C.length : Int))) = true) (.ok false)
  (.ite ((slices_Equal_int64_int64_k4_1 A C (A.length : Int) (0 : Int)) = true) (.ite ((slices_Equal_int64_int64_o4_2 A C (A.length : Int) (0 : Int)) = true) (.ok true)
    .no)
   (.ite ((slices_Equal_int64_int64_o4_3 A C (A.length : Int) (0 : Int)) = true) (.ok false)
    .no)))
def slices_Equal_int64_int64_mk (p : Bool) : Res := [(false, [⟨.bool, .sh, TC.b p⟩])]
noncomputable def slices_Equal_int64_int64_c (A : List (List TC)) (C : List (List TC)) : Bool := is (Typed tab (.slice 2) (.l A))
noncomputable def slices_Equal_int64_int64_v (A : List (List TC)) (C : List (List TC)) : Bool := allEq E_2 A C
theorem slices_Equal_int64_int64_l (A : List (List TC)) (C : List (List TC)) : (slices_Equal_int64_int64_c A C) = true → (slices_Equal_int64_int64_t A C).val = some (slices_Equal_int64_int64_v A C) := by
  intro h
  have ht := is_iff.1 h
  unfold slices_Equal_int64_int64_t
  by_cases hl : A.length = C.length
  · refine Tr.n (by simp [hl]) ?_
    cases hk : allEq E_2 A C with
    | true =>
      refine Tr.t (show allEq E_2 A C = true from hk) ?_
      refine Tr.t (is_true ⟨hl, rfl, ht, rfl⟩) ?_
      show _ = some (allEq E_2 A C); rw [hk]; rfl
    | false =>
      refine Tr.n (show ¬allEq E_2 A C = true from by rw [hk]; simp) ?_
      refine Tr.t (is_true ⟨hl, rfl, ht, rfl⟩) ?_
      show _ = some (allEq E_2 A C); rw [hk]; rfl
  · refine Tr.t (by simp; omega) ?_
    show _ = some (allEq E_2 A C)
    rw [allEq_ne hl]
    rfl
noncomputable def slices_Equal_int64_int64_S : List Arg → Option (Bool × Res) := fun xs => match xs with
  | [(false, [(.slice 2, TC.l A)]), (false, [(.slice 2, TC.l C)])] => some ((slices_Equal_int64_int64_c A C), slices_Equal_int64_int64_mk (slices_Equal_int64_int64_v A C))
  | _ => .none
theorem slices_Equal_int64_int64_e (A : List (List TC)) (C : List (List TC)) : runF tab FT D27 live 74 slices_Equal_int64_int64_lo [(false, [(.slice 2, TC.l A)]), (false, [(.slice 2, TC.l C)])] = (slices_Equal_int64_int64_t A C).run fun p => some (slices_Equal_int64_int64_mk p) := by kernel_rfl
theorem slices_Equal_int64_int64_s : ∀ xs r, slices_Equal_int64_int64_S xs = some (true, r) → runF tab FT D27 live 74 slices_Equal_int64_int64_lo xs = some r := by
  intro xs r h
  unfold slices_Equal_int64_int64_S at h
  split at h
  · simp only [Option.some.injEq, Prod.mk.injEq] at h
    obtain ⟨h1, rfl⟩ := h
    exact fun_told (slices_Equal_int64_int64_e _ _) (slices_Equal_int64_int64_l _ _) h1
  · cases h
noncomputable def D28 : Dt := also D27 74 slices_Equal_int64_int64_S
theorem d28 : DOk Go.Proofs.Try.prog tab D28 := d27.also mixed_ok tab_ok names_ok (fnLoops_one (by kernel_rfl) slices_Equal_int64_int64_is4) slices_Equal_int64_int64_s
/-! impl_SameType calls itself -/




section
class impl_SameType_O where n : Nat
variable [i_impl_SameType : impl_SameType_O]
noncomputable def impl_SameType_rc (k : Int) (s : Int) (sg : Bool) (bg : Bool) (NA : List (List TC)) (NU : List (List TC)) (ME : List (List TC)) (BA : List (List TC)) (ct : Int) (k2 : Int) (s2 : Int) (sg2 : Bool) (bg2 : Bool) (NA2 : List (List TC)) (NU2 : List (List TC)) (ME2 : List (List TC)) (BA2 : List (List TC)) (ct2 : Int) : Bool := is (max (rowsDep ME) (rowsDep BA) < impl_SameType_O.n ∧ Typed tab (.slice 9) (.l NA) ∧ Typed tab (.slice 2) (.l NU) ∧ Typed tab (.slice 147) (.l ME) ∧ Typed tab (.slice 55) (.l BA) ∧ Typed tab (.slice 9) (.l NA2) ∧ Typed tab (.slice 2) (.l NU2) ∧ Typed tab (.slice 147) (.l ME2) ∧ Typed tab (.slice 55) (.l BA2))
noncomputable def impl_SameType_rv (k : Int) (s : Int) (sg : Bool) (bg : Bool) (NA : List (List TC)) (NU : List (List TC)) (ME : List (List TC)) (BA : List (List TC)) (ct : Int) (k2 : Int) (s2 : Int) (sg2 : Bool) (bg2 : Bool) (NA2 : List (List TC)) (NU2 : List (List TC)) (ME2 : List (List TC)) (BA2 : List (List TC)) (ct2 : Int) : Bool := sameV k s sg bg NA NU ME BA ct k2 s2 sg2 bg2 NA2 NU2 ME2 BA2 ct2
def impl_SameType_rmk (p : Bool) : Res := [(false, [⟨.bool, .sh, TC.b p⟩])]
noncomputable def impl_SameType_rS : List Arg → Option (Bool × Res) := fun xs => match xs with
  | [(true, [(.int .i64, TC.i k), (.int .i64, TC.i s), (.bool, TC.b sg), (.bool, TC.b bg), (.slice 9, TC.l NA), (.slice 2, TC.l NU), (.slice 147, TC.l ME), (.slice 55, TC.l BA), (.int .i64, TC.i ct)]), (true, [(.int .i64, TC.i k2), (.int .i64, TC.i s2), (.bool, TC.b sg2), (.bool, TC.b bg2), (.slice 9, TC.l NA2), (.slice 2, TC.l NU2), (.slice 147, TC.l ME2), (.slice 55, TC.l BA2), (.int .i64, TC.i ct2)])] => some ((impl_SameType_rc k s sg bg NA NU ME BA ct k2 s2 sg2 bg2 NA2 NU2 ME2 BA2 ct2), impl_SameType_rmk (impl_SameType_rv k s sg bg NA NU ME BA ct k2 s2 sg2 bg2 NA2 NU2 ME2 BA2 ct2))
  | _ => .none
noncomputable def D29 : Dt := also D28 72 impl_SameType_rS
class impl_SameType_G : Prop where ok : DOk Go.Proofs.Try.prog tab D29
variable [g_impl_SameType : impl_SameType_G]
theorem d29 : DOk Go.Proofs.Try.prog tab D29 := impl_SameType_G.ok
/-! impl_sameMember -/
noncomputable def impl_sameMember_t (a0 : List UInt8) (a1 : Int) (a2 : Int) (a3 : Int) (a4 : Bool) (a5 : Bool) (a6 : List (List TC)) (a7 : List (List TC)) (a8 : List (List TC)) (a9 : List (List TC)) (a10 : Int) (a11 : List UInt8) (a12 : Int) (a13 : Int) (a14 : Int) (a15 : Bool) (a16 : Bool) (a17 : List (List TC)) (a18 : List (List TC)) (a19 : List (List TC)) (a20 : List (List TC)) (a21 : Int) : Tr (Bool) := (.ite ((a0 == a11) = true) (.ite ((a1 == a12) = true) (.ite ((impl_SameType_rc a2 a3 a4 a5 a6 a7 a8 a9 a10 a13 a14 a15 a16 a17 a18 a19 a20 a21) = true) (.ok (impl_SameType_rv a2 a3 a4 a5 a6 a7 a8 a9 a10 a13 a14 a15 a16 a17 a18 a19 a20 a21))
    .no)
   (.ok false))
  (.ok false))
def impl_sameMember_mk (p : Bool) : Res := [(false, [⟨.bool, .sh, TC.b p⟩])]
noncomputable def impl_sameMember_c (a0 : List UInt8) (a1 : Int) (a2 : Int) (a3 : Int) (a4 : Bool) (a5 : Bool) (a6 : List (List TC)) (a7 : List (List TC)) (a8 : List (List TC)) (a9 : List (List TC)) (a10 : Int) (a11 : List UInt8) (a12 : Int) (a13 : Int) (a14 : Int) (a15 : Bool) (a16 : Bool) (a17 : List (List TC)) (a18 : List (List TC)) (a19 : List (List TC)) (a20 : List (List TC)) (a21 : Int) : Bool := (bif (a0 == a11) then (bif (a1 == a12) then ((impl_SameType_rc a2 a3 a4 a5 a6 a7 a8 a9 a10 a13 a14 a15 a16 a17 a18 a19 a20 a21) && true) else true) else true)
noncomputable def impl_sameMember_v (a0 : List UInt8) (a1 : Int) (a2 : Int) (a3 : Int) (a4 : Bool) (a5 : Bool) (a6 : List (List TC)) (a7 : List (List TC)) (a8 : List (List TC)) (a9 : List (List TC)) (a10 : Int) (a11 : List UInt8) (a12 : Int) (a13 : Int) (a14 : Int) (a15 : Bool) (a16 : Bool) (a17 : List (List TC)) (a18 : List (List TC)) (a19 : List (List TC)) (a20 : List (List TC)) (a21 : Int) : Bool := (bif (a0 == a11) then (bif (a1 == a12) then (impl_SameType_rv a2 a3 a4 a5 a6 a7 a8 a9 a10 a13 a14 a15 a16 a17 a18 a19 a20 a21) else false) else false)
theorem impl_sameMember_l (a0 : List UInt8) (a1 : Int) (a2 : Int) (a3 : Int) (a4 : Bool) (a5 : Bool) (a6 : List (List TC)) (a7 : List (List TC)) (a8 : List (List TC)) (a9 : List (List TC)) (a10 : Int) (a11 : List UInt8) (a12 : Int) (a13 : Int) (a14 : Int) (a15 : Bool) (a16 : Bool) (a17 : List (List TC)) (a18 : List (List TC)) (a19 : List (List TC)) (a20 : List (List TC)) (a21 : Int) : (impl_sameMember_c a0 a1 a2 a3 a4 a5 a6 a7 a8 a9 a10 a11 a12 a13 a14 a15 a16 a17 a18 a19 a20 a21) = true → (impl_sameMember_t a0 a1 a2 a3 a4 a5 a6 a7 a8 a9 a10 a11 a12 a13 a14 a15 a16 a17 a18 a19 a20 a21).val = some (impl_sameMember_v a0 a1 a2 a3 a4 a5 a6 a7 a8 a9 a10 a11 a12 a13 a14 a15 a16 a17 a18 a19 a20 a21) := by
  unfold impl_sameMember_t impl_sameMember_v impl_sameMember_c
  exact fun h => (Tr.ss h (fun h => (Tr.ss h (fun h => (Tr.gb h fun h => rfl)) (fun h => rfl))) (fun h => rfl))
noncomputable def impl_sameMember_S : List Arg → Option (Bool × Res) := fun xs => match xs with
  | [(true, [(.str, TC.s a0), (.int .i64, TC.i a1), (.int .i64, TC.i a2), (.int .i64, TC.i a3), (.bool, TC.b a4), (.bool, TC.b a5), (.slice 9, TC.l a6), (.slice 2, TC.l a7), (.slice 147, TC.l a8), (.slice 55, TC.l a9), (.int .i64, TC.i a10)]), (true, [(.str, TC.s a11), (.int .i64, TC.i a12), (.int .i64, TC.i a13), (.int .i64, TC.i a14), (.bool, TC.b a15), (.bool, TC.b a16), (.slice 9, TC.l a17), (.slice 2, TC.l a18), (.slice 147, TC.l a19), (.slice 55, TC.l a20), (.int .i64, TC.i a21)])] => some ((impl_sameMember_c a0 a1 a2 a3 a4 a5 a6 a7 a8 a9 a10 a11 a12 a13 a14 a15 a16 a17 a18 a19 a20 a21), impl_sameMember_mk (impl_sameMember_v a0 a1 a2 a3 a4 a5 a6 a7 a8 a9 a10 a11 a12 a13 a14 a15 a16 a17 a18 a19 a20 a21))
  | _ => .none
theorem impl_sameMember_e (a0 : List UInt8) (a1 : Int) (a2 : Int) (a3 : Int) (a4 : Bool) (a5 : Bool) (a6 : List (List TC)) (a7 : List (List TC)) (a8 : List (List TC)) (a9 : List (List TC)) (a10 : Int) (a11 : List UInt8) (a12 : Int) (a13 : Int) (a14 : Int) (a15 : Bool) (a16 : Bool) (a17 : List (List TC)) (a18 : List (List TC)) (a19 : List (List TC)) (a20 : List (List TC)) (a21 : Int) : runF tab FT D29 live 104 noLoops [(true, [(.str, TC.s a0), (.int .i64, TC.i a1), (.int .i64, TC.i a2), (.int .i64, TC.i a3), (.bool, TC.b a4), (.bool, TC.b a5), (.slice 9, TC.l a6), (.slice 2, TC.l a7), (.slice 147, TC.l a8), (.slice 55, TC.l a9), (.int .i64, TC.i a10)]), (true, [(.str, TC.s a11), (.int .i64, TC.i a12), (.int .i64, TC.i a13), (.int .i64, TC.i a14), (.bool, TC.b a15), (.bool, TC.b a16), (.slice 9, TC.l a17), (.slice 2, TC.l a18), (.slice 147, TC.l a19), (.slice 55, TC.l a20), (.int .i64, TC.i a21)])] = (impl_sameMember_t a0 a1 a2 a3 a4 a5 a6 a7 a8 a9 a10 a11 a12 a13 a14 a15 a16 a17 a18 a19 a20 a21).run fun p => some (impl_sameMember_mk p) := by kernel_rfl
theorem impl_sameMember_s : ∀ xs r, impl_sameMember_S xs = some (true, r) → runF tab FT D29 live 104 noLoops xs = some r := by
  intro xs r h
  unfold impl_sameMember_S at h
  split at h
  · simp only [Option.some.injEq, Prod.mk.injEq] at h
    obtain ⟨h1, rfl⟩ := h
    exact fun_told (impl_sameMember_e _ _ _ _ _ _ _ _ _ _ _ _ _ _ _ _ _ _ _ _ _ _) (impl_sameMember_l _ _ _ _ _ _ _ _ _ _ _ _ _ _ _ _ _ _ _ _ _ _) h1
  · cases h
noncomputable def D30 : Dt := also D29 104 impl_sameMember_S
theorem d30 : DOk Go.Proofs.Try.prog tab D30 := d29.also mixed_ok tab_ok names_ok noLoops_ok impl_sameMember_s
/-! slices_EqualFunc_impl_Member_impl_Member_impl_Member_impl_Member -/
noncomputable def slices_EqualFunc_impl_Member_impl_Member_impl_Member_impl_Member_E (x y : List TC) : Bool := impl_sameMember_v ((nth x 0).str) ((nth x 1).int) ((nth x 2).int) ((nth x 3).int) ((nth x 4).bool) ((nth x 5).bool) ((nth x 6).list) ((nth x 7).list) ((nth x 8).list) ((nth x 9).list) ((nth x 10).int) ((nth y 0).str) ((nth y 1).int) ((nth y 2).int) ((nth y 3).int) ((nth y 4).bool) ((nth y 5).bool) ((nth y 6).list) ((nth y 7).list) ((nth y 8).list) ((nth y 9).list) ((nth y 10).int)
abbrev slices_EqualFunc_impl_Member_impl_Member_impl_Member_impl_Member_4_σ := List (List TC) × List (List TC) × Int × Int
abbrev slices_EqualFunc_impl_Member_impl_Member_impl_Member_impl_Member_4_ω := (Unit) ⊕ (Unit)
noncomputable def slices_EqualFunc_impl_Member_impl_Member_impl_Member_impl_Member_4_step (C : List (List TC)) (A : List (List TC)) (m : Int) (i : Int) : Tr (slices_EqualFunc_impl_Member_impl_Member_impl_Member_impl_Member_4_σ ⊕ slices_EqualFunc_impl_Member_impl_Member_impl_Member_impl_Member_4_ω) := (.ite ((decide (i < m)) = true) (.ite ((0 : Int) ≤ i ∧ i < (A.length : Int)) (.ite ((0 : Int) ≤ i ∧ i < (C.length : Int)) (.ite ((impl_sameMember_c ((nth (row A i) 0).str) ((nth (row A i) 1).int) ((nth (row A i) 2).int) ((nth (row A i) 3).int) ((nth (row A i) 4).bool) ((nth (row A i) 5).bool) ((nth (row A i) 6).list) ((nth (row A i) 7).list) ((nth (row A i) 8).list) ((nth (row A i) 9).list) ((nth (row A i) 10).int) ((nth (row C i) 0).str) ((nth (row C i) 1).int) ((nth (row C i) 2).int) ((nth (row C i) 3).int) ((nth (row C i) 4).bool) ((nth (row C i) 5).bool) ((nth (row C i) 6).list) ((nth (row C i) 7).list) ((nth (row C i) 8).list) ((nth (row C i) 9).list) ((nth (row C i) 10).int)) = true) (.ite ((!(impl_sameMember_v ((nth (row A i) 0).str) ((nth (row A i) 1).int) ((nth (row A i) 2).int) ((nth (row A i) 3).int) ((nth (row A i) 4).bool) ((nth (row A i) 5).bool) ((nth (row A i) 6).list) ((nth (row A i) 7).list) ((nth (row A i) 8).list) ((nth (row A i) 9).list) ((nth (row A i) 10).int) ((nth (row C i) 0).str) ((nth (row C i) 1).int) ((nth (row C i) 2).int) ((nth (row C i) 3).int) ((nth (row C i) 4).bool) ((nth (row C i) 5).bool) ((nth (row C i) 6).list) ((nth (row C i) 7).list) ((nth (row C i) 8).list) ((nth (row C i) 9).list) ((nth (row C i) 10).int))) = true) (.ok (.inr (.inl ())))
      (.ok (.inl (C, A, m, (IntKind.wrap .i64 (i + (1 : Int)))))))
     .no)
    .no)
   .no)
  (.ok (.inr (.inr ()))))
noncomputable def slices_EqualFunc_impl_Member_impl_Member_impl_Member_impl_Member_4_st : slices_EqualFunc_impl_Member_impl_Member_impl_Member_impl_Member_4_σ → Tr (slices_EqualFunc_impl_Member_impl_Member_impl_Member_impl_Member_4_σ ⊕ slices_EqualFunc_impl_Member_impl_Member_impl_Member_impl_Member_4_ω) := fun x => (slices_EqualFunc_impl_Member_impl_Member_impl_Member_impl_Member_4_step (x.1) (x.2.1) (x.2.2.1) (x.2.2.2))
noncomputable def slices_EqualFunc_impl_Member_impl_Member_impl_Member_impl_Member_k4_1 (C : List (List TC)) (A : List (List TC)) (m : Int) (i : Int) : Bool := allEq slices_EqualFunc_impl_Member_impl_Member_impl_Member_impl_Member_E A C
noncomputable def slices_EqualFunc_impl_Member_impl_Member_impl_Member_impl_Member_o4_2 (C : List (List TC)) (A : List (List TC)) (m : Int) (i : Int) : Bool := is (A.length = C.length ∧ i = 0 ∧ Typed tab (.slice 147) (.l A) ∧ m = (A.length : Int) ∧ (∀ x y : List TC, x ∈ A → y ∈ C → impl_sameMember_c ((nth x 0).str) ((nth x 1).int) ((nth x 2).int) ((nth x 3).int) ((nth x 4).bool) ((nth x 5).bool) ((nth x 6).list) ((nth x 7).list) ((nth x 8).list) ((nth x 9).list) ((nth x 10).int) ((nth y 0).str) ((nth y 1).int) ((nth y 2).int) ((nth y 3).int) ((nth y 4).bool) ((nth y 5).bool) ((nth y 6).list) ((nth y 7).list) ((nth y 8).list) ((nth y 9).list) ((nth y 10).int) = true))
noncomputable def slices_EqualFunc_impl_Member_impl_Member_impl_Member_impl_Member_o4_3 (C : List (List TC)) (A : List (List TC)) (m : Int) (i : Int) : Bool := is (A.length = C.length ∧ i = 0 ∧ Typed tab (.slice 147) (.l A) ∧ m = (A.length : Int) ∧ (∀ x y : List TC, x ∈ A → y ∈ C → impl_sameMember_c ((nth x 0).str) ((nth x 1).int) ((nth x 2).int) ((nth x 3).int) ((nth x 4).bool) ((nth x 5).bool) ((nth x 6).list) ((nth x 7).list) ((nth x 8).list) ((nth x 9).list) ((nth x 10).int) ((nth y 0).str) ((nth y 1).int) ((nth y 2).int) ((nth y 3).int) ((nth y 4).bool) ((nth y 5).bool) ((nth y 6).list) ((nth y 7).list) ((nth y 8).list) ((nth y 9).list) ((nth y 10).int) = true))
noncomputable def slices_EqualFunc_impl_Member_impl_Member_impl_Member_impl_Member_4_fin (C : List (List TC)) (A : List (List TC)) (m : Int) (i : Int) : Told slices_EqualFunc_impl_Member_impl_Member_impl_Member_impl_Member_4_ω := (.br (slices_EqualFunc_impl_Member_impl_Member_impl_Member_impl_Member_k4_1 C A m i) (.leaf (slices_EqualFunc_impl_Member_impl_Member_impl_Member_impl_Member_o4_2 C A m i) (.inr ())) (.leaf (slices_EqualFunc_impl_Member_impl_Member_impl_Member_impl_Member_o4_3 C A m i) (.inl ())))
def slices_EqualFunc_impl_Member_impl_Member_impl_Member_impl_Member_4_sl (x : slices_EqualFunc_impl_Member_impl_Member_impl_Member_impl_Member_4_σ) : List Slot := [⟨.val false [⟨.slice 147, .sh, TC.l (x.1)⟩], ⟨0, 0⟩⟩, ⟨.val false [⟨.func, .sh, TC.f 104 []⟩], ⟨0, 0⟩⟩, ⟨.val false [⟨.slice 147, .sh, TC.l (x.2.1)⟩], ⟨0, 0⟩⟩, ⟨.val false [⟨.int .i64, .sh, TC.i (x.2.2.1)⟩], ⟨0, 0⟩⟩, ⟨.val false [⟨.int .i64, .sh, TC.i (x.2.2.2)⟩], ⟨0, 0⟩⟩]
def slices_EqualFunc_impl_Member_impl_Member_impl_Member_impl_Member_4_out : slices_EqualFunc_impl_Member_impl_Member_impl_Member_impl_Member_4_ω → Ex × List Slot := (Sum.elim (fun x => (.ret, [⟨.val false [⟨.bool, .sh, TC.b false⟩], ⟨0, 0⟩⟩])) (fun x => (.exit 0, [Slot.none])))
noncomputable def slices_EqualFunc_impl_Member_impl_Member_impl_Member_impl_Member_lo4 : List Slot → Option (Told (Ex × List Slot)) := fun s => match s with
  | [⟨.val false [⟨.slice 147, .sh, TC.l C⟩], ⟨0, 0⟩⟩, ⟨.val false [⟨.func, .sh, TC.f 104 []⟩], ⟨0, 0⟩⟩, ⟨.val false [⟨.slice 147, .sh, TC.l A⟩], ⟨0, 0⟩⟩, ⟨.val false [⟨.int .i64, .sh, TC.i m⟩], ⟨0, 0⟩⟩, ⟨.val false [⟨.int .i64, .sh, TC.i i⟩], ⟨0, 0⟩⟩] => some (((slices_EqualFunc_impl_Member_impl_Member_impl_Member_impl_Member_4_fin C A m i)).map slices_EqualFunc_impl_Member_impl_Member_impl_Member_impl_Member_4_out)
  | _ => .none
noncomputable def slices_EqualFunc_impl_Member_impl_Member_impl_Member_impl_Member_lo : LoopTeller := fun r s => bif Nat.beq r 4 then slices_EqualFunc_impl_Member_impl_Member_impl_Member_impl_Member_lo4 s else .none
theorem slices_EqualFunc_impl_Member_impl_Member_impl_Member_impl_Member_4_r (C : List (List TC)) (A : List (List TC)) (m : Int) (i : Int) (fuel : Nat) : rounds (rnd tab FT D30 live 103 slices_EqualFunc_impl_Member_impl_Member_impl_Member_impl_Member_lo 0 4) leave (fuel + 1) (slices_EqualFunc_impl_Member_impl_Member_impl_Member_impl_Member_4_sl (C, A, m, i)) = ((slices_EqualFunc_impl_Member_impl_Member_impl_Member_impl_Member_4_step C A m i)).run (goOn (fun s => rounds (rnd tab FT D30 live 103 slices_EqualFunc_impl_Member_impl_Member_impl_Member_impl_Member_lo 0 4) leave fuel (slices_EqualFunc_impl_Member_impl_Member_impl_Member_impl_Member_4_sl s)) fun w => some (slices_EqualFunc_impl_Member_impl_Member_impl_Member_impl_Member_4_out w)) := by kernel_rfl
theorem slices_EqualFunc_impl_Member_impl_Member_impl_Member_impl_Member_4_h (C : List (List TC)) (A : List (List TC)) (m : Int) (i : Int) (ow : slices_EqualFunc_impl_Member_impl_Member_impl_Member_impl_Member_4_ω) : ((slices_EqualFunc_impl_Member_impl_Member_impl_Member_impl_Member_4_fin C A m i)).val = some ow → ∃ fuel, loopN slices_EqualFunc_impl_Member_impl_Member_impl_Member_impl_Member_4_st fuel (C, A, m, i) = some ow := by
  intro h
  have key : A.length = C.length → Typed tab (.slice 147) (.l A) → (∀ x y : List TC, x ∈ A → y ∈ C → impl_sameMember_c ((nth x 0).str) ((nth x 1).int) ((nth x 2).int) ((nth x 3).int) ((nth x 4).bool) ((nth x 5).bool) ((nth x 6).list) ((nth x 7).list) ((nth x 8).list) ((nth x 9).list) ((nth x 10).int) ((nth y 0).str) ((nth y 1).int) ((nth y 2).int) ((nth y 3).int) ((nth y 4).bool) ((nth y 5).bool) ((nth y 6).list) ((nth y 7).list) ((nth y 8).list) ((nth y 9).list) ((nth y 10).int) = true) → loopN slices_EqualFunc_impl_Member_impl_Member_impl_Member_impl_Member_4_st (A.length + 1) (C, A, (A.length : Int), 0) = some (if allEq slices_EqualFunc_impl_Member_impl_Member_impl_Member_impl_Member_E A C = true then .inr () else .inl ()) := by
    intro hl ht hr
    have hlen : A.length ≤ 140737488351232 := by have := typed_room ht; simp only [show (tab 147).bytes = 152 from rfl] at this; omega
    refine loopN_allEq A C slices_EqualFunc_impl_Member_impl_Member_impl_Member_impl_Member_E (fun i => (C, A, (A.length : Int), (i : Int))) _ _ hl (fun i hi => ?_) ?_ A.length 0 (by omega)
    · show (slices_EqualFunc_impl_Member_impl_Member_impl_Member_impl_Member_4_step C A (A.length : Int) (i : Int)).val = _
      unfold slices_EqualFunc_impl_Member_impl_Member_impl_Member_impl_Member_4_step
      refine Tr.t (by simp; omega) ?_
      refine Tr.t (by constructor <;> omega) ?_
      refine Tr.t (by constructor <;> omega) ?_
      refine Tr.t (hr _ _ (mem_getD hi) (mem_getD (by omega))) ?_
      rw [wrap64 (i := (i : Int) + 1) (by omega) (by omega)]
      rw [Tr.val_br]
      show (if (!(slices_EqualFunc_impl_Member_impl_Member_impl_Member_impl_Member_E (A.getD i []) (C.getD i []))) = true then _ else _) = _
      cases slices_EqualFunc_impl_Member_impl_Member_impl_Member_impl_Member_E (A.getD i []) (C.getD i []) <;> rfl
    · show (slices_EqualFunc_impl_Member_impl_Member_impl_Member_impl_Member_4_step C A (A.length : Int) (A.length : Int)).val = _
      refine Tr.n (by simp) ?_
      rfl
  simp only [slices_EqualFunc_impl_Member_impl_Member_impl_Member_impl_Member_4_fin, Told.val] at h
  cases hk : allEq slices_EqualFunc_impl_Member_impl_Member_impl_Member_impl_Member_E A C with
  | true =>
    rw [if_pos (show slices_EqualFunc_impl_Member_impl_Member_impl_Member_impl_Member_k4_1 C A m i = true from hk)] at h
    split at h
    · rename_i ho
      obtain ⟨hl, rfl, ht, rfl, hr⟩ := is_iff.1 ho
      cases h
      refine ⟨_, (key hl ht hr).trans ?_⟩
      rw [hk]; rfl
    · cases h
  | false =>
    rw [if_neg (show ¬slices_EqualFunc_impl_Member_impl_Member_impl_Member_impl_Member_k4_1 C A m i = true from by rw [show slices_EqualFunc_impl_Member_impl_Member_impl_Member_impl_Member_k4_1 C A m i = allEq slices_EqualFunc_impl_Member_impl_Member_impl_Member_impl_Member_E A C from rfl, hk]; simp)] at h
    split at h
    · rename_i ho
      obtain ⟨hl, rfl, ht, rfl, hr⟩ := is_iff.1 ho
      cases h
      refine ⟨_, (key hl ht hr).trans ?_⟩
      rw [hk]; rfl
    · cases h
theorem slices_EqualFunc_impl_Member_impl_Member_impl_Member_impl_Member_is4 : LoopIs tab FT D30 live 103 slices_EqualFunc_impl_Member_impl_Member_impl_Member_impl_Member_lo 0 4 := by
  refine loop_told (sl := slices_EqualFunc_impl_Member_impl_Member_impl_Member_impl_Member_4_sl) (step := slices_EqualFunc_impl_Member_impl_Member_impl_Member_impl_Member_4_st) (out := slices_EqualFunc_impl_Member_impl_Member_impl_Member_impl_Member_4_out) (lor := slices_EqualFunc_impl_Member_impl_Member_impl_Member_impl_Member_lo4) (fin := fun x => (slices_EqualFunc_impl_Member_impl_Member_impl_Member_impl_Member_4_fin (x.1) (x.2.1) (x.2.2.1) (x.2.2.2))) (fun _ => rfl) ?_ (fun x n => slices_EqualFunc_impl_Member_impl_Member_impl_Member_impl_Member_4_r x.1 x.2.1 x.2.2.1 x.2.2.2 n) (fun x ow => slices_EqualFunc_impl_Member_impl_Member_impl_Member_impl_Member_4_h x.1 x.2.1 x.2.2.1 x.2.2.2 ow)
  intro s t h
  unfold slices_EqualFunc_impl_Member_impl_Member_impl_Member_impl_Member_lo4 at h
  split at h
  · cases h; exact ⟨(_, _, _, _), rfl, rfl⟩
  · cases h
noncomputable def slices_EqualFunc_impl_Member_impl_Member_impl_Member_impl_Member_t (A : List (List TC)) (C : List (List TC)) : Tr (Bool) := (.ite ((!((A.length : Int) == (C.length : Int))) = true) (.ok false)
  (.ite ((slices_EqualFunc_impl_Member_impl_Member_impl_Member_impl_Member_k4_1 C A (A.length : Int) (0 : Int)) = true) (.ite ((slices_EqualFunc_impl_Member_impl_Member_impl_Member_impl_Member_o4_2 C A (A.length : Int) (0 : Int)) = true) (.ok true)
    .no)
   (.ite ((slices_EqualFunc_impl_Member_impl_Member_impl_Member_impl_Member_o4_3 C A (A.length : Int) (0 : Int)) = true) (.ok false)
    .no)))
def slices_EqualFunc_impl_Member_impl_Member_impl_Member_impl_Member_mk (p : Bool) : Res := [(false, [⟨.bool, .sh, TC.b p⟩])]
noncomputable def slices_EqualFunc_impl_Member_impl_Member_impl_Member_impl_Member_c (A : List (List TC)) (C : List (List TC)) : Bool := is (Typed tab (.slice 147) (.l A) ∧ (∀ x y : List TC, x ∈ A → y ∈ C → impl_sameMember_c ((nth x 0).str) ((nth x 1).int) ((nth x 2).int) ((nth x 3).int) ((nth x 4).bool) ((nth x 5).bool) ((nth x 6).list) ((nth x 7).list) ((nth x 8).list) ((nth x 9).list) ((nth x 10).int) ((nth y 0).str) ((nth y 1).int) ((nth y 2).int) ((nth y 3).int) ((nth y 4).bool) ((nth y 5).bool) ((nth y 6).list) ((nth y 7).list) ((nth y 8).list) ((nth y 9).list) ((nth y 10).int) = true))
noncomputable def slices_EqualFunc_impl_Member_impl_Member_impl_Member_impl_Member_v (A : List (List TC)) (C : List (List TC)) : Bool := allEq slices_EqualFunc_impl_Member_impl_Member_impl_Member_impl_Member_E A C
theorem slices_EqualFunc_impl_Member_impl_Member_impl_Member_impl_Member_l (A : List (List TC)) (C : List (List TC)) : (slices_EqualFunc_impl_Member_impl_Member_impl_Member_impl_Member_c A C) = true → (slices_EqualFunc_impl_Member_impl_Member_impl_Member_impl_Member_t A C).val = some (slices_EqualFunc_impl_Member_impl_Member_impl_Member_impl_Member_v A C) := by
  intro h
  obtain ⟨ht, hr⟩ := is_iff.1 h
  unfold slices_EqualFunc_impl_Member_impl_Member_impl_Member_impl_Member_t
  by_cases hl : A.length = C.length
  · refine Tr.n (by simp [hl]) ?_
    cases hk : allEq slices_EqualFunc_impl_Member_impl_Member_impl_Member_impl_Member_E A C with
    | true =>
      refine Tr.t (show allEq slices_EqualFunc_impl_Member_impl_Member_impl_Member_impl_Member_E A C = true from hk) ?_
      refine Tr.t (is_true ⟨hl, rfl, ht, rfl, hr⟩) ?_
      show _ = some (allEq slices_EqualFunc_impl_Member_impl_Member_impl_Member_impl_Member_E A C); rw [hk]; rfl
    | false =>
      refine Tr.n (show ¬allEq slices_EqualFunc_impl_Member_impl_Member_impl_Member_impl_Member_E A C = true from by rw [hk]; simp) ?_
      refine Tr.t (is_true ⟨hl, rfl, ht, rfl, hr⟩) ?_
      show _ = some (allEq slices_EqualFunc_impl_Member_impl_Member_impl_Member_impl_Member_E A C); rw [hk]; rfl
  · refine Tr.t (by simp; omega) ?_
    show _ = some (allEq slices_EqualFunc_impl_Member_impl_Member_impl_Member_impl_Member_E A C)
    rw [allEq_ne hl]; rfl
noncomputable def slices_EqualFunc_impl_Member_impl_Member_impl_Member_impl_Member_S : List Arg → Option (Bool × Res) := fun xs => match xs with
  | [(false, [(.slice 147, TC.l A)]), (false, [(.slice 147, TC.l C)]), (false, [(.func, TC.f 104 [])])] => some ((slices_EqualFunc_impl_Member_impl_Member_impl_Member_impl_Member_c A C), slices_EqualFunc_impl_Member_impl_Member_impl_Member_impl_Member_mk (slices_EqualFunc_impl_Member_impl_Member_impl_Member_impl_Member_v A C))
  | _ => .none
theorem slices_EqualFunc_impl_Member_impl_Member_impl_Member_impl_Member_e (A : List (List TC)) (C : List (List TC)) : runF tab FT D30 live 103 slices_EqualFunc_impl_Member_impl_Member_impl_Member_impl_Member_lo [(false, [(.slice 147, TC.l A)]), (false, [(.slice 147, TC.l C)]), (false, [(.func, TC.f 104 [])])] = (slices_EqualFunc_impl_Member_impl_Member_impl_Member_impl_Member_t A C).run fun p => some (slices_EqualFunc_impl_Member_impl_Member_impl_Member_impl_Member_mk p) := by kernel_rfl
theorem slices_EqualFunc_impl_Member_impl_Member_impl_Member_impl_Member_s : ∀ xs r, slices_EqualFunc_impl_Member_impl_Member_impl_Member_impl_Member_S xs = some (true, r) → runF tab FT D30 live 103 slices_EqualFunc_impl_Member_impl_Member_impl_Member_impl_Member_lo xs = some r := by
  intro xs r h
  unfold slices_EqualFunc_impl_Member_impl_Member_impl_Member_impl_Member_S at h
  split at h
  · simp only [Option.some.injEq, Prod.mk.injEq] at h
    obtain ⟨h1, rfl⟩ := h
    exact fun_told (slices_EqualFunc_impl_Member_impl_Member_impl_Member_impl_Member_e _ _) (slices_EqualFunc_impl_Member_impl_Member_impl_Member_impl_Member_l _ _) h1
  · cases h
noncomputable def D31 : Dt := also D30 103 slices_EqualFunc_impl_Member_impl_Member_impl_Member_impl_Member_S
theorem d31 : DOk Go.Proofs.Try.prog tab D31 := d30.also mixed_ok tab_ok names_ok (fnLoops_one (by kernel_rfl) slices_EqualFunc_impl_Member_impl_Member_impl_Member_impl_Member_is4) slices_EqualFunc_impl_Member_impl_Member_impl_Member_impl_Member_s
/-! slices_EqualFunc_impl_Type_impl_Type_impl_Type_impl_Type -/
noncomputable def slices_EqualFunc_impl_Type_impl_Type_impl_Type_impl_Type_E (x y : List TC) : Bool := impl_SameType_rv ((nth x 0).int) ((nth x 1).int) ((nth x 2).bool) ((nth x 3).bool) ((nth x 4).list) ((nth x 5).list) ((nth x 6).list) ((nth x 7).list) ((nth x 8).int) ((nth y 0).int) ((nth y 1).int) ((nth y 2).bool) ((nth y 3).bool) ((nth y 4).list) ((nth y 5).list) ((nth y 6).list) ((nth y 7).list) ((nth y 8).int)
abbrev slices_EqualFunc_impl_Type_impl_Type_impl_Type_impl_Type_4_σ := List (List TC) × List (List TC) × Int × Int
abbrev slices_EqualFunc_impl_Type_impl_Type_impl_Type_impl_Type_4_ω := (Unit) ⊕ (Unit)
noncomputable def slices_EqualFunc_impl_Type_impl_Type_impl_Type_impl_Type_4_step (C : List (List TC)) (A : List (List TC)) (m : Int) (i : Int) : Tr (slices_EqualFunc_impl_Type_impl_Type_impl_Type_impl_Type_4_σ ⊕ slices_EqualFunc_impl_Type_impl_Type_impl_Type_impl_Type_4_ω) := (.ite ((decide (i < m)) = true) (.ite ((0 : Int) ≤ i ∧ i < (A.length : Int)) (.ite ((0 : Int) ≤ i ∧ i < (C.length : Int)) (.ite ((impl_SameType_rc ((nth (row A i) 0).int) ((nth (row A i) 1).int) ((nth (row A i) 2).bool) ((nth (row A i) 3).bool) ((nth (row A i) 4).list) ((nth (row A i) 5).list) ((nth (row A i) 6).list) ((nth (row A i) 7).list) ((nth (row A i) 8).int) ((nth (row C i) 0).int) ((nth (row C i) 1).int) ((nth (row C i) 2).bool) ((nth (row C i) 3).bool) ((nth (row C i) 4).list) ((nth (row C i) 5).list) ((nth (row C i) 6).list) ((nth (row C i) 7).list) ((nth (row C i) 8).int)) = true) (.ite ((!(impl_SameType_rv ((nth (row A i) 0).int) ((nth (row A i) 1).int) ((nth (row A i) 2).bool) ((nth (row A i) 3).bool) ((nth (row A i) 4).list) ((nth (row A i) 5).list) ((nth (row A i) 6).list) ((nth (row A i) 7).list) ((nth (row A i) 8).int) ((nth (row C i) 0).int) ((nth (row C i) 1).int) ((nth (row C i) 2).bool) ((nth (row C i) 3).bool) ((nth (row C i) 4).list) ((nth (row C i) 5).list) ((nth (row C i) 6).list) ((nth (row C i) 7).list) ((nth (row C i) 8).int))) = true) (.ok (.inr (.inl ())))
      (.ok (.inl (C, A, m, (IntKind.wrap .i64 (i + (1 : Int)))))))
     .no)
    .no)
   .no)
  (.ok (.inr (.inr ()))))
noncomputable def slices_EqualFunc_impl_Type_impl_Type_impl_Type_impl_Type_4_st : slices_EqualFunc_impl_Type_impl_Type_impl_Type_impl_Type_4_σ → Tr (slices_EqualFunc_impl_Type_impl_Type_impl_Type_impl_Type_4_σ ⊕ slices_EqualFunc_impl_Type_impl_Type_impl_Type_impl_Type_4_ω) := fun x => (slices_EqualFunc_impl_Type_impl_Type_impl_Type_impl_Type_4_step (x.1) (x.2.1) (x.2.2.1) (x.2.2.2))
noncomputable def slices_EqualFunc_impl_Type_impl_Type_impl_Type_impl_Type_k4_1 (C : List (List TC)) (A : List (List TC)) (m : Int) (i : Int) : Bool := allEq slices_EqualFunc_impl_Type_impl_Type_impl_Type_impl_Type_E A C
noncomputable def slices_EqualFunc_impl_Type_impl_Type_impl_Type_impl_Type_o4_2 (C : List (List TC)) (A : List (List TC)) (m : Int) (i : Int) : Bool := is (A.length = C.length ∧ i = 0 ∧ Typed tab (.slice 55) (.l A) ∧ m = (A.length : Int) ∧ (∀ x y : List TC, x ∈ A → y ∈ C → impl_SameType_rc ((nth x 0).int) ((nth x 1).int) ((nth x 2).bool) ((nth x 3).bool) ((nth x 4).list) ((nth x 5).list) ((nth x 6).list) ((nth x 7).list) ((nth x 8).int) ((nth y 0).int) ((nth y 1).int) ((nth y 2).bool) ((nth y 3).bool) ((nth y 4).list) ((nth y 5).list) ((nth y 6).list) ((nth y 7).list) ((nth y 8).int) = true))
noncomputable def slices_EqualFunc_impl_Type_impl_Type_impl_Type_impl_Type_o4_3 (C : List (List TC)) (A : List (List TC)) (m : Int) (i : Int) : Bool := is (A.length = C.length ∧ i = 0 ∧ Typed tab (.slice 55) (.l A) ∧ m = (A.length : Int) ∧ (∀ x y : List TC, x ∈ A → y ∈ C → impl_SameType_rc ((nth x 0).int) ((nth x 1).int) ((nth x 2).bool) ((nth x 3).bool) ((nth x 4).list) ((nth x 5).list) ((nth x 6).list) ((nth x 7).list) ((nth x 8).int) ((nth y 0).int) ((nth y 1).int) ((nth y 2).bool) ((nth y 3).bool) ((nth y 4).list) ((nth y 5).list) ((nth y 6).list) ((nth y 7).list) ((nth y 8).int) = true))
noncomputable def slices_EqualFunc_impl_Type_impl_Type_impl_Type_impl_Type_4_fin (C : List (List TC)) (A : List (List TC)) (m : Int) (i : Int) : Told slices_EqualFunc_impl_Type_impl_Type_impl_Type_impl_Type_4_ω := (.br (slices_EqualFunc_impl_Type_impl_Type_impl_Type_impl_Type_k4_1 C A m i) (.leaf (slices_EqualFunc_impl_Type_impl_Type_impl_Type_impl_Type_o4_2 C A m i) (.inr ())) (.leaf (slices_EqualFunc_impl_Type_impl_Type_impl_Type_impl_Type_o4_3 C A m i) (.inl ())))
def slices_EqualFunc_impl_Type_impl_Type_impl_Type_impl_Type_4_sl (x : slices_EqualFunc_impl_Type_impl_Type_impl_Type_impl_Type_4_σ) : List Slot := [⟨.val false [⟨.slice 55, .sh, TC.l (x.1)⟩], ⟨0, 0⟩⟩, ⟨.val false [⟨.func, .sh, TC.f 72 []⟩], ⟨0, 0⟩⟩, ⟨.val false [⟨.slice 55, .sh, TC.l (x.2.1)⟩], ⟨0, 0⟩⟩, ⟨.val false [⟨.int .i64, .sh, TC.i (x.2.2.1)⟩], ⟨0, 0⟩⟩, ⟨.val false [⟨.int .i64, .sh, TC.i (x.2.2.2)⟩], ⟨0, 0⟩⟩]
def slices_EqualFunc_impl_Type_impl_Type_impl_Type_impl_Type_4_out : slices_EqualFunc_impl_Type_impl_Type_impl_Type_impl_Type_4_ω → Ex × List Slot := (Sum.elim (fun x => (.ret, [⟨.val false [⟨.bool, .sh, TC.b false⟩], ⟨0, 0⟩⟩])) (fun x => (.exit 0, [Slot.none])))
noncomputable def slices_EqualFunc_impl_Type_impl_Type_impl_Type_impl_Type_lo4 : List Slot → Option (Told (Ex × List Slot)) := fun s => match s with
  | [⟨.val false [⟨.slice 55, .sh, TC.l C⟩], ⟨0, 0⟩⟩, ⟨.val false [⟨.func, .sh, TC.f 72 []⟩], ⟨0, 0⟩⟩, ⟨.val false [⟨.slice 55, .sh, TC.l A⟩], ⟨0, 0⟩⟩, ⟨.val false [⟨.int .i64, .sh, TC.i m⟩], ⟨0, 0⟩⟩, ⟨.val false [⟨.int .i64, .sh, TC.i i⟩], ⟨0, 0⟩⟩] => some (((slices_EqualFunc_impl_Type_impl_Type_impl_Type_impl_Type_4_fin C A m i)).map slices_EqualFunc_impl_Type_impl_Type_impl_Type_impl_Type_4_out)
  | _ => .none
noncomputable def slices_EqualFunc_impl_Type_impl_Type_impl_Type_impl_Type_lo : LoopTeller := fun r s => bif Nat.beq r 4 then slices_EqualFunc_impl_Type_impl_Type_impl_Type_impl_Type_lo4 s else .none
theorem slices_EqualFunc_impl_Type_impl_Type_impl_Type_impl_Type_4_r (C : List (List TC)) (A : List (List TC)) (m : Int) (i : Int) (fuel : Nat) : rounds (rnd tab FT D31 live 105 slices_EqualFunc_impl_Type_impl_Type_impl_Type_impl_Type_lo 0 4) leave (fuel + 1) (slices_EqualFunc_impl_Type_impl_Type_impl_Type_impl_Type_4_sl (C, A, m, i)) = ((slices_EqualFunc_impl_Type_impl_Type_impl_Type_impl_Type_4_step C A m i)).run (goOn (fun s => rounds (rnd tab FT D31 live 105 slices_EqualFunc_impl_Type_impl_Type_impl_Type_impl_Type_lo 0 4) leave fuel (slices_EqualFunc_impl_Type_impl_Type_impl_Type_impl_Type_4_sl s)) fun w => some (slices_EqualFunc_impl_Type_impl_Type_impl_Type_impl_Type_4_out w)) := by kernel_rfl
theorem slices_EqualFunc_impl_Type_impl_Type_impl_Type_impl_Type_4_h (C : List (List TC)) (A : List (List TC)) (m : Int) (i : Int) (ow : slices_EqualFunc_impl_Type_impl_Type_impl_Type_impl_Type_4_ω) : ((slices_EqualFunc_impl_Type_impl_Type_impl_Type_impl_Type_4_fin C A m i)).val = some ow → ∃ fuel, loopN slices_EqualFunc_impl_Type_impl_Type_impl_Type_impl_Type_4_st fuel (C, A, m, i) = some ow := by
  intro h
  have key : A.length = C.length → Typed tab (.slice 55) (.l A) → (∀ x y : List TC, x ∈ A → y ∈ C → impl_SameType_rc ((nth x 0).int) ((nth x 1).int) ((nth x 2).bool) ((nth x 3).bool) ((nth x 4).list) ((nth x 5).list) ((nth x 6).list) ((nth x 7).list) ((nth x 8).int) ((nth y 0).int) ((nth y 1).int) ((nth y 2).bool) ((nth y 3).bool) ((nth y 4).list) ((nth y 5).list) ((nth y 6).list) ((nth y 7).list) ((nth y 8).int) = true) → loopN slices_EqualFunc_impl_Type_impl_Type_impl_Type_impl_Type_4_st (A.length + 1) (C, A, (A.length : Int), 0) = some (if allEq slices_EqualFunc_impl_Type_impl_Type_impl_Type_impl_Type_E A C = true then .inr () else .inl ()) := by
    intro hl ht hr
    have hlen : A.length ≤ 140737488351232 := by have := typed_room ht; simp only [show (tab 55).bytes = 128 from rfl] at this; omega
    refine loopN_allEq A C slices_EqualFunc_impl_Type_impl_Type_impl_Type_impl_Type_E (fun i => (C, A, (A.length : Int), (i : Int))) _ _ hl (fun i hi => ?_) ?_ A.length 0 (by omega)
    · show (slices_EqualFunc_impl_Type_impl_Type_impl_Type_impl_Type_4_step C A (A.length : Int) (i : Int)).val = _
      unfold slices_EqualFunc_impl_Type_impl_Type_impl_Type_impl_Type_4_step
      refine Tr.t (by simp; omega) ?_
      refine Tr.t (by constructor <;> omega) ?_
      refine Tr.t (by constructor <;> omega) ?_
      refine Tr.t (hr _ _ (mem_getD hi) (mem_getD (by omega))) ?_
      rw [wrap64 (i := (i : Int) + 1) (by omega) (by omega)]
      rw [Tr.val_br]
      show (if (!(slices_EqualFunc_impl_Type_impl_Type_impl_Type_impl_Type_E (A.getD i []) (C.getD i []))) = true then _ else _) = _
      cases slices_EqualFunc_impl_Type_impl_Type_impl_Type_impl_Type_E (A.getD i []) (C.getD i []) <;> rfl
    · show (slices_EqualFunc_impl_Type_impl_Type_impl_Type_impl_Type_4_step C A (A.length : Int) (A.length : Int)).val = _
      refine Tr.n (by simp) ?_
      rfl
  simp only [slices_EqualFunc_impl_Type_impl_Type_impl_Type_impl_Type_4_fin, Told.val] at h
  cases hk : allEq slices_EqualFunc_impl_Type_impl_Type_impl_Type_impl_Type_E A C with
  | true =>
    rw [if_pos (show slices_EqualFunc_impl_Type_impl_Type_impl_Type_impl_Type_k4_1 C A m i = true from hk)] at h
    split at h
    · rename_i ho
      obtain ⟨hl, rfl, ht, rfl, hr⟩ := is_iff.1 ho
      cases h
      refine ⟨_, (key hl ht hr).trans ?_⟩
      rw [hk]; rfl
    · cases h
  | false =>
    rw [if_neg (show ¬slices_EqualFunc_impl_Type_impl_Type_impl_Type_impl_Type_k4_1 C A m i = true from by rw [show slices_EqualFunc_impl_Type_impl_Type_impl_Type_impl_Type_k4_1 C A m i = allEq slices_EqualFunc_impl_Type_impl_Type_impl_Type_impl_Type_E A C from rfl, hk]; simp)] at h
    split at h
    · rename_i ho
      obtain ⟨hl, rfl, ht, rfl, hr⟩ := is_iff.1 ho
      cases h
      refine ⟨_, (key hl ht hr).trans ?_⟩
      rw [hk]; rfl
    · cases h
theorem slices_EqualFunc_impl_Type_impl_Type_impl_Type_impl_Type_is4 : LoopIs tab FT D31 live 105 slices_EqualFunc_impl_Type_impl_Type_impl_Type_impl_Type_lo 0 4 := by
  refine loop_told (sl := slices_EqualFunc_impl_Type_impl_Type_impl_Type_impl_Type_4_sl) (step := slices_EqualFunc_impl_Type_impl_Type_impl_Type_impl_Type_4_st) (out := slices_EqualFunc_impl_Type_impl_Type_impl_Type_impl_Type_4_out) (lor := slices_EqualFunc_impl_Type_impl_Type_impl_Type_impl_Type_lo4) (fin := fun x => (slices_EqualFunc_impl_Type_impl_Type_impl_Type_impl_Type_4_fin (x.1) (x.2.1) (x.2.2.1) (x.2.2.2))) (fun _ => rfl) ?_ (fun x n => slices_EqualFunc_impl_Type_impl_Type_impl_Type_impl_Type_4_r x.1 x.2.1 x.2.2.1 x.2.2.2 n) (fun x ow => slices_EqualFunc_impl_Type_impl_Type_impl_Type_impl_Type_4_h x.1 x.2.1 x.2.2.1 x.2.2.2 ow)
  intro s t h
  unfold slices_EqualFunc_impl_Type_impl_Type_impl_Type_impl_Type_lo4 at h
  split at h
  · cases h; exact ⟨(_, _, _, _), rfl, rfl⟩
  · cases h
noncomputable def slices_EqualFunc_impl_Type_impl_Type_impl_Type_impl_Type_t (A : List (List TC)) (C : List (List TC)) : Tr (Bool) := (.ite ((!((A.length : Int) == (C.length : Int))) = true) (.ok false)
  (.ite ((slices_EqualFunc_impl_Type_impl_Type_impl_Type_impl_Type_k4_1 C A (A.length : Int) (0 : Int)) = true) (.ite ((slices_EqualFunc_impl_Type_impl_Type_impl_Type_impl_Type_o4_2 C A (A.length : Int) (0 : Int)) = true) (.ok true)
    .no)
   (.ite ((slices_EqualFunc_impl_Type_impl_Type_impl_Type_impl_Type_o4_3 C A (A.length : Int) (0 : Int)) = true) (.ok false)
    .no)))
def slices_EqualFunc_impl_Type_impl_Type_impl_Type_impl_Type_mk (p : Bool) : Res := [(false, [⟨.bool, .sh, TC.b p⟩])]
noncomputable def slices_EqualFunc_impl_Type_impl_Type_impl_Type_impl_Type_c (A : List (List TC)) (C : List (List TC)) : Bool := is (Typed tab (.slice 55) (.l A) ∧ (∀ x y : List TC, x ∈ A → y ∈ C → impl_SameType_rc ((nth x 0).int) ((nth x 1).int) ((nth x 2).bool) ((nth x 3).bool) ((nth x 4).list) ((nth x 5).list) ((nth x 6).list) ((nth x 7).list) ((nth x 8).int) ((nth y 0).int) ((nth y 1).int) ((nth y 2).bool) ((nth y 3).bool) ((nth y 4).list) ((nth y 5).list) ((nth y 6).list) ((nth y 7).list) ((nth y 8).int) = true))
noncomputable def slices_EqualFunc_impl_Type_impl_Type_impl_Type_impl_Type_v (A : List (List TC)) (C : List (List TC)) : Bool := allEq slices_EqualFunc_impl_Type_impl_Type_impl_Type_impl_Type_E A C
theorem slices_EqualFunc_impl_Type_impl_Type_impl_Type_impl_Type_l (A : List (List TC)) (C : List (List TC)) : (slices_EqualFunc_impl_Type_impl_Type_impl_Type_impl_Type_c A C) = true → (slices_EqualFunc_impl_Type_impl_Type_impl_Type_impl_Type_t A C).val = some (slices_EqualFunc_impl_Type_impl_Type_impl_Type_impl_Type_v A C) := by
  intro h
  obtain ⟨ht, hr⟩ := is_iff.1 h
  unfold slices_EqualFunc_impl_Type_impl_Type_impl_Type_impl_Type_t
  by_cases hl : A.length = C.length
  · refine Tr.n (by simp [hl]) ?_
    cases hk : allEq slices_EqualFunc_impl_Type_impl_Type_impl_Type_impl_Type_E A C with
    | true =>
      refine Tr.t (show allEq slices_EqualFunc_impl_Type_impl_Type_impl_Type_impl_Type_E A C = true from hk) ?_
      refine Tr.t (is_true ⟨hl, rfl, ht, rfl, hr⟩) ?_
      show _ = some (allEq slices_EqualFunc_impl_Type_impl_Type_impl_Type_impl_Type_E A C); rw [hk]; rfl
    | false =>
      refine Tr.n (show ¬allEq slices_EqualFunc_impl_Type_impl_Type_impl_Type_impl_Type_E A C = true from by rw [hk]; simp) ?_
      refine Tr.t (is_true ⟨hl, rfl, ht, rfl, hr⟩) ?_
      show _ = some (allEq slices_EqualFunc_impl_Type_impl_Type_impl_Type_impl_Type_E A C); rw [hk]; rfl
  · refine Tr.t (by simp; omega) ?_
    show _ = some (allEq slices_EqualFunc_impl_Type_impl_Type_impl_Type_impl_Type_E A C)
    rw [allEq_ne hl]; rfl
noncomputable def slices_EqualFunc_impl_Type_impl_Type_impl_Type_impl_Type_S : List Arg → Option (Bool × Res) := fun xs => match xs with
  | [(false, [(.slice 55, TC.l A)]), (false, [(.slice 55, TC.l C)]), (false, [(.func, TC.f 72 [])])] => some ((slices_EqualFunc_impl_Type_impl_Type_impl_Type_impl_Type_c A C), slices_EqualFunc_impl_Type_impl_Type_impl_Type_impl_Type_mk (slices_EqualFunc_impl_Type_impl_Type_impl_Type_impl_Type_v A C))
  | _ => .none
theorem slices_EqualFunc_impl_Type_impl_Type_impl_Type_impl_Type_e (A : List (List TC)) (C : List (List TC)) : runF tab FT D31 live 105 slices_EqualFunc_impl_Type_impl_Type_impl_Type_impl_Type_lo [(false, [(.slice 55, TC.l A)]), (false, [(.slice 55, TC.l C)]), (false, [(.func, TC.f 72 [])])] = (slices_EqualFunc_impl_Type_impl_Type_impl_Type_impl_Type_t A C).run fun p => some (slices_EqualFunc_impl_Type_impl_Type_impl_Type_impl_Type_mk p) := by kernel_rfl
theorem slices_EqualFunc_impl_Type_impl_Type_impl_Type_impl_Type_s : ∀ xs r, slices_EqualFunc_impl_Type_impl_Type_impl_Type_impl_Type_S xs = some (true, r) → runF tab FT D31 live 105 slices_EqualFunc_impl_Type_impl_Type_impl_Type_impl_Type_lo xs = some r := by
  intro xs r h
  unfold slices_EqualFunc_impl_Type_impl_Type_impl_Type_impl_Type_S at h
  split at h
  · simp only [Option.some.injEq, Prod.mk.injEq] at h
    obtain ⟨h1, rfl⟩ := h
    exact fun_told (slices_EqualFunc_impl_Type_impl_Type_impl_Type_impl_Type_e _ _) (slices_EqualFunc_impl_Type_impl_Type_impl_Type_impl_Type_l _ _) h1
  · cases h
noncomputable def D32 : Dt := also D31 105 slices_EqualFunc_impl_Type_impl_Type_impl_Type_impl_Type_S
theorem d32 : DOk Go.Proofs.Try.prog tab D32 := d31.also mixed_ok tab_ok names_ok (fnLoops_one (by kernel_rfl) slices_EqualFunc_impl_Type_impl_Type_impl_Type_impl_Type_is4) slices_EqualFunc_impl_Type_impl_Type_impl_Type_impl_Type_s
/-! impl_SameType -/
noncomputable def impl_SameType_t (k : Int) (s : Int) (sg : Bool) (bg : Bool) (NA : List (List TC)) (NU : List (List TC)) (ME : List (List TC)) (BA : List (List TC)) (ct : Int) (k2 : Int) (s2 : Int) (sg2 : Bool) (bg2 : Bool) (NA2 : List (List TC)) (NU2 : List (List TC)) (ME2 : List (List TC)) (BA2 : List (List TC)) (ct2 : Int) : Tr (Bool) := (.ite ((k == k2) = true) (.ite ((s == s2) = true) (.ite ((sg == sg2) = true) (.ite ((bg == bg2) = true) (.ite ((ct == ct2) = true) (.ite ((slices_Equal_string_string_c NA NA2) = true) (.ite ((slices_Equal_string_string_v NA NA2) = true) (.ite ((slices_Equal_int64_int64_c NU NU2) = true) (.ite ((slices_Equal_int64_int64_v NU NU2) = true) (.ite ((slices_EqualFunc_impl_Member_impl_Member_impl_Member_impl_Member_c ME ME2) = true) (.ite ((slices_EqualFunc_impl_Member_impl_Member_impl_Member_impl_Member_v ME ME2) = true) (.ite ((slices_EqualFunc_impl_Type_impl_Type_impl_Type_impl_Type_c BA BA2) = true) (.ok (slices_EqualFunc_impl_Type_impl_Type_impl_Type_impl_Type_v BA BA2))
             .no)
            (.ok false))
           .no)
          (.ok false))
         .no)
        (.ok false))
       .no)
      (.ok false))
     (.ok false))
    (.ok false))
   (.ok false))
  (.ok false))
def impl_SameType_mk (p : Bool) : Res := [(false, [⟨.bool, .sh, TC.b p⟩])]
noncomputable def impl_SameType_c (k : Int) (s : Int) (sg : Bool) (bg : Bool) (NA : List (List TC)) (NU : List (List TC)) (ME : List (List TC)) (BA : List (List TC)) (ct : Int) (k2 : Int) (s2 : Int) (sg2 : Bool) (bg2 : Bool) (NA2 : List (List TC)) (NU2 : List (List TC)) (ME2 : List (List TC)) (BA2 : List (List TC)) (ct2 : Int) : Bool := (bif (k == k2) then (bif (s == s2) then (bif (sg == sg2) then (bif (bg == bg2) then (bif (ct == ct2) then ((slices_Equal_string_string_c NA NA2) && (bif (slices_Equal_string_string_v NA NA2) then ((slices_Equal_int64_int64_c NU NU2) && (bif (slices_Equal_int64_int64_v NU NU2) then ((slices_EqualFunc_impl_Member_impl_Member_impl_Member_impl_Member_c ME ME2) && (bif (slices_EqualFunc_impl_Member_impl_Member_impl_Member_impl_Member_v ME ME2) then ((slices_EqualFunc_impl_Type_impl_Type_impl_Type_impl_Type_c BA BA2) && true) else true)) else true)) else true)) else true) else true) else true) else true) else true)
noncomputable def impl_SameType_v (k : Int) (s : Int) (sg : Bool) (bg : Bool) (NA : List (List TC)) (NU : List (List TC)) (ME : List (List TC)) (BA : List (List TC)) (ct : Int) (k2 : Int) (s2 : Int) (sg2 : Bool) (bg2 : Bool) (NA2 : List (List TC)) (NU2 : List (List TC)) (ME2 : List (List TC)) (BA2 : List (List TC)) (ct2 : Int) : Bool := (bif (k == k2) then (bif (s == s2) then (bif (sg == sg2) then (bif (bg == bg2) then (bif (ct == ct2) then (bif (slices_Equal_string_string_v NA NA2) then (bif (slices_Equal_int64_int64_v NU NU2) then (bif (slices_EqualFunc_impl_Member_impl_Member_impl_Member_impl_Member_v ME ME2) then (slices_EqualFunc_impl_Type_impl_Type_impl_Type_impl_Type_v BA BA2) else false) else false) else false) else false) else false) else false) else false) else false)
theorem impl_SameType_l (k : Int) (s : Int) (sg : Bool) (bg : Bool) (NA : List (List TC)) (NU : List (List TC)) (ME : List (List TC)) (BA : List (List TC)) (ct : Int) (k2 : Int) (s2 : Int) (sg2 : Bool) (bg2 : Bool) (NA2 : List (List TC)) (NU2 : List (List TC)) (ME2 : List (List TC)) (BA2 : List (List TC)) (ct2 : Int) : (impl_SameType_c k s sg bg NA NU ME BA ct k2 s2 sg2 bg2 NA2 NU2 ME2 BA2 ct2) = true → (impl_SameType_t k s sg bg NA NU ME BA ct k2 s2 sg2 bg2 NA2 NU2 ME2 BA2 ct2).val = some (impl_SameType_v k s sg bg NA NU ME BA ct k2 s2 sg2 bg2 NA2 NU2 ME2 BA2 ct2) := by
  unfold impl_SameType_t impl_SameType_v impl_SameType_c
  exact fun h => (Tr.ss h (fun h => (Tr.ss h (fun h => (Tr.ss h (fun h => (Tr.ss h (fun h => (Tr.ss h (fun h => (Tr.gb h fun h => (Tr.ss h (fun h => (Tr.gb h fun h => (Tr.ss h (fun h => (Tr.gb h fun h => (Tr.ss h (fun h => (Tr.gb h fun h => rfl)) (fun h => rfl)))) (fun h => rfl)))) (fun h => rfl)))) (fun h => rfl))) (fun h => rfl))) (fun h => rfl))) (fun h => rfl))) (fun h => rfl))
noncomputable def impl_SameType_S : List Arg → Option (Bool × Res) := fun xs => match xs with
  | [(true, [(.int .i64, TC.i k), (.int .i64, TC.i s), (.bool, TC.b sg), (.bool, TC.b bg), (.slice 9, TC.l NA), (.slice 2, TC.l NU), (.slice 147, TC.l ME), (.slice 55, TC.l BA), (.int .i64, TC.i ct)]), (true, [(.int .i64, TC.i k2), (.int .i64, TC.i s2), (.bool, TC.b sg2), (.bool, TC.b bg2), (.slice 9, TC.l NA2), (.slice 2, TC.l NU2), (.slice 147, TC.l ME2), (.slice 55, TC.l BA2), (.int .i64, TC.i ct2)])] => some ((impl_SameType_c k s sg bg NA NU ME BA ct k2 s2 sg2 bg2 NA2 NU2 ME2 BA2 ct2), impl_SameType_mk (impl_SameType_v k s sg bg NA NU ME BA ct k2 s2 sg2 bg2 NA2 NU2 ME2 BA2 ct2))
  | _ => .none
theorem impl_SameType_e (k : Int) (s : Int) (sg : Bool) (bg : Bool) (NA : List (List TC)) (NU : List (List TC)) (ME : List (List TC)) (BA : List (List TC)) (ct : Int) (k2 : Int) (s2 : Int) (sg2 : Bool) (bg2 : Bool) (NA2 : List (List TC)) (NU2 : List (List TC)) (ME2 : List (List TC)) (BA2 : List (List TC)) (ct2 : Int) : runF tab FT D32 live 72 noLoops [(true, [(.int .i64, TC.i k), (.int .i64, TC.i s), (.bool, TC.b sg), (.bool, TC.b bg), (.slice 9, TC.l NA), (.slice 2, TC.l NU), (.slice 147, TC.l ME), (.slice 55, TC.l BA), (.int .i64, TC.i ct)]), (true, [(.int .i64, TC.i k2), (.int .i64, TC.i s2), (.bool, TC.b sg2), (.bool, TC.b bg2), (.slice 9, TC.l NA2), (.slice 2, TC.l NU2), (.slice 147, TC.l ME2), (.slice 55, TC.l BA2), (.int .i64, TC.i ct2)])] = (impl_SameType_t k s sg bg NA NU ME BA ct k2 s2 sg2 bg2 NA2 NU2 ME2 BA2 ct2).run fun p => some (impl_SameType_mk p) := by kernel_rfl
theorem impl_SameType_s : ∀ xs r, impl_SameType_S xs = some (true, r) → runF tab FT D32 live 72 noLoops xs = some r := by
  intro xs r h
  unfold impl_SameType_S at h
  split at h
  · simp only [Option.some.injEq, Prod.mk.injEq] at h
    obtain ⟨h1, rfl⟩ := h
    exact fun_told (impl_SameType_e _ _ _ _ _ _ _ _ _ _ _ _ _ _ _ _ _ _) (impl_SameType_l _ _ _ _ _ _ _ _ _ _ _ _ _ _ _ _ _ _) h1
  · cases h
theorem impl_SameType_nx (k : Int) (s : Int) (sg : Bool) (bg : Bool) (NA : List (List TC)) (NU : List (List TC)) (ME : List (List TC)) (BA : List (List TC)) (ct : Int) (k2 : Int) (s2 : Int) (sg2 : Bool) (bg2 : Bool) (NA2 : List (List TC)) (NU2 : List (List TC)) (ME2 : List (List TC)) (BA2 : List (List TC)) (ct2 : Int) : is (max (rowsDep ME) (rowsDep BA) < impl_SameType_O.n + 1 ∧ Typed tab (.slice 9) (.l NA) ∧ Typed tab (.slice 2) (.l NU) ∧ Typed tab (.slice 147) (.l ME) ∧ Typed tab (.slice 55) (.l BA) ∧ Typed tab (.slice 9) (.l NA2) ∧ Typed tab (.slice 2) (.l NU2) ∧ Typed tab (.slice 147) (.l ME2) ∧ Typed tab (.slice 55) (.l BA2)) = true → (impl_SameType_c k s sg bg NA NU ME BA ct k2 s2 sg2 bg2 NA2 NU2 ME2 BA2 ct2) = true ∧ (impl_SameType_v k s sg bg NA NU ME BA ct k2 s2 sg2 bg2 NA2 NU2 ME2 BA2 ct2) = sameV k s sg bg NA NU ME BA ct k2 s2 sg2 bg2 NA2 NU2 ME2 BA2 ct2 := by
  intro h
  obtain ⟨hM, a4, a5, a6, a7, b4, b5, b6, b7⟩ := is_iff.1 h
  have q6 : ∀ x y, x ∈ ME → y ∈ ME2 → impl_SameType_rc (nth x 2).int (nth x 3).int (nth x 4).bool (nth x 5).bool (nth x 6).list (nth x 7).list (nth x 8).list (nth x 9).list (nth x 10).int (nth y 2).int (nth y 3).int (nth y 4).bool (nth y 5).bool (nth y 6).list (nth y 7).list (nth y 8).list (nth y 9).list (nth y 10).int = true := fun x y hx hy => is_true ⟨by have a := dep_cell hx 8; have b := dep_cell hx 9; omega, typed_list ((typed_elem a6 hx).2 6 (by decide)), typed_list ((typed_elem a6 hx).2 7 (by decide)), typed_list ((typed_elem a6 hx).2 8 (by decide)), typed_list ((typed_elem a6 hx).2 9 (by decide)), typed_list ((typed_elem b6 hy).2 6 (by decide)), typed_list ((typed_elem b6 hy).2 7 (by decide)), typed_list ((typed_elem b6 hy).2 8 (by decide)), typed_list ((typed_elem b6 hy).2 9 (by decide))⟩
  have q7 : ∀ x y, x ∈ BA → y ∈ BA2 → impl_SameType_rc (nth x 0).int (nth x 1).int (nth x 2).bool (nth x 3).bool (nth x 4).list (nth x 5).list (nth x 6).list (nth x 7).list (nth x 8).int (nth y 0).int (nth y 1).int (nth y 2).bool (nth y 3).bool (nth y 4).list (nth y 5).list (nth y 6).list (nth y 7).list (nth y 8).int = true := fun x y hx hy => is_true ⟨by have a := dep_cell hx 6; have b := dep_cell hx 7; omega, typed_list ((typed_elem a7 hx).2 4 (by decide)), typed_list ((typed_elem a7 hx).2 5 (by decide)), typed_list ((typed_elem a7 hx).2 6 (by decide)), typed_list ((typed_elem a7 hx).2 7 (by decide)), typed_list ((typed_elem b7 hy).2 4 (by decide)), typed_list ((typed_elem b7 hy).2 5 (by decide)), typed_list ((typed_elem b7 hy).2 6 (by decide)), typed_list ((typed_elem b7 hy).2 7 (by decide))⟩
  have c4 : slices_Equal_string_string_c NA NA2 = true := is_true a4
  have c5 : slices_Equal_int64_int64_c NU NU2 = true := is_true a5
  have c6 : slices_EqualFunc_impl_Member_impl_Member_impl_Member_impl_Member_c ME ME2 = true := is_true ⟨a6, fun x y hx hy => by simp only [impl_sameMember_c, q6 x y hx hy, Bool.and_true, bif_same]⟩
  have c7 : slices_EqualFunc_impl_Type_impl_Type_impl_Type_impl_Type_c BA BA2 = true := is_true ⟨a7, q7⟩
  have v4 : slices_Equal_string_string_v NA NA2 = eqL NA NA2 := allEq_eqL (E := E_9) (fun x y hx hy => by
    constructor
    · intro h
      have hh : (nth x 0).str = (nth y 0).str := by
        simpa [E_9] using h
      have e0 := hh
      have hx' := form_9 a4 hx
      have hy' := form_9 b4 hy
      rw [hx', hy', e0]
    · rintro rfl
      simp [E_9])
  have v5 : slices_Equal_int64_int64_v NU NU2 = eqL NU NU2 := allEq_eqL (E := E_2) (fun x y hx hy => by
    constructor
    · intro h
      have hh : (nth x 0).int = (nth y 0).int := by
        simpa [E_2] using h
      have e0 := hh
      have hx' := form_2 a5 hx
      have hy' := form_2 b5 hy
      rw [hx', hy', e0]
    · rintro rfl
      simp [E_2])
  have v6 : slices_EqualFunc_impl_Member_impl_Member_impl_Member_impl_Member_v ME ME2 = eqL ME ME2 := allEq_eqL (E := slices_EqualFunc_impl_Member_impl_Member_impl_Member_impl_Member_E) (fun x y hx hy => by
    constructor
    · intro h
      have hh : (nth x 0).str = (nth y 0).str ∧ (nth x 1).int = (nth y 1).int ∧ (nth x 2).int = (nth y 2).int ∧ (nth x 3).int = (nth y 3).int ∧ (nth x 4).bool = (nth y 4).bool ∧ (nth x 5).bool = (nth y 5).bool ∧ (nth x 6).list = (nth y 6).list ∧ (nth x 7).list = (nth y 7).list ∧ (nth x 8).list = (nth y 8).list ∧ (nth x 9).list = (nth y 9).list ∧ (nth x 10).int = (nth y 10).int := by
        have h : (bif ((nth x 0).str == (nth y 0).str) then (bif ((nth x 1).int == (nth y 1).int) then sameV (nth x 2).int (nth x 3).int (nth x 4).bool (nth x 5).bool (nth x 6).list (nth x 7).list (nth x 8).list (nth x 9).list (nth x 10).int (nth y 2).int (nth y 3).int (nth y 4).bool (nth y 5).bool (nth y 6).list (nth y 7).list (nth y 8).list (nth y 9).list (nth y 10).int else false) else false) = true := h
        simp only [bif_ft, sameV, Bool.and_eq_true, beq_iff_eq, eqL_iff] at h
        obtain ⟨n, o, h⟩ := h
        exact ⟨n, o, h.1, h.2.1, h.2.2.1, h.2.2.2.1, h.2.2.2.2.2.1, h.2.2.2.2.2.2.1, h.2.2.2.2.2.2.2.1, h.2.2.2.2.2.2.2.2, h.2.2.2.2.1⟩
      obtain ⟨e0, e1, e2, e3, e4, e5, e6, e7, e8, e9, e10⟩ := hh
      have hx' := form_147 a6 hx
      have hy' := form_147 b6 hy
      rw [hx', hy', e0, e1, e2, e3, e4, e5, e6, e7, e8, e9, e10]
    · rintro rfl
      show (bif ((nth x 0).str == (nth x 0).str) then (bif ((nth x 1).int == (nth x 1).int) then sameV (nth x 2).int (nth x 3).int (nth x 4).bool (nth x 5).bool (nth x 6).list (nth x 7).list (nth x 8).list (nth x 9).list (nth x 10).int (nth x 2).int (nth x 3).int (nth x 4).bool (nth x 5).bool (nth x 6).list (nth x 7).list (nth x 8).list (nth x 9).list (nth x 10).int else false) else false) = true
      simp [sameV, eqL_refl])
  have v7 : slices_EqualFunc_impl_Type_impl_Type_impl_Type_impl_Type_v BA BA2 = eqL BA BA2 := allEq_eqL (E := slices_EqualFunc_impl_Type_impl_Type_impl_Type_impl_Type_E) (fun x y hx hy => by
    constructor
    · intro h
      have hh : (nth x 0).int = (nth y 0).int ∧ (nth x 1).int = (nth y 1).int ∧ (nth x 2).bool = (nth y 2).bool ∧ (nth x 3).bool = (nth y 3).bool ∧ (nth x 4).list = (nth y 4).list ∧ (nth x 5).list = (nth y 5).list ∧ (nth x 6).list = (nth y 6).list ∧ (nth x 7).list = (nth y 7).list ∧ (nth x 8).int = (nth y 8).int := by
        have h : sameV (nth x 0).int (nth x 1).int (nth x 2).bool (nth x 3).bool (nth x 4).list (nth x 5).list (nth x 6).list (nth x 7).list (nth x 8).int (nth y 0).int (nth y 1).int (nth y 2).bool (nth y 3).bool (nth y 4).list (nth y 5).list (nth y 6).list (nth y 7).list (nth y 8).int = true := h
        simp only [sameV, Bool.and_eq_true, beq_iff_eq, eqL_iff] at h
        exact ⟨h.1, h.2.1, h.2.2.1, h.2.2.2.1, h.2.2.2.2.2.1, h.2.2.2.2.2.2.1, h.2.2.2.2.2.2.2.1, h.2.2.2.2.2.2.2.2, h.2.2.2.2.1⟩
      obtain ⟨e0, e1, e2, e3, e4, e5, e6, e7, e8⟩ := hh
      have hx' := form_55 a7 hx
      have hy' := form_55 b7 hy
      rw [hx', hy', e0, e1, e2, e3, e4, e5, e6, e7, e8]
    · rintro rfl
      show sameV (nth x 0).int (nth x 1).int (nth x 2).bool (nth x 3).bool (nth x 4).list (nth x 5).list (nth x 6).list (nth x 7).list (nth x 8).int (nth x 0).int (nth x 1).int (nth x 2).bool (nth x 3).bool (nth x 4).list (nth x 5).list (nth x 6).list (nth x 7).list (nth x 8).int = true
      simp [sameV, eqL_refl])
  constructor
  · unfold impl_SameType_c
    simp only [c4, c5, c6, c7, Bool.true_and, Bool.and_true, bif_same]
  · unfold impl_SameType_v sameV
    rw [v4, v5, v6, v7]
    simp only [bif_ft]
theorem impl_SameType_nxr (k : Int) (s : Int) (sg : Bool) (bg : Bool) (NA : List (List TC)) (NU : List (List TC)) (ME : List (List TC)) (BA : List (List TC)) (ct : Int) (k2 : Int) (s2 : Int) (sg2 : Bool) (bg2 : Bool) (NA2 : List (List TC)) (NU2 : List (List TC)) (ME2 : List (List TC)) (BA2 : List (List TC)) (ct2 : Int) : impl_SameType_rc (i_impl_SameType := ⟨impl_SameType_O.n + 1⟩) k s sg bg NA NU ME BA ct k2 s2 sg2 bg2 NA2 NU2 ME2 BA2 ct2 = true → (impl_SameType_c k s sg bg NA NU ME BA ct k2 s2 sg2 bg2 NA2 NU2 ME2 BA2 ct2) = true ∧ (impl_SameType_v k s sg bg NA NU ME BA ct k2 s2 sg2 bg2 NA2 NU2 ME2 BA2 ct2) = (impl_SameType_rv k s sg bg NA NU ME BA ct k2 s2 sg2 bg2 NA2 NU2 ME2 BA2 ct2) := fun h => impl_SameType_nx k s sg bg NA NU ME BA ct k2 s2 sg2 bg2 NA2 NU2 ME2 BA2 ct2 h
theorem impl_SameType_rs : ∀ xs r, impl_SameType_rS (i_impl_SameType := ⟨impl_SameType_O.n + 1⟩) xs = some (true, r) → runF tab FT D32 live 72 noLoops xs = some r := by
  intro xs r h
  unfold impl_SameType_rS at h
  split at h
  · simp only [Option.some.injEq, Prod.mk.injEq] at h
    obtain ⟨h1, rfl⟩ := h
    have hx := impl_SameType_nxr _ _ _ _ _ _ _ _ _ _ _ _ _ _ _ _ _ _ h1
    have ht := fun_told (impl_SameType_e _ _ _ _ _ _ _ _ _ _ _ _ _ _ _ _ _ _) (impl_SameType_l _ _ _ _ _ _ _ _ _ _ _ _ _ _ _ _ _ _) hx.1
    rw [hx.2] at ht
    exact ht
  · cases h
theorem impl_SameType_step : impl_SameType_G (i_impl_SameType := ⟨impl_SameType_O.n + 1⟩) := by
  have h := DOk.also2 (S := impl_SameType_rS (i_impl_SameType := ⟨impl_SameType_O.n + 1⟩)) mixed_ok tab_ok names_ok d28 d32 noLoops_ok impl_SameType_rs
  refine impl_SameType_G.mk (i_impl_SameType := ⟨impl_SameType_O.n + 1⟩) ?_
  exact h
/-! impl_SameSpace -/
noncomputable def impl_SameSpace_t (a0 : List (List TC)) (a1 : List (List TC)) (a2 : List (List TC)) (a3 : List (List TC)) : Tr (Bool) := (.ite ((slices_Equal_int64_int64_c a0 a2) = true) (.ite ((slices_Equal_int64_int64_v a0 a2) = true) (.ite ((slices_Equal_int64_int64_c a1 a3) = true) (.ok (slices_Equal_int64_int64_v a1 a3))
    .no)
   (.ok false))
  .no)
def impl_SameSpace_mk (p : Bool) : Res := [(false, [⟨.bool, .sh, TC.b p⟩])]
noncomputable def impl_SameSpace_c (a0 : List (List TC)) (a1 : List (List TC)) (a2 : List (List TC)) (a3 : List (List TC)) : Bool := is (((slices_Equal_int64_int64_c a0 a2) = true) ∧ ((slices_Equal_int64_int64_c a1 a3) = true))
noncomputable def impl_SameSpace_v (a0 : List (List TC)) (a1 : List (List TC)) (a2 : List (List TC)) (a3 : List (List TC)) : Bool := (bif (slices_Equal_int64_int64_v a0 a2) then (slices_Equal_int64_int64_v a1 a3) else false)
theorem impl_SameSpace_l (a0 : List (List TC)) (a1 : List (List TC)) (a2 : List (List TC)) (a3 : List (List TC)) : (impl_SameSpace_c a0 a1 a2 a3) = true → (impl_SameSpace_t a0 a1 a2 a3).val = some (impl_SameSpace_v a0 a1 a2 a3) := by
  intro h
  obtain ⟨g0, g1⟩ := is_iff.1 h
  unfold impl_SameSpace_t impl_SameSpace_v
  exact (Tr.t g0 (Tr.s (Tr.t g1 rfl) rfl))
noncomputable def impl_SameSpace_S : List Arg → Option (Bool × Res) := fun xs => match xs with
  | [(true, [(.slice 2, TC.l a0), (.slice 2, TC.l a1)]), (true, [(.slice 2, TC.l a2), (.slice 2, TC.l a3)])] => some ((impl_SameSpace_c a0 a1 a2 a3), impl_SameSpace_mk (impl_SameSpace_v a0 a1 a2 a3))
  | _ => .none
theorem impl_SameSpace_e (a0 : List (List TC)) (a1 : List (List TC)) (a2 : List (List TC)) (a3 : List (List TC)) : runF tab FT D32 live 73 noLoops [(true, [(.slice 2, TC.l a0), (.slice 2, TC.l a1)]), (true, [(.slice 2, TC.l a2), (.slice 2, TC.l a3)])] = (impl_SameSpace_t a0 a1 a2 a3).run fun p => some (impl_SameSpace_mk p) := by kernel_rfl
theorem impl_SameSpace_s : ∀ xs r, impl_SameSpace_S xs = some (true, r) → runF tab FT D32 live 73 noLoops xs = some r := by
  intro xs r h
  unfold impl_SameSpace_S at h
  split at h
  · simp only [Option.some.injEq, Prod.mk.injEq] at h
    obtain ⟨h1, rfl⟩ := h
    exact fun_told (impl_SameSpace_e _ _ _ _) (impl_SameSpace_l _ _ _ _) h1
  · cases h
noncomputable def D33 : Dt := also D32 73 impl_SameSpace_S
theorem d33 : DOk Go.Proofs.Try.prog tab D33 := d32.also mixed_ok tab_ok names_ok noLoops_ok impl_SameSpace_s
/-! slices_Equal_impl_Filter_impl_Filter -/
abbrev slices_Equal_impl_Filter_impl_Filter_4_σ := List (List TC) × List (List TC) × Int × Int
abbrev slices_Equal_impl_Filter_impl_Filter_4_ω := (Unit) ⊕ (Unit)
noncomputable def slices_Equal_impl_Filter_impl_Filter_4_step (A : List (List TC)) (C : List (List TC)) (m : Int) (i : Int) : Tr (slices_Equal_impl_Filter_impl_Filter_4_σ ⊕ slices_Equal_impl_Filter_impl_Filter_4_ω) := (.ite ((decide (i < m)) = true) (.ite ((0 : Int) ≤ i ∧ i < (A.length : Int)) (.ite ((0 : Int) ≤ i ∧ i < (C.length : Int)) (.ite ((!(((nth (row A i) 0).int == (nth (row C i) 0).int) && (((nth (row A i) 1).int == (nth (row C i) 1).int) && (((nth (row A i) 2).bool == (nth (row C i) 2).bool) && true)))) = true) (.ok (.inr (.inl ())))
     (.ok (.inl (A, C, m, (IntKind.wrap .i64 (i + (1 : Int)))))))
    .no)
   .no)
  (.ok (.inr (.inr ()))))
noncomputable def slices_Equal_impl_Filter_impl_Filter_4_st : slices_Equal_impl_Filter_impl_Filter_4_σ → Tr (slices_Equal_impl_Filter_impl_Filter_4_σ ⊕ slices_Equal_impl_Filter_impl_Filter_4_ω) := fun x => (slices_Equal_impl_Filter_impl_Filter_4_step (x.1) (x.2.1) (x.2.2.1) (x.2.2.2))
noncomputable def slices_Equal_impl_Filter_impl_Filter_k4_1 (A : List (List TC)) (C : List (List TC)) (m : Int) (i : Int) : Bool := allEq E_122 A C
noncomputable def slices_Equal_impl_Filter_impl_Filter_o4_2 (A : List (List TC)) (C : List (List TC)) (m : Int) (i : Int) : Bool := is (A.length = C.length ∧ i = 0 ∧ Typed tab (.slice 122) (.l A) ∧ m = (A.length : Int))
noncomputable def slices_Equal_impl_Filter_impl_Filter_o4_3 (A : List (List TC)) (C : List (List TC)) (m : Int) (i : Int) : Bool := is (A.length = C.length ∧ i = 0 ∧ Typed tab (.slice 122) (.l A) ∧ m = (A.length : Int))
noncomputable def slices_Equal_impl_Filter_impl_Filter_4_fin (A : List (List TC)) (C : List (List TC)) (m : Int) (i : Int) : Told slices_Equal_impl_Filter_impl_Filter_4_ω := (.br (slices_Equal_impl_Filter_impl_Filter_k4_1 A C m i) (.leaf (slices_Equal_impl_Filter_impl_Filter_o4_2 A C m i) (.inr ())) (.leaf (slices_Equal_impl_Filter_impl_Filter_o4_3 A C m i) (.inl ())))
def slices_Equal_impl_Filter_impl_Filter_4_sl (x : slices_Equal_impl_Filter_impl_Filter_4_σ) : List Slot := [⟨.val false [⟨.slice 122, .sh, TC.l (x.1)⟩], ⟨0, 0⟩⟩, ⟨.val false [⟨.slice 122, .sh, TC.l (x.2.1)⟩], ⟨0, 0⟩⟩, ⟨.val false [⟨.int .i64, .sh, TC.i (x.2.2.1)⟩], ⟨0, 0⟩⟩, ⟨.val false [⟨.int .i64, .sh, TC.i (x.2.2.2)⟩], ⟨0, 0⟩⟩]
def slices_Equal_impl_Filter_impl_Filter_4_out : slices_Equal_impl_Filter_impl_Filter_4_ω → Ex × List Slot := (Sum.elim (fun x => (.ret, [⟨.val false [⟨.bool, .sh, TC.b false⟩], ⟨0, 0⟩⟩])) (fun x => (.exit 0, [Slot.none])))
noncomputable def slices_Equal_impl_Filter_impl_Filter_lo4 : List Slot → Option (Told (Ex × List Slot)) := fun s => match s with
  | [⟨.val false [⟨.slice 122, .sh, TC.l A⟩], ⟨0, 0⟩⟩, ⟨.val false [⟨.slice 122, .sh, TC.l C⟩], ⟨0, 0⟩⟩, ⟨.val false [⟨.int .i64, .sh, TC.i m⟩], ⟨0, 0⟩⟩, ⟨.val false [⟨.int .i64, .sh, TC.i i⟩], ⟨0, 0⟩⟩] => some (((slices_Equal_impl_Filter_impl_Filter_4_fin A C m i)).map slices_Equal_impl_Filter_impl_Filter_4_out)
  | _ => .none
noncomputable def slices_Equal_impl_Filter_impl_Filter_lo : LoopTeller := fun r s => bif Nat.beq r 4 then slices_Equal_impl_Filter_impl_Filter_lo4 s else .none
theorem slices_Equal_impl_Filter_impl_Filter_4_r (A : List (List TC)) (C : List (List TC)) (m : Int) (i : Int) (fuel : Nat) : rounds (rnd tab FT D33 live 75 slices_Equal_impl_Filter_impl_Filter_lo 0 4) leave (fuel + 1) (slices_Equal_impl_Filter_impl_Filter_4_sl (A, C, m, i)) = ((slices_Equal_impl_Filter_impl_Filter_4_step A C m i)).run (goOn (fun s => rounds (rnd tab FT D33 live 75 slices_Equal_impl_Filter_impl_Filter_lo 0 4) leave fuel (slices_Equal_impl_Filter_impl_Filter_4_sl s)) fun w => some (slices_Equal_impl_Filter_impl_Filter_4_out w)) := by kernel_rfl
theorem slices_Equal_impl_Filter_impl_Filter_4_h (A : List (List TC)) (C : List (List TC)) (m : Int) (i : Int) (ow : slices_Equal_impl_Filter_impl_Filter_4_ω) : ((slices_Equal_impl_Filter_impl_Filter_4_fin A C m i)).val = some ow → ∃ fuel, loopN slices_Equal_impl_Filter_impl_Filter_4_st fuel (A, C, m, i) = some ow := by
  intro h
  have key : A.length = C.length → Typed tab (.slice 122) (.l A) → loopN slices_Equal_impl_Filter_impl_Filter_4_st (A.length + 1) (A, C, (A.length : Int), 0) = some (if allEq E_122 A C = true then .inr () else .inl ()) := by
    intro hl ht
    have hlen : A.length ≤ 140737488351232 := by have := typed_room ht; simp only [show (tab 122).bytes = 24 from rfl] at this; omega
    refine loopN_allEq A C E_122 (fun i => (A, C, (A.length : Int), (i : Int))) _ _ hl (fun i hi => ?_) ?_ A.length 0 (by omega)
    · show (slices_Equal_impl_Filter_impl_Filter_4_step A C (A.length : Int) (i : Int)).val = _
      unfold slices_Equal_impl_Filter_impl_Filter_4_step
      refine Tr.t (by simp; omega) ?_
      refine Tr.t (by constructor <;> omega) ?_
      refine Tr.t (by constructor <;> omega) ?_
      rw [wrap64 (i := (i : Int) + 1) (by omega) (by omega)]
      rw [Tr.val_br]
      show (if (!(E_122 (A.getD i []) (C.getD i []))) = true then _ else _) = _
      cases E_122 (A.getD i []) (C.getD i []) <;> rfl
    · show (slices_Equal_impl_Filter_impl_Filter_4_step A C (A.length : Int) (A.length : Int)).val = _
      refine Tr.n (by simp) ?_
      rfl
  simp only [slices_Equal_impl_Filter_impl_Filter_4_fin, Told.val] at h
  cases hk : allEq E_122 A C with
  | true =>
    rw [if_pos (show slices_Equal_impl_Filter_impl_Filter_k4_1 A C m i = true from hk)] at h
    split at h
    · rename_i ho
      obtain ⟨hl, rfl, ht, rfl⟩ := is_iff.1 ho
      cases h
      refine ⟨_, (key hl ht).trans ?_⟩
      rw [hk]; rfl
    · cases h
  | false =>
    rw [if_neg (show ¬slices_Equal_impl_Filter_impl_Filter_k4_1 A C m i = true from by rw [show slices_Equal_impl_Filter_impl_Filter_k4_1 A C m i = allEq E_122 A C from rfl, hk]; simp)] at h
    split at h
    · rename_i ho
      obtain ⟨hl, rfl, ht, rfl⟩ := is_iff.1 ho
      cases h
      refine ⟨_, (key hl ht).trans ?_⟩
      rw [hk]; rfl
    · cases h
theorem slices_Equal_impl_Filter_impl_Filter_is4 : LoopIs tab FT D33 live 75 slices_Equal_impl_Filter_impl_Filter_lo 0 4 := by
  refine loop_told (sl := slices_Equal_impl_Filter_impl_Filter_4_sl) (step := slices_Equal_impl_Filter_impl_Filter_4_st) (out := slices_Equal_impl_Filter_impl_Filter_4_out) (lor := slices_Equal_impl_Filter_impl_Filter_lo4) (fin := fun x => (slices_Equal_impl_Filter_impl_Filter_4_fin (x.1) (x.2.1) (x.2.2.1) (x.2.2.2))) (fun _ => rfl) ?_ (fun x n => slices_Equal_impl_Filter_impl_Filter_4_r x.1 x.2.1 x.2.2.1 x.2.2.2 n) (fun x ow => slices_Equal_impl_Filter_impl_Filter_4_h x.1 x.2.1 x.2.2.1 x.2.2.2 ow)
  intro s t h
  unfold slices_Equal_impl_Filter_impl_Filter_lo4 at h
  split at h
  · cases h; exact ⟨(_, _, _, _), rfl, rfl⟩
  · cases h
noncomputable def slices_Equal_impl_Filter_impl_Filter_t (A : List (List TC)) (C : List (List TC)) : Tr (Bool) := (.ite ((!((A.length : Int) == (C.length : Int))) = true) (.ok false)
  (.ite ((slices_Equal_impl_Filter_impl_Filter_k4_1 A C (A.length : Int) (0 : Int)) = true) (.ite ((slices_Equal_impl_Filter_impl_Filter_o4_2 A C (A.length : Int) (0 : Int)) = true) (.ok true)
    .no)
   (.ite ((slices_Equal_impl_Filter_impl_Filter_o4_3 A C (A.length : Int) (0 : Int)) = true) (.ok false)
    .no)))
def slices_Equal_impl_Filter_impl_Filter_mk (p : Bool) : Res := [(false, [⟨.bool, .sh, TC.b p⟩])]
noncomputable def slices_Equal_impl_Filter_impl_Filter_c (A : List (List TC)) (C : List (List TC)) : Bool := is (Typed tab (.slice 122) (.l A))
noncomputable def slices_Equal_impl_Filter_impl_Filter_v (A : List (List TC)) (C : List (List TC)) : Bool := allEq E_122 A C
theorem slices_Equal_impl_Filter_impl_Filter_l (A : List (List TC)) (C : List (List TC)) : (slices_Equal_impl_Filter_impl_Filter_c A C) = true → (slices_Equal_impl_Filter_impl_Filter_t A C).val = some (slices_Equal_impl_Filter_impl_Filter_v A C) := by
  intro h
  have ht := is_iff.1 h
  unfold slices_Equal_impl_Filter_impl_Filter_t
  by_cases hl : A.length = C.length
  · refine Tr.n (by simp [hl]) ?_
    cases hk : allEq E_122 A C with
    | true =>
      refine Tr.t (show allEq E_122 A C = true from hk) ?_
      refine Tr.t (is_true ⟨hl, rfl, ht, rfl⟩) ?_
      show _ = some (allEq E_122 A C); rw [hk]; rfl
    | false =>
      refine Tr.n (show ¬allEq E_122 A C = true from by rw [hk]; simp) ?_
      refine Tr.t (is_true ⟨hl, rfl, ht, rfl⟩) ?_
      show _ = some (allEq E_122 A C); rw [hk]; rfl
  · refine Tr.t (by simp; omega) ?_
    show _ = some (allEq E_122 A C)
    rw [allEq_ne hl]
    rfl
noncomputable def slices_Equal_impl_Filter_impl_Filter_S : List Arg → Option (Bool × Res) := fun xs => match xs with
  | [(false, [(.slice 122, TC.l A)]), (false, [(.slice 122, TC.l C)])] => some ((slices_Equal_impl_Filter_impl_Filter_c A C), slices_Equal_impl_Filter_impl_Filter_mk (slices_Equal_impl_Filter_impl_Filter_v A C))
  | _ => .none
theorem slices_Equal_impl_Filter_impl_Filter_e (A : List (List TC)) (C : List (List TC)) : runF tab FT D33 live 75 slices_Equal_impl_Filter_impl_Filter_lo [(false, [(.slice 122, TC.l A)]), (false, [(.slice 122, TC.l C)])] = (slices_Equal_impl_Filter_impl_Filter_t A C).run fun p => some (slices_Equal_impl_Filter_impl_Filter_mk p) := by kernel_rfl
theorem slices_Equal_impl_Filter_impl_Filter_s : ∀ xs r, slices_Equal_impl_Filter_impl_Filter_S xs = some (true, r) → runF tab FT D33 live 75 slices_Equal_impl_Filter_impl_Filter_lo xs = some r := by
  intro xs r h
  unfold slices_Equal_impl_Filter_impl_Filter_S at h
  split at h
  · simp only [Option.some.injEq, Prod.mk.injEq] at h
    obtain ⟨h1, rfl⟩ := h
    exact fun_told (slices_Equal_impl_Filter_impl_Filter_e _ _) (slices_Equal_impl_Filter_impl_Filter_l _ _) h1
  · cases h
noncomputable def D34 : Dt := also D33 75 slices_Equal_impl_Filter_impl_Filter_S
theorem d34 : DOk Go.Proofs.Try.prog tab D34 := d33.also mixed_ok tab_ok names_ok (fnLoops_one (by kernel_rfl) slices_Equal_impl_Filter_impl_Filter_is4) slices_Equal_impl_Filter_impl_Filter_s
/-! impl_SameDataset -/
noncomputable def impl_SameDataset_t (a0 : Int) (a1 : Int) (a2 : Bool) (a3 : Bool) (a4 : List (List TC)) (a5 : List (List TC)) (a6 : List (List TC)) (a7 : List (List TC)) (a8 : Int) (a9 : List (List TC)) (a10 : List (List TC)) (a11 : List (List TC)) (a12 : List (List TC)) (a13 : List UInt8) (a14 : Int) (a15 : Int) (a16 : Int) (a17 : Bool) (a18 : Bool) (a19 : List (List TC)) (a20 : List (List TC)) (a21 : List (List TC)) (a22 : List (List TC)) (a23 : Int) (a24 : List (List TC)) (a25 : List (List TC)) (a26 : List (List TC)) (a27 : List (List TC)) (a28 : List UInt8) (a29 : Int) : Tr (Bool) := (.ite ((impl_SameType_rc a0 a1 a2 a3 a4 a5 a6 a7 a8 a15 a16 a17 a18 a19 a20 a21 a22 a23) = true) (.ite ((impl_SameType_rv a0 a1 a2 a3 a4 a5 a6 a7 a8 a15 a16 a17 a18 a19 a20 a21 a22 a23) = true) (.ite ((impl_SameSpace_c a9 a10 a24 a25) = true) (.ite ((impl_SameSpace_v a9 a10 a24 a25) = true) (.ite ((slices_Equal_int64_int64_c a11 a26) = true) (.ite ((slices_Equal_int64_int64_v a11 a26) = true) (.ite ((slices_Equal_impl_Filter_impl_Filter_c a12 a27) = true) (.ite ((slices_Equal_impl_Filter_impl_Filter_v a12 a27) = true) (.ite ((a13 == a28) = true) (.ok (a14 == a29))
          (.ok false))
         (.ok false))
        .no)
       (.ok false))
      .no)
     (.ok false))
    .no)
   (.ok false))
  .no)
def impl_SameDataset_mk (p : Bool) : Res := [(false, [⟨.bool, .sh, TC.b p⟩])]
noncomputable def impl_SameDataset_c (a0 : Int) (a1 : Int) (a2 : Bool) (a3 : Bool) (a4 : List (List TC)) (a5 : List (List TC)) (a6 : List (List TC)) (a7 : List (List TC)) (a8 : Int) (a9 : List (List TC)) (a10 : List (List TC)) (a11 : List (List TC)) (a12 : List (List TC)) (a13 : List UInt8) (a14 : Int) (a15 : Int) (a16 : Int) (a17 : Bool) (a18 : Bool) (a19 : List (List TC)) (a20 : List (List TC)) (a21 : List (List TC)) (a22 : List (List TC)) (a23 : Int) (a24 : List (List TC)) (a25 : List (List TC)) (a26 : List (List TC)) (a27 : List (List TC)) (a28 : List UInt8) (a29 : Int) : Bool := ((impl_SameType_rc a0 a1 a2 a3 a4 a5 a6 a7 a8 a15 a16 a17 a18 a19 a20 a21 a22 a23) && (bif (impl_SameType_rv a0 a1 a2 a3 a4 a5 a6 a7 a8 a15 a16 a17 a18 a19 a20 a21 a22 a23) then ((impl_SameSpace_c a9 a10 a24 a25) && (bif (impl_SameSpace_v a9 a10 a24 a25) then ((slices_Equal_int64_int64_c a11 a26) && (bif (slices_Equal_int64_int64_v a11 a26) then ((slices_Equal_impl_Filter_impl_Filter_c a12 a27) && (bif (slices_Equal_impl_Filter_impl_Filter_v a12 a27) then (bif (a13 == a28) then true else true) else true)) else true)) else true)) else true))
noncomputable def impl_SameDataset_v (a0 : Int) (a1 : Int) (a2 : Bool) (a3 : Bool) (a4 : List (List TC)) (a5 : List (List TC)) (a6 : List (List TC)) (a7 : List (List TC)) (a8 : Int) (a9 : List (List TC)) (a10 : List (List TC)) (a11 : List (List TC)) (a12 : List (List TC)) (a13 : List UInt8) (a14 : Int) (a15 : Int) (a16 : Int) (a17 : Bool) (a18 : Bool) (a19 : List (List TC)) (a20 : List (List TC)) (a21 : List (List TC)) (a22 : List (List TC)) (a23 : Int) (a24 : List (List TC)) (a25 : List (List TC)) (a26 : List (List TC)) (a27 : List (List TC)) (a28 : List UInt8) (a29 : Int) : Bool := (bif (impl_SameType_rv a0 a1 a2 a3 a4 a5 a6 a7 a8 a15 a16 a17 a18 a19 a20 a21 a22 a23) then (bif (impl_SameSpace_v a9 a10 a24 a25) then (bif (slices_Equal_int64_int64_v a11 a26) then (bif (slices_Equal_impl_Filter_impl_Filter_v a12 a27) then (bif (a13 == a28) then (a14 == a29) else false) else false) else false) else false) else false)
theorem impl_SameDataset_l (a0 : Int) (a1 : Int) (a2 : Bool) (a3 : Bool) (a4 : List (List TC)) (a5 : List (List TC)) (a6 : List (List TC)) (a7 : List (List TC)) (a8 : Int) (a9 : List (List TC)) (a10 : List (List TC)) (a11 : List (List TC)) (a12 : List (List TC)) (a13 : List UInt8) (a14 : Int) (a15 : Int) (a16 : Int) (a17 : Bool) (a18 : Bool) (a19 : List (List TC)) (a20 : List (List TC)) (a21 : List (List TC)) (a22 : List (List TC)) (a23 : Int) (a24 : List (List TC)) (a25 : List (List TC)) (a26 : List (List TC)) (a27 : List (List TC)) (a28 : List UInt8) (a29 : Int) : (impl_SameDataset_c a0 a1 a2 a3 a4 a5 a6 a7 a8 a9 a10 a11 a12 a13 a14 a15 a16 a17 a18 a19 a20 a21 a22 a23 a24 a25 a26 a27 a28 a29) = true → (impl_SameDataset_t a0 a1 a2 a3 a4 a5 a6 a7 a8 a9 a10 a11 a12 a13 a14 a15 a16 a17 a18 a19 a20 a21 a22 a23 a24 a25 a26 a27 a28 a29).val = some (impl_SameDataset_v a0 a1 a2 a3 a4 a5 a6 a7 a8 a9 a10 a11 a12 a13 a14 a15 a16 a17 a18 a19 a20 a21 a22 a23 a24 a25 a26 a27 a28 a29) := by
  unfold impl_SameDataset_t impl_SameDataset_v impl_SameDataset_c
  exact fun h => (Tr.gb h fun h => (Tr.ss h (fun h => (Tr.gb h fun h => (Tr.ss h (fun h => (Tr.gb h fun h => (Tr.ss h (fun h => (Tr.gb h fun h => (Tr.ss h (fun h => (Tr.ss h (fun h => rfl) (fun h => rfl))) (fun h => rfl)))) (fun h => rfl)))) (fun h => rfl)))) (fun h => rfl)))
noncomputable def impl_SameDataset_S : List Arg → Option (Bool × Res) := fun xs => match xs with
  | [(true, [(.int .i64, TC.i a0), (.int .i64, TC.i a1), (.bool, TC.b a2), (.bool, TC.b a3), (.slice 9, TC.l a4), (.slice 2, TC.l a5), (.slice 147, TC.l a6), (.slice 55, TC.l a7), (.int .i64, TC.i a8), (.slice 2, TC.l a9), (.slice 2, TC.l a10), (.slice 2, TC.l a11), (.slice 122, TC.l a12), (.str, TC.s a13), (.int .i64, TC.i a14)]), (true, [(.int .i64, TC.i a15), (.int .i64, TC.i a16), (.bool, TC.b a17), (.bool, TC.b a18), (.slice 9, TC.l a19), (.slice 2, TC.l a20), (.slice 147, TC.l a21), (.slice 55, TC.l a22), (.int .i64, TC.i a23), (.slice 2, TC.l a24), (.slice 2, TC.l a25), (.slice 2, TC.l a26), (.slice 122, TC.l a27), (.str, TC.s a28), (.int .i64, TC.i a29)])] => some ((impl_SameDataset_c a0 a1 a2 a3 a4 a5 a6 a7 a8 a9 a10 a11 a12 a13 a14 a15 a16 a17 a18 a19 a20 a21 a22 a23 a24 a25 a26 a27 a28 a29), impl_SameDataset_mk (impl_SameDataset_v a0 a1 a2 a3 a4 a5 a6 a7 a8 a9 a10 a11 a12 a13 a14 a15 a16 a17 a18 a19 a20 a21 a22 a23 a24 a25 a26 a27 a28 a29))
  | _ => .none
theorem impl_SameDataset_e (a0 : Int) (a1 : Int) (a2 : Bool) (a3 : Bool) (a4 : List (List TC)) (a5 : List (List TC)) (a6 : List (List TC)) (a7 : List (List TC)) (a8 : Int) (a9 : List (List TC)) (a10 : List (List TC)) (a11 : List (List TC)) (a12 : List (List TC)) (a13 : List UInt8) (a14 : Int) (a15 : Int) (a16 : Int) (a17 : Bool) (a18 : Bool) (a19 : List (List TC)) (a20 : List (List TC)) (a21 : List (List TC)) (a22 : List (List TC)) (a23 : Int) (a24 : List (List TC)) (a25 : List (List TC)) (a26 : List (List TC)) (a27 : List (List TC)) (a28 : List UInt8) (a29 : Int) : runF tab FT D34 live 30 noLoops [(true, [(.int .i64, TC.i a0), (.int .i64, TC.i a1), (.bool, TC.b a2), (.bool, TC.b a3), (.slice 9, TC.l a4), (.slice 2, TC.l a5), (.slice 147, TC.l a6), (.slice 55, TC.l a7), (.int .i64, TC.i a8), (.slice 2, TC.l a9), (.slice 2, TC.l a10), (.slice 2, TC.l a11), (.slice 122, TC.l a12), (.str, TC.s a13), (.int .i64, TC.i a14)]), (true, [(.int .i64, TC.i a15), (.int .i64, TC.i a16), (.bool, TC.b a17), (.bool, TC.b a18), (.slice 9, TC.l a19), (.slice 2, TC.l a20), (.slice 147, TC.l a21), (.slice 55, TC.l a22), (.int .i64, TC.i a23), (.slice 2, TC.l a24), (.slice 2, TC.l a25), (.slice 2, TC.l a26), (.slice 122, TC.l a27), (.str, TC.s a28), (.int .i64, TC.i a29)])] = (impl_SameDataset_t a0 a1 a2 a3 a4 a5 a6 a7 a8 a9 a10 a11 a12 a13 a14 a15 a16 a17 a18 a19 a20 a21 a22 a23 a24 a25 a26 a27 a28 a29).run fun p => some (impl_SameDataset_mk p) := by kernel_rfl
theorem impl_SameDataset_s : ∀ xs r, impl_SameDataset_S xs = some (true, r) → runF tab FT D34 live 30 noLoops xs = some r := by
  intro xs r h
  unfold impl_SameDataset_S at h
  split at h
  · simp only [Option.some.injEq, Prod.mk.injEq] at h
    obtain ⟨h1, rfl⟩ := h
    exact fun_told (impl_SameDataset_e _ _ _ _ _ _ _ _ _ _ _ _ _ _ _ _ _ _ _ _ _ _ _ _ _ _ _ _ _ _) (impl_SameDataset_l _ _ _ _ _ _ _ _ _ _ _ _ _ _ _ _ _ _ _ _ _ _ _ _ _ _ _ _ _ _) h1
  · cases h
noncomputable def D35 : Dt := also D34 30 impl_SameDataset_S
theorem d35 : DOk Go.Proofs.Try.prog tab D35 := d34.also mixed_ok tab_ok names_ok noLoops_ok impl_SameDataset_s
/-! laws_eqStringS -/
abbrev laws_eqStringS_4_σ := List (List TC) × List (List TC) × Int
abbrev laws_eqStringS_4_ω := (Unit) ⊕ (Unit)
noncomputable def laws_eqStringS_4_step (A : List (List TC)) (C : List (List TC)) (i : Int) : Tr (laws_eqStringS_4_σ ⊕ laws_eqStringS_4_ω) := (.ite ((decide (i < (A.length : Int))) = true) (.ite ((0 : Int) ≤ i ∧ i < (A.length : Int)) (.ite ((0 : Int) ≤ i ∧ i < (C.length : Int)) (.ite ((!((nth (row A i) 0).str == (nth (row C i) 0).str)) = true) (.ok (.inr (.inl ())))
     (.ok (.inl (A, C, (IntKind.wrap .i64 (i + (1 : Int)))))))
    .no)
   .no)
  (.ok (.inr (.inr ()))))
noncomputable def laws_eqStringS_4_st : laws_eqStringS_4_σ → Tr (laws_eqStringS_4_σ ⊕ laws_eqStringS_4_ω) := fun x => (laws_eqStringS_4_step (x.1) (x.2.1) (x.2.2))
noncomputable def laws_eqStringS_o4_1 (A : List (List TC)) (C : List (List TC)) (i : Int) : Bool := is (A = C ∧ Typed tab (.slice 9) (.l A) ∧ i = 0)
noncomputable def laws_eqStringS_4_fin (A : List (List TC)) (C : List (List TC)) (i : Int) : Told laws_eqStringS_4_ω := (.leaf (laws_eqStringS_o4_1 A C i) (.inr ()))
def laws_eqStringS_4_sl (x : laws_eqStringS_4_σ) : List Slot := [⟨.val false [⟨.slice 9, .sh, TC.l (x.1)⟩], ⟨0, 0⟩⟩, ⟨.val false [⟨.slice 9, .sh, TC.l (x.2.1)⟩], ⟨0, 0⟩⟩, ⟨.val false [⟨.int .i64, .sh, TC.i (x.2.2)⟩], ⟨0, 0⟩⟩]
def laws_eqStringS_4_out : laws_eqStringS_4_ω → Ex × List Slot := (Sum.elim (fun x => (.ret, [⟨.val false [⟨.bool, .sh, TC.b false⟩], ⟨0, 0⟩⟩])) (fun x => (.exit 0, [Slot.none])))
noncomputable def laws_eqStringS_lo4 : List Slot → Option (Told (Ex × List Slot)) := fun s => match s with
  | [⟨.val false [⟨.slice 9, .sh, TC.l A⟩], ⟨0, 0⟩⟩, ⟨.val false [⟨.slice 9, .sh, TC.l C⟩], ⟨0, 0⟩⟩, ⟨.val false [⟨.int .i64, .sh, TC.i i⟩], ⟨0, 0⟩⟩] => some (((laws_eqStringS_4_fin A C i)).map laws_eqStringS_4_out)
  | _ => .none
noncomputable def laws_eqStringS_lo : LoopTeller := fun r s => bif Nat.beq r 4 then laws_eqStringS_lo4 s else .none
theorem laws_eqStringS_4_r (A : List (List TC)) (C : List (List TC)) (i : Int) (fuel : Nat) : rounds (rnd tab FT D35 live 18 laws_eqStringS_lo 0 4) leave (fuel + 1) (laws_eqStringS_4_sl (A, C, i)) = ((laws_eqStringS_4_step A C i)).run (goOn (fun s => rounds (rnd tab FT D35 live 18 laws_eqStringS_lo 0 4) leave fuel (laws_eqStringS_4_sl s)) fun w => some (laws_eqStringS_4_out w)) := by kernel_rfl
theorem laws_eqStringS_4_h (A : List (List TC)) (C : List (List TC)) (i : Int) (ow : laws_eqStringS_4_ω) : ((laws_eqStringS_4_fin A C i)).val = some ow → ∃ fuel, loopN laws_eqStringS_4_st fuel (A, C, i) = some ow := by
  intro h
  refine auto_leaf (R := Sum.inr ()) (fun ho => ?_) h
  obtain ⟨rfl, ht, rfl⟩ := is_iff.1 ho
  have hlen : A.length ≤ 140737488351232 := by have := typed_room ht; simp only [show (tab 9).bytes = 16 from rfl] at this; omega
  refine ⟨_, loopN_run (N := A.length) (fun i => (A, A, (i : Int))) (fun i hi => ?_) ?_ A.length 0 (by omega)⟩
  · have c0 : Typed tab (.str) (.s (nth (A.getD i []) 0).str) := typed_s (typed_cell ht (A.getD i []) (mem_getD hi) 0 (by decide))
    show (laws_eqStringS_4_step A A (i : Int)).val = _
    unfold laws_eqStringS_4_step
    refine Tr.t (by simp; omega) ?_
    refine Tr.t (by first | omega | (constructor <;> omega)) ?_
    refine Tr.t (by first | omega | (constructor <;> omega)) ?_
    refine Tr.n (by simp [impl_SameType_rv, laws_szType_rv, laws_toType_rv, spec_SameType_rv]) ?_
    rw [Tr.val_ok, wrap64 (i := (i : Int) + 1) (by omega) (by omega)]; rfl
  · show (laws_eqStringS_4_step A A (A.length : Int)).val = _
    refine Tr.n (by simp) ?_
    rfl
theorem laws_eqStringS_is4 : LoopIs tab FT D35 live 18 laws_eqStringS_lo 0 4 := by
  refine loop_told (sl := laws_eqStringS_4_sl) (step := laws_eqStringS_4_st) (out := laws_eqStringS_4_out) (lor := laws_eqStringS_lo4) (fin := fun x => (laws_eqStringS_4_fin (x.1) (x.2.1) (x.2.2))) (fun _ => rfl) ?_ (fun x n => laws_eqStringS_4_r x.1 x.2.1 x.2.2 n) (fun x ow => laws_eqStringS_4_h x.1 x.2.1 x.2.2 ow)
  intro s t h
  unfold laws_eqStringS_lo4 at h
  split at h
  · cases h; exact ⟨(_, _, _), rfl, rfl⟩
  · cases h
noncomputable def laws_eqStringS_t (A : List (List TC)) (C : List (List TC)) : Tr (Bool) := (.ite ((!((A.length : Int) == (C.length : Int))) = true) (.ok false)
  (.ite ((laws_eqStringS_o4_1 A C (0 : Int)) = true) (.ok true)
   .no))
def laws_eqStringS_mk (p : Bool) : Res := [(false, [⟨.bool, .sh, TC.b p⟩])]
noncomputable def laws_eqStringS_c (A : List (List TC)) (C : List (List TC)) : Bool := is (A = C ∧ Typed tab (.slice 9) (.l A))
noncomputable def laws_eqStringS_v (A : List (List TC)) (C : List (List TC)) : Bool := true
theorem laws_eqStringS_l (A : List (List TC)) (C : List (List TC)) : (laws_eqStringS_c A C) = true → (laws_eqStringS_t A C).val = some (laws_eqStringS_v A C) := by
  intro h
  obtain ⟨rfl, ht⟩ := is_iff.1 h
  unfold laws_eqStringS_t
  refine Tr.n (by simp) ?_
  refine Tr.t (is_true ⟨rfl, ht, rfl⟩) ?_
  rfl
noncomputable def laws_eqStringS_S : List Arg → Option (Bool × Res) := fun xs => match xs with
  | [(false, [(.slice 9, TC.l A)]), (false, [(.slice 9, TC.l C)])] => some ((laws_eqStringS_c A C), laws_eqStringS_mk (laws_eqStringS_v A C))
  | _ => .none
theorem laws_eqStringS_e (A : List (List TC)) (C : List (List TC)) : runF tab FT D35 live 18 laws_eqStringS_lo [(false, [(.slice 9, TC.l A)]), (false, [(.slice 9, TC.l C)])] = (laws_eqStringS_t A C).run fun p => some (laws_eqStringS_mk p) := by kernel_rfl
theorem laws_eqStringS_s : ∀ xs r, laws_eqStringS_S xs = some (true, r) → runF tab FT D35 live 18 laws_eqStringS_lo xs = some r := by
  intro xs r h
  unfold laws_eqStringS_S at h
  split at h
  · simp only [Option.some.injEq, Prod.mk.injEq] at h
    obtain ⟨h1, rfl⟩ := h
    exact fun_told (laws_eqStringS_e _ _) (laws_eqStringS_l _ _) h1
  · cases h
noncomputable def D36 : Dt := also D35 18 laws_eqStringS_S
theorem d36 : DOk Go.Proofs.Try.prog tab D36 := d35.also mixed_ok tab_ok names_ok (fnLoops_one (by kernel_rfl) laws_eqStringS_is4) laws_eqStringS_s
/-! laws_eqInt64S -/
abbrev laws_eqInt64S_4_σ := List (List TC) × List (List TC) × Int
abbrev laws_eqInt64S_4_ω := (Unit) ⊕ (Unit)
noncomputable def laws_eqInt64S_4_step (A : List (List TC)) (C : List (List TC)) (i : Int) : Tr (laws_eqInt64S_4_σ ⊕ laws_eqInt64S_4_ω) := (.ite ((decide (i < (A.length : Int))) = true) (.ite ((0 : Int) ≤ i ∧ i < (A.length : Int)) (.ite ((0 : Int) ≤ i ∧ i < (C.length : Int)) (.ite ((!((nth (row A i) 0).int == (nth (row C i) 0).int)) = true) (.ok (.inr (.inl ())))
     (.ok (.inl (A, C, (IntKind.wrap .i64 (i + (1 : Int)))))))
    .no)
   .no)
  (.ok (.inr (.inr ()))))
noncomputable def laws_eqInt64S_4_st : laws_eqInt64S_4_σ → Tr (laws_eqInt64S_4_σ ⊕ laws_eqInt64S_4_ω) := fun x => (laws_eqInt64S_4_step (x.1) (x.2.1) (x.2.2))
noncomputable def laws_eqInt64S_o4_1 (A : List (List TC)) (C : List (List TC)) (i : Int) : Bool := is (A = C ∧ Typed tab (.slice 2) (.l A) ∧ i = 0)
noncomputable def laws_eqInt64S_4_fin (A : List (List TC)) (C : List (List TC)) (i : Int) : Told laws_eqInt64S_4_ω := (.leaf (laws_eqInt64S_o4_1 A C i) (.inr ()))
def laws_eqInt64S_4_sl (x : laws_eqInt64S_4_σ) : List Slot := [⟨.val false [⟨.slice 2, .sh, TC.l (x.1)⟩], ⟨0, 0⟩⟩, ⟨.val false [⟨.slice 2, .sh, TC.l (x.2.1)⟩], ⟨0, 0⟩⟩, ⟨.val false [⟨.int .i64, .sh, TC.i (x.2.2)⟩], ⟨0, 0⟩⟩]
def laws_eqInt64S_4_out : laws_eqInt64S_4_ω → Ex × List Slot := (Sum.elim (fun x => (.ret, [⟨.val false [⟨.bool, .sh, TC.b false⟩], ⟨0, 0⟩⟩])) (fun x => (.exit 0, [Slot.none])))
noncomputable def laws_eqInt64S_lo4 : List Slot → Option (Told (Ex × List Slot)) := fun s => match s with
  | [⟨.val false [⟨.slice 2, .sh, TC.l A⟩], ⟨0, 0⟩⟩, ⟨.val false [⟨.slice 2, .sh, TC.l C⟩], ⟨0, 0⟩⟩, ⟨.val false [⟨.int .i64, .sh, TC.i i⟩], ⟨0, 0⟩⟩] => some (((laws_eqInt64S_4_fin A C i)).map laws_eqInt64S_4_out)
  | _ => .none
noncomputable def laws_eqInt64S_lo : LoopTeller := fun r s => bif Nat.beq r 4 then laws_eqInt64S_lo4 s else .none
theorem laws_eqInt64S_4_r (A : List (List TC)) (C : List (List TC)) (i : Int) (fuel : Nat) : rounds (rnd tab FT D36 live 78 laws_eqInt64S_lo 0 4) leave (fuel + 1) (laws_eqInt64S_4_sl (A, C, i)) = ((laws_eqInt64S_4_step A C i)).run (goOn (fun s => rounds (rnd tab FT D36 live 78 laws_eqInt64S_lo 0 4) leave fuel (laws_eqInt64S_4_sl s)) fun w => some (laws_eqInt64S_4_out w)) := by kernel_rfl
theorem laws_eqInt64S_4_h (A : List (List TC)) (C : List (List TC)) (i : Int) (ow : laws_eqInt64S_4_ω) : ((laws_eqInt64S_4_fin A C i)).val = some ow → ∃ fuel, loopN laws_eqInt64S_4_st fuel (A, C, i) = some ow := by
  intro h
  refine auto_leaf (R := Sum.inr ()) (fun ho => ?_) h
  obtain ⟨rfl, ht, rfl⟩ := is_iff.1 ho
  have hlen : A.length ≤ 140737488351232 := by have := typed_room ht; simp only [show (tab 2).bytes = 8 from rfl] at this; omega
  refine ⟨_, loopN_run (N := A.length) (fun i => (A, A, (i : Int))) (fun i hi => ?_) ?_ A.length 0 (by omega)⟩
  · skip
    show (laws_eqInt64S_4_step A A (i : Int)).val = _
    unfold laws_eqInt64S_4_step
    refine Tr.t (by simp; omega) ?_
    refine Tr.t (by first | omega | (constructor <;> omega)) ?_
    refine Tr.t (by first | omega | (constructor <;> omega)) ?_
    refine Tr.n (by simp [impl_SameType_rv, laws_szType_rv, laws_toType_rv, spec_SameType_rv]) ?_
    rw [Tr.val_ok, wrap64 (i := (i : Int) + 1) (by omega) (by omega)]; rfl
  · show (laws_eqInt64S_4_step A A (A.length : Int)).val = _
    refine Tr.n (by simp) ?_
    rfl
theorem laws_eqInt64S_is4 : LoopIs tab FT D36 live 78 laws_eqInt64S_lo 0 4 := by
  refine loop_told (sl := laws_eqInt64S_4_sl) (step := laws_eqInt64S_4_st) (out := laws_eqInt64S_4_out) (lor := laws_eqInt64S_lo4) (fin := fun x => (laws_eqInt64S_4_fin (x.1) (x.2.1) (x.2.2))) (fun _ => rfl) ?_ (fun x n => laws_eqInt64S_4_r x.1 x.2.1 x.2.2 n) (fun x ow => laws_eqInt64S_4_h x.1 x.2.1 x.2.2 ow)
  intro s t h
  unfold laws_eqInt64S_lo4 at h
  split at h
  · cases h; exact ⟨(_, _, _), rfl, rfl⟩
  · cases h
noncomputable def laws_eqInt64S_t (A : List (List TC)) (C : List (List TC)) : Tr (Bool) := (.ite ((!((A.length : Int) == (C.length : Int))) = true) (.ok false)
  (.ite ((laws_eqInt64S_o4_1 A C (0 : Int)) = true) (.ok true)
   .no))
def laws_eqInt64S_mk (p : Bool) : Res := [(false, [⟨.bool, .sh, TC.b p⟩])]
noncomputable def laws_eqInt64S_c (A : List (List TC)) (C : List (List TC)) : Bool := is (A = C ∧ Typed tab (.slice 2) (.l A))
noncomputable def laws_eqInt64S_v (A : List (List TC)) (C : List (List TC)) : Bool := true
theorem laws_eqInt64S_l (A : List (List TC)) (C : List (List TC)) : (laws_eqInt64S_c A C) = true → (laws_eqInt64S_t A C).val = some (laws_eqInt64S_v A C) := by
  intro h
  obtain ⟨rfl, ht⟩ := is_iff.1 h
  unfold laws_eqInt64S_t
  refine Tr.n (by simp) ?_
  refine Tr.t (is_true ⟨rfl, ht, rfl⟩) ?_
  rfl
noncomputable def laws_eqInt64S_S : List Arg → Option (Bool × Res) := fun xs => match xs with
  | [(false, [(.slice 2, TC.l A)]), (false, [(.slice 2, TC.l C)])] => some ((laws_eqInt64S_c A C), laws_eqInt64S_mk (laws_eqInt64S_v A C))
  | _ => .none
theorem laws_eqInt64S_e (A : List (List TC)) (C : List (List TC)) : runF tab FT D36 live 78 laws_eqInt64S_lo [(false, [(.slice 2, TC.l A)]), (false, [(.slice 2, TC.l C)])] = (laws_eqInt64S_t A C).run fun p => some (laws_eqInt64S_mk p) := by kernel_rfl
theorem laws_eqInt64S_s : ∀ xs r, laws_eqInt64S_S xs = some (true, r) → runF tab FT D36 live 78 laws_eqInt64S_lo xs = some r := by
  intro xs r h
  unfold laws_eqInt64S_S at h
  split at h
  · simp only [Option.some.injEq, Prod.mk.injEq] at h
    obtain ⟨h1, rfl⟩ := h
    exact fun_told (laws_eqInt64S_e _ _) (laws_eqInt64S_l _ _) h1
  · cases h
noncomputable def D37 : Dt := also D36 78 laws_eqInt64S_S
theorem d37 : DOk Go.Proofs.Try.prog tab D37 := d36.also mixed_ok tab_ok names_ok (fnLoops_one (by kernel_rfl) laws_eqInt64S_is4) laws_eqInt64S_s
/-! laws_eqType calls itself -/
section
class laws_eqType_O where n : Nat
variable [i_laws_eqType : laws_eqType_O]
noncomputable def laws_eqType_rc (x0 : Int) (x1 : Int) (x2 : Bool) (x3 : Bool) (x4 : List (List TC)) (x5 : List (List TC)) (x6 : List (List TC)) (x7 : List (List TC)) (x8 : Int) (y0 : Int) (y1 : Int) (y2 : Bool) (y3 : Bool) (y4 : List (List TC)) (y5 : List (List TC)) (y6 : List (List TC)) (y7 : List (List TC)) (y8 : Int) : Bool := is (max (rowsDep x6) (rowsDep x7) < laws_eqType_O.n ∧ x0 = y0 ∧ x1 = y1 ∧ x2 = y2 ∧ x3 = y3 ∧ x4 = y4 ∧ x5 = y5 ∧ x6 = y6 ∧ x7 = y7 ∧ x8 = y8 ∧ Typed tab (.slice 9) (.l x4) ∧ Typed tab (.slice 2) (.l x5) ∧ Typed tab (.slice 147) (.l x6) ∧ Typed tab (.slice 55) (.l x7))
noncomputable def laws_eqType_rv (x0 : Int) (x1 : Int) (x2 : Bool) (x3 : Bool) (x4 : List (List TC)) (x5 : List (List TC)) (x6 : List (List TC)) (x7 : List (List TC)) (x8 : Int) (y0 : Int) (y1 : Int) (y2 : Bool) (y3 : Bool) (y4 : List (List TC)) (y5 : List (List TC)) (y6 : List (List TC)) (y7 : List (List TC)) (y8 : Int) : Bool := true
def laws_eqType_rmk (p : Bool) : Res := [(false, [⟨.bool, .sh, TC.b p⟩])]
noncomputable def laws_eqType_rS : List Arg → Option (Bool × Res) := fun xs => match xs with
  | [(true, [(.int .i64, TC.i x0), (.int .i64, TC.i x1), (.bool, TC.b x2), (.bool, TC.b x3), (.slice 9, TC.l x4), (.slice 2, TC.l x5), (.slice 147, TC.l x6), (.slice 55, TC.l x7), (.int .i64, TC.i x8)]), (true, [(.int .i64, TC.i y0), (.int .i64, TC.i y1), (.bool, TC.b y2), (.bool, TC.b y3), (.slice 9, TC.l y4), (.slice 2, TC.l y5), (.slice 147, TC.l y6), (.slice 55, TC.l y7), (.int .i64, TC.i y8)])] => some ((laws_eqType_rc x0 x1 x2 x3 x4 x5 x6 x7 x8 y0 y1 y2 y3 y4 y5 y6 y7 y8), laws_eqType_rmk (laws_eqType_rv x0 x1 x2 x3 x4 x5 x6 x7 x8 y0 y1 y2 y3 y4 y5 y6 y7 y8))
  | _ => .none
noncomputable def D38 : Dt := also D37 76 laws_eqType_rS
class laws_eqType_G : Prop where ok : DOk Go.Proofs.Try.prog tab D38
variable [g_laws_eqType : laws_eqType_G]
theorem d38 : DOk Go.Proofs.Try.prog tab D38 := laws_eqType_G.ok
/-! laws_eqMember -/
noncomputable def laws_eqMember_t (x0 : List UInt8) (x1 : Int) (x2 : Int) (x3 : Int) (x4 : Bool) (x5 : Bool) (x6 : List (List TC)) (x7 : List (List TC)) (x8 : List (List TC)) (x9 : List (List TC)) (x10 : Int) (y0 : List UInt8) (y1 : Int) (y2 : Int) (y3 : Int) (y4 : Bool) (y5 : Bool) (y6 : List (List TC)) (y7 : List (List TC)) (y8 : List (List TC)) (y9 : List (List TC)) (y10 : Int) : Tr (Bool) := (.ite ((!(x0 == y0)) = true) (.ok false)
  (.ite ((!(x1 == y1)) = true) (.ok false)
   (.ite ((laws_eqType_rc x2 x3 x4 x5 x6 x7 x8 x9 x10 y2 y3 y4 y5 y6 y7 y8 y9 y10) = true) (.ite ((!(laws_eqType_rv x2 x3 x4 x5 x6 x7 x8 x9 x10 y2 y3 y4 y5 y6 y7 y8 y9 y10)) = true) (.ok false)
     (.ok true))
    .no)))
def laws_eqMember_mk (p : Bool) : Res := [(false, [⟨.bool, .sh, TC.b p⟩])]
noncomputable def laws_eqMember_c (x0 : List UInt8) (x1 : Int) (x2 : Int) (x3 : Int) (x4 : Bool) (x5 : Bool) (x6 : List (List TC)) (x7 : List (List TC)) (x8 : List (List TC)) (x9 : List (List TC)) (x10 : Int) (y0 : List UInt8) (y1 : Int) (y2 : Int) (y3 : Int) (y4 : Bool) (y5 : Bool) (y6 : List (List TC)) (y7 : List (List TC)) (y8 : List (List TC)) (y9 : List (List TC)) (y10 : Int) : Bool := (bif (!(x0 == y0)) then true else (bif (!(x1 == y1)) then true else ((laws_eqType_rc x2 x3 x4 x5 x6 x7 x8 x9 x10 y2 y3 y4 y5 y6 y7 y8 y9 y10) && (bif (!(laws_eqType_rv x2 x3 x4 x5 x6 x7 x8 x9 x10 y2 y3 y4 y5 y6 y7 y8 y9 y10)) then true else true))))
noncomputable def laws_eqMember_v (x0 : List UInt8) (x1 : Int) (x2 : Int) (x3 : Int) (x4 : Bool) (x5 : Bool) (x6 : List (List TC)) (x7 : List (List TC)) (x8 : List (List TC)) (x9 : List (List TC)) (x10 : Int) (y0 : List UInt8) (y1 : Int) (y2 : Int) (y3 : Int) (y4 : Bool) (y5 : Bool) (y6 : List (List TC)) (y7 : List (List TC)) (y8 : List (List TC)) (y9 : List (List TC)) (y10 : Int) : Bool := (bif (!(x0 == y0)) then false else (bif (!(x1 == y1)) then false else (bif (!(laws_eqType_rv x2 x3 x4 x5 x6 x7 x8 x9 x10 y2 y3 y4 y5 y6 y7 y8 y9 y10)) then false else true)))
theorem laws_eqMember_l (x0 : List UInt8) (x1 : Int) (x2 : Int) (x3 : Int) (x4 : Bool) (x5 : Bool) (x6 : List (List TC)) (x7 : List (List TC)) (x8 : List (List TC)) (x9 : List (List TC)) (x10 : Int) (y0 : List UInt8) (y1 : Int) (y2 : Int) (y3 : Int) (y4 : Bool) (y5 : Bool) (y6 : List (List TC)) (y7 : List (List TC)) (y8 : List (List TC)) (y9 : List (List TC)) (y10 : Int) : (laws_eqMember_c x0 x1 x2 x3 x4 x5 x6 x7 x8 x9 x10 y0 y1 y2 y3 y4 y5 y6 y7 y8 y9 y10) = true → (laws_eqMember_t x0 x1 x2 x3 x4 x5 x6 x7 x8 x9 x10 y0 y1 y2 y3 y4 y5 y6 y7 y8 y9 y10).val = some (laws_eqMember_v x0 x1 x2 x3 x4 x5 x6 x7 x8 x9 x10 y0 y1 y2 y3 y4 y5 y6 y7 y8 y9 y10) := by
  unfold laws_eqMember_t laws_eqMember_v laws_eqMember_c
  exact fun h => (Tr.ss h (fun h => rfl) (fun h => (Tr.ss h (fun h => rfl) (fun h => (Tr.gb h fun h => (Tr.ss h (fun h => rfl) (fun h => rfl)))))))
noncomputable def laws_eqMember_S : List Arg → Option (Bool × Res) := fun xs => match xs with
  | [(true, [(.str, TC.s x0), (.int .i64, TC.i x1), (.int .i64, TC.i x2), (.int .i64, TC.i x3), (.bool, TC.b x4), (.bool, TC.b x5), (.slice 9, TC.l x6), (.slice 2, TC.l x7), (.slice 147, TC.l x8), (.slice 55, TC.l x9), (.int .i64, TC.i x10)]), (true, [(.str, TC.s y0), (.int .i64, TC.i y1), (.int .i64, TC.i y2), (.int .i64, TC.i y3), (.bool, TC.b y4), (.bool, TC.b y5), (.slice 9, TC.l y6), (.slice 2, TC.l y7), (.slice 147, TC.l y8), (.slice 55, TC.l y9), (.int .i64, TC.i y10)])] => some ((laws_eqMember_c x0 x1 x2 x3 x4 x5 x6 x7 x8 x9 x10 y0 y1 y2 y3 y4 y5 y6 y7 y8 y9 y10), laws_eqMember_mk (laws_eqMember_v x0 x1 x2 x3 x4 x5 x6 x7 x8 x9 x10 y0 y1 y2 y3 y4 y5 y6 y7 y8 y9 y10))
  | _ => .none
theorem laws_eqMember_e (x0 : List UInt8) (x1 : Int) (x2 : Int) (x3 : Int) (x4 : Bool) (x5 : Bool) (x6 : List (List TC)) (x7 : List (List TC)) (x8 : List (List TC)) (x9 : List (List TC)) (x10 : Int) (y0 : List UInt8) (y1 : Int) (y2 : Int) (y3 : Int) (y4 : Bool) (y5 : Bool) (y6 : List (List TC)) (y7 : List (List TC)) (y8 : List (List TC)) (y9 : List (List TC)) (y10 : Int) : runF tab FT D38 live 139 noLoops [(true, [(.str, TC.s x0), (.int .i64, TC.i x1), (.int .i64, TC.i x2), (.int .i64, TC.i x3), (.bool, TC.b x4), (.bool, TC.b x5), (.slice 9, TC.l x6), (.slice 2, TC.l x7), (.slice 147, TC.l x8), (.slice 55, TC.l x9), (.int .i64, TC.i x10)]), (true, [(.str, TC.s y0), (.int .i64, TC.i y1), (.int .i64, TC.i y2), (.int .i64, TC.i y3), (.bool, TC.b y4), (.bool, TC.b y5), (.slice 9, TC.l y6), (.slice 2, TC.l y7), (.slice 147, TC.l y8), (.slice 55, TC.l y9), (.int .i64, TC.i y10)])] = (laws_eqMember_t x0 x1 x2 x3 x4 x5 x6 x7 x8 x9 x10 y0 y1 y2 y3 y4 y5 y6 y7 y8 y9 y10).run fun p => some (laws_eqMember_mk p) := by kernel_rfl
theorem laws_eqMember_s : ∀ xs r, laws_eqMember_S xs = some (true, r) → runF tab FT D38 live 139 noLoops xs = some r := by
  intro xs r h
  unfold laws_eqMember_S at h
  split at h
  · simp only [Option.some.injEq, Prod.mk.injEq] at h
    obtain ⟨h1, rfl⟩ := h
    exact fun_told (laws_eqMember_e _ _ _ _ _ _ _ _ _ _ _ _ _ _ _ _ _ _ _ _ _ _) (laws_eqMember_l _ _ _ _ _ _ _ _ _ _ _ _ _ _ _ _ _ _ _ _ _ _) h1
  · cases h
noncomputable def D39 : Dt := also D38 139 laws_eqMember_S
theorem d39 : DOk Go.Proofs.Try.prog tab D39 := d38.also mixed_ok tab_ok names_ok noLoops_ok laws_eqMember_s
theorem laws_eqMember_cc {x0 : List UInt8} {x1 : Int} {x2 : Int} {x3 : Int} {x4 : Bool} {x5 : Bool} {x6 : List (List TC)} {x7 : List (List TC)} {x8 : List (List TC)} {x9 : List (List TC)} {x10 : Int} (h0 : (laws_eqType_rc x2 x3 x4 x5 x6 x7 x8 x9 x10 x2 x3 x4 x5 x6 x7 x8 x9 x10) = true) : (laws_eqMember_c x0 x1 x2 x3 x4 x5 x6 x7 x8 x9 x10 x0 x1 x2 x3 x4 x5 x6 x7 x8 x9 x10) = true := by
  unfold laws_eqMember_c
  simp [h0, laws_szType_rv, laws_toType_rv, spec_SameType_rv, impl_SameType_rv, laws_eqType_rv]
/-! laws_eqMemberS -/
abbrev laws_eqMemberS_4_σ := List (List TC) × List (List TC) × Int
abbrev laws_eqMemberS_4_ω := (Unit) ⊕ (Unit)
noncomputable def laws_eqMemberS_4_step (A : List (List TC)) (C : List (List TC)) (i : Int) : Tr (laws_eqMemberS_4_σ ⊕ laws_eqMemberS_4_ω) := (.ite ((decide (i < (A.length : Int))) = true) (.ite ((0 : Int) ≤ i ∧ i < (A.length : Int)) (.ite ((0 : Int) ≤ i ∧ i < (C.length : Int)) (.ite ((laws_eqMember_c ((nth (row A i) 0).str) ((nth (row A i) 1).int) ((nth (row A i) 2).int) ((nth (row A i) 3).int) ((nth (row A i) 4).bool) ((nth (row A i) 5).bool) ((nth (row A i) 6).list) ((nth (row A i) 7).list) ((nth (row A i) 8).list) ((nth (row A i) 9).list) ((nth (row A i) 10).int) ((nth (row C i) 0).str) ((nth (row C i) 1).int) ((nth (row C i) 2).int) ((nth (row C i) 3).int) ((nth (row C i) 4).bool) ((nth (row C i) 5).bool) ((nth (row C i) 6).list) ((nth (row C i) 7).list) ((nth (row C i) 8).list) ((nth (row C i) 9).list) ((nth (row C i) 10).int)) = true) (.ite ((!(laws_eqMember_v ((nth (row A i) 0).str) ((nth (row A i) 1).int) ((nth (row A i) 2).int) ((nth (row A i) 3).int) ((nth (row A i) 4).bool) ((nth (row A i) 5).bool) ((nth (row A i) 6).list) ((nth (row A i) 7).list) ((nth (row A i) 8).list) ((nth (row A i) 9).list) ((nth (row A i) 10).int) ((nth (row C i) 0).str) ((nth (row C i) 1).int) ((nth (row C i) 2).int) ((nth (row C i) 3).int) ((nth (row C i) 4).bool) ((nth (row C i) 5).bool) ((nth (row C i) 6).list) ((nth (row C i) 7).list) ((nth (row C i) 8).list) ((nth (row C i) 9).list) ((nth (row C i) 10).int))) = true) (.ok (.inr (.inl ())))
      (.ok (.inl (A, C, (IntKind.wrap .i64 (i + (1 : Int)))))))
     .no)
    .no)
   .no)
  (.ok (.inr (.inr ()))))
noncomputable def laws_eqMemberS_4_st : laws_eqMemberS_4_σ → Tr (laws_eqMemberS_4_σ ⊕ laws_eqMemberS_4_ω) := fun x => (laws_eqMemberS_4_step (x.1) (x.2.1) (x.2.2))
noncomputable def laws_eqMemberS_o4_1 (A : List (List TC)) (C : List (List TC)) (i : Int) : Bool := is (A = C ∧ Typed tab (.slice 147) (.l A) ∧ (∀ x : List TC, x ∈ A → (laws_eqMember_c ((nth x 0).str) ((nth x 1).int) ((nth x 2).int) ((nth x 3).int) ((nth x 4).bool) ((nth x 5).bool) ((nth x 6).list) ((nth x 7).list) ((nth x 8).list) ((nth x 9).list) ((nth x 10).int) ((nth x 0).str) ((nth x 1).int) ((nth x 2).int) ((nth x 3).int) ((nth x 4).bool) ((nth x 5).bool) ((nth x 6).list) ((nth x 7).list) ((nth x 8).list) ((nth x 9).list) ((nth x 10).int)) = true) ∧ i = 0)
noncomputable def laws_eqMemberS_4_fin (A : List (List TC)) (C : List (List TC)) (i : Int) : Told laws_eqMemberS_4_ω := (.leaf (laws_eqMemberS_o4_1 A C i) (.inr ()))
def laws_eqMemberS_4_sl (x : laws_eqMemberS_4_σ) : List Slot := [⟨.val false [⟨.slice 147, .sh, TC.l (x.1)⟩], ⟨0, 0⟩⟩, ⟨.val false [⟨.slice 147, .sh, TC.l (x.2.1)⟩], ⟨0, 0⟩⟩, ⟨.val false [⟨.int .i64, .sh, TC.i (x.2.2)⟩], ⟨0, 0⟩⟩]
def laws_eqMemberS_4_out : laws_eqMemberS_4_ω → Ex × List Slot := (Sum.elim (fun x => (.ret, [⟨.val false [⟨.bool, .sh, TC.b false⟩], ⟨0, 0⟩⟩])) (fun x => (.exit 0, [Slot.none])))
noncomputable def laws_eqMemberS_lo4 : List Slot → Option (Told (Ex × List Slot)) := fun s => match s with
  | [⟨.val false [⟨.slice 147, .sh, TC.l A⟩], ⟨0, 0⟩⟩, ⟨.val false [⟨.slice 147, .sh, TC.l C⟩], ⟨0, 0⟩⟩, ⟨.val false [⟨.int .i64, .sh, TC.i i⟩], ⟨0, 0⟩⟩] => some (((laws_eqMemberS_4_fin A C i)).map laws_eqMemberS_4_out)
  | _ => .none
noncomputable def laws_eqMemberS_lo : LoopTeller := fun r s => bif Nat.beq r 4 then laws_eqMemberS_lo4 s else .none
theorem laws_eqMemberS_4_r (A : List (List TC)) (C : List (List TC)) (i : Int) (fuel : Nat) : rounds (rnd tab FT D39 live 106 laws_eqMemberS_lo 0 4) leave (fuel + 1) (laws_eqMemberS_4_sl (A, C, i)) = ((laws_eqMemberS_4_step A C i)).run (goOn (fun s => rounds (rnd tab FT D39 live 106 laws_eqMemberS_lo 0 4) leave fuel (laws_eqMemberS_4_sl s)) fun w => some (laws_eqMemberS_4_out w)) := by kernel_rfl
theorem laws_eqMemberS_4_h (A : List (List TC)) (C : List (List TC)) (i : Int) (ow : laws_eqMemberS_4_ω) : ((laws_eqMemberS_4_fin A C i)).val = some ow → ∃ fuel, loopN laws_eqMemberS_4_st fuel (A, C, i) = some ow := by
  intro h
  refine auto_leaf (R := Sum.inr ()) (fun ho => ?_) h
  obtain ⟨rfl, ht, hr0, rfl⟩ := is_iff.1 ho
  have hlen : A.length ≤ 140737488351232 := by have := typed_room ht; simp only [show (tab 147).bytes = 152 from rfl] at this; omega
  refine ⟨_, loopN_run (N := A.length) (fun i => (A, A, (i : Int))) (fun i hi => ?_) ?_ A.length 0 (by omega)⟩
  · have c0 : Typed tab (.str) (.s (nth (A.getD i []) 0).str) := typed_s (typed_cell ht (A.getD i []) (mem_getD hi) 0 (by decide))
    have c6 : Typed tab (.slice 9) (.l (nth (A.getD i []) 6).list) := typed_list (typed_cell ht (A.getD i []) (mem_getD hi) 6 (by decide))
    have c7 : Typed tab (.slice 2) (.l (nth (A.getD i []) 7).list) := typed_list (typed_cell ht (A.getD i []) (mem_getD hi) 7 (by decide))
    have c8 : Typed tab (.slice 147) (.l (nth (A.getD i []) 8).list) := typed_list (typed_cell ht (A.getD i []) (mem_getD hi) 8 (by decide))
    have c9 : Typed tab (.slice 55) (.l (nth (A.getD i []) 9).list) := typed_list (typed_cell ht (A.getD i []) (mem_getD hi) 9 (by decide))
    show (laws_eqMemberS_4_step A A (i : Int)).val = _
    unfold laws_eqMemberS_4_step
    refine Tr.t (by simp; omega) ?_
    refine Tr.t (by first | omega | (constructor <;> omega)) ?_
    refine Tr.t (by first | omega | (constructor <;> omega)) ?_
    refine Tr.t (hr0 (A.getD i []) (mem_getD hi)) ?_
    refine Tr.n (by simp [impl_SameType_rv, laws_eqMember_v, laws_eqType_rv, laws_szType_rv, laws_toType_rv, spec_SameType_rv]) ?_
    rw [Tr.val_ok, wrap64 (i := (i : Int) + 1) (by omega) (by omega)]; rfl
  · show (laws_eqMemberS_4_step A A (A.length : Int)).val = _
    refine Tr.n (by simp) ?_
    rfl
theorem laws_eqMemberS_is4 : LoopIs tab FT D39 live 106 laws_eqMemberS_lo 0 4 := by
  refine loop_told (sl := laws_eqMemberS_4_sl) (step := laws_eqMemberS_4_st) (out := laws_eqMemberS_4_out) (lor := laws_eqMemberS_lo4) (fin := fun x => (laws_eqMemberS_4_fin (x.1) (x.2.1) (x.2.2))) (fun _ => rfl) ?_ (fun x n => laws_eqMemberS_4_r x.1 x.2.1 x.2.2 n) (fun x ow => laws_eqMemberS_4_h x.1 x.2.1 x.2.2 ow)
  intro s t h
  unfold laws_eqMemberS_lo4 at h
  split at h
  · cases h; exact ⟨(_, _, _), rfl, rfl⟩
  · cases h
noncomputable def laws_eqMemberS_t (A : List (List TC)) (C : List (List TC)) : Tr (Bool) := (.ite ((!((A.length : Int) == (C.length : Int))) = true) (.ok false)
  (.ite ((laws_eqMemberS_o4_1 A C (0 : Int)) = true) (.ok true)
   .no))
def laws_eqMemberS_mk (p : Bool) : Res := [(false, [⟨.bool, .sh, TC.b p⟩])]
noncomputable def laws_eqMemberS_c (A : List (List TC)) (C : List (List TC)) : Bool := is (A = C ∧ Typed tab (.slice 147) (.l A) ∧ (∀ x : List TC, x ∈ A → (laws_eqMember_c ((nth x 0).str) ((nth x 1).int) ((nth x 2).int) ((nth x 3).int) ((nth x 4).bool) ((nth x 5).bool) ((nth x 6).list) ((nth x 7).list) ((nth x 8).list) ((nth x 9).list) ((nth x 10).int) ((nth x 0).str) ((nth x 1).int) ((nth x 2).int) ((nth x 3).int) ((nth x 4).bool) ((nth x 5).bool) ((nth x 6).list) ((nth x 7).list) ((nth x 8).list) ((nth x 9).list) ((nth x 10).int)) = true))
noncomputable def laws_eqMemberS_v (A : List (List TC)) (C : List (List TC)) : Bool := true
theorem laws_eqMemberS_l (A : List (List TC)) (C : List (List TC)) : (laws_eqMemberS_c A C) = true → (laws_eqMemberS_t A C).val = some (laws_eqMemberS_v A C) := by
  intro h
  obtain ⟨rfl, ht, hr0⟩ := is_iff.1 h
  unfold laws_eqMemberS_t
  refine Tr.n (by simp) ?_
  refine Tr.t (is_true ⟨rfl, ht, hr0, rfl⟩) ?_
  rfl
noncomputable def laws_eqMemberS_S : List Arg → Option (Bool × Res) := fun xs => match xs with
  | [(false, [(.slice 147, TC.l A)]), (false, [(.slice 147, TC.l C)])] => some ((laws_eqMemberS_c A C), laws_eqMemberS_mk (laws_eqMemberS_v A C))
  | _ => .none
theorem laws_eqMemberS_e (A : List (List TC)) (C : List (List TC)) : runF tab FT D39 live 106 laws_eqMemberS_lo [(false, [(.slice 147, TC.l A)]), (false, [(.slice 147, TC.l C)])] = (laws_eqMemberS_t A C).run fun p => some (laws_eqMemberS_mk p) := by kernel_rfl
theorem laws_eqMemberS_s : ∀ xs r, laws_eqMemberS_S xs = some (true, r) → runF tab FT D39 live 106 laws_eqMemberS_lo xs = some r := by
  intro xs r h
  unfold laws_eqMemberS_S at h
  split at h
  · simp only [Option.some.injEq, Prod.mk.injEq] at h
    obtain ⟨h1, rfl⟩ := h
    exact fun_told (laws_eqMemberS_e _ _) (laws_eqMemberS_l _ _) h1
  · cases h
noncomputable def D40 : Dt := also D39 106 laws_eqMemberS_S
theorem d40 : DOk Go.Proofs.Try.prog tab D40 := d39.also mixed_ok tab_ok names_ok (fnLoops_one (by kernel_rfl) laws_eqMemberS_is4) laws_eqMemberS_s
/-! laws_eqTypeS -/
abbrev laws_eqTypeS_4_σ := List (List TC) × List (List TC) × Int
abbrev laws_eqTypeS_4_ω := (Unit) ⊕ (Unit)
noncomputable def laws_eqTypeS_4_step (A : List (List TC)) (C : List (List TC)) (i : Int) : Tr (laws_eqTypeS_4_σ ⊕ laws_eqTypeS_4_ω) := (.ite ((decide (i < (A.length : Int))) = true) (.ite ((0 : Int) ≤ i ∧ i < (A.length : Int)) (.ite ((0 : Int) ≤ i ∧ i < (C.length : Int)) (.ite ((laws_eqType_rc ((nth (row A i) 0).int) ((nth (row A i) 1).int) ((nth (row A i) 2).bool) ((nth (row A i) 3).bool) ((nth (row A i) 4).list) ((nth (row A i) 5).list) ((nth (row A i) 6).list) ((nth (row A i) 7).list) ((nth (row A i) 8).int) ((nth (row C i) 0).int) ((nth (row C i) 1).int) ((nth (row C i) 2).bool) ((nth (row C i) 3).bool) ((nth (row C i) 4).list) ((nth (row C i) 5).list) ((nth (row C i) 6).list) ((nth (row C i) 7).list) ((nth (row C i) 8).int)) = true) (.ite ((!(laws_eqType_rv ((nth (row A i) 0).int) ((nth (row A i) 1).int) ((nth (row A i) 2).bool) ((nth (row A i) 3).bool) ((nth (row A i) 4).list) ((nth (row A i) 5).list) ((nth (row A i) 6).list) ((nth (row A i) 7).list) ((nth (row A i) 8).int) ((nth (row C i) 0).int) ((nth (row C i) 1).int) ((nth (row C i) 2).bool) ((nth (row C i) 3).bool) ((nth (row C i) 4).list) ((nth (row C i) 5).list) ((nth (row C i) 6).list) ((nth (row C i) 7).list) ((nth (row C i) 8).int))) = true) (.ok (.inr (.inl ())))
      (.ok (.inl (A, C, (IntKind.wrap .i64 (i + (1 : Int)))))))
     .no)
    .no)
   .no)
  (.ok (.inr (.inr ()))))
noncomputable def laws_eqTypeS_4_st : laws_eqTypeS_4_σ → Tr (laws_eqTypeS_4_σ ⊕ laws_eqTypeS_4_ω) := fun x => (laws_eqTypeS_4_step (x.1) (x.2.1) (x.2.2))
noncomputable def laws_eqTypeS_o4_1 (A : List (List TC)) (C : List (List TC)) (i : Int) : Bool := is (A = C ∧ Typed tab (.slice 55) (.l A) ∧ (∀ x : List TC, x ∈ A → (laws_eqType_rc ((nth x 0).int) ((nth x 1).int) ((nth x 2).bool) ((nth x 3).bool) ((nth x 4).list) ((nth x 5).list) ((nth x 6).list) ((nth x 7).list) ((nth x 8).int) ((nth x 0).int) ((nth x 1).int) ((nth x 2).bool) ((nth x 3).bool) ((nth x 4).list) ((nth x 5).list) ((nth x 6).list) ((nth x 7).list) ((nth x 8).int)) = true) ∧ i = 0)
noncomputable def laws_eqTypeS_4_fin (A : List (List TC)) (C : List (List TC)) (i : Int) : Told laws_eqTypeS_4_ω := (.leaf (laws_eqTypeS_o4_1 A C i) (.inr ()))
def laws_eqTypeS_4_sl (x : laws_eqTypeS_4_σ) : List Slot := [⟨.val false [⟨.slice 55, .sh, TC.l (x.1)⟩], ⟨0, 0⟩⟩, ⟨.val false [⟨.slice 55, .sh, TC.l (x.2.1)⟩], ⟨0, 0⟩⟩, ⟨.val false [⟨.int .i64, .sh, TC.i (x.2.2)⟩], ⟨0, 0⟩⟩]
def laws_eqTypeS_4_out : laws_eqTypeS_4_ω → Ex × List Slot := (Sum.elim (fun x => (.ret, [⟨.val false [⟨.bool, .sh, TC.b false⟩], ⟨0, 0⟩⟩])) (fun x => (.exit 0, [Slot.none])))
noncomputable def laws_eqTypeS_lo4 : List Slot → Option (Told (Ex × List Slot)) := fun s => match s with
  | [⟨.val false [⟨.slice 55, .sh, TC.l A⟩], ⟨0, 0⟩⟩, ⟨.val false [⟨.slice 55, .sh, TC.l C⟩], ⟨0, 0⟩⟩, ⟨.val false [⟨.int .i64, .sh, TC.i i⟩], ⟨0, 0⟩⟩] => some (((laws_eqTypeS_4_fin A C i)).map laws_eqTypeS_4_out)
  | _ => .none
noncomputable def laws_eqTypeS_lo : LoopTeller := fun r s => bif Nat.beq r 4 then laws_eqTypeS_lo4 s else .none
theorem laws_eqTypeS_4_r (A : List (List TC)) (C : List (List TC)) (i : Int) (fuel : Nat) : rounds (rnd tab FT D40 live 107 laws_eqTypeS_lo 0 4) leave (fuel + 1) (laws_eqTypeS_4_sl (A, C, i)) = ((laws_eqTypeS_4_step A C i)).run (goOn (fun s => rounds (rnd tab FT D40 live 107 laws_eqTypeS_lo 0 4) leave fuel (laws_eqTypeS_4_sl s)) fun w => some (laws_eqTypeS_4_out w)) := by kernel_rfl
theorem laws_eqTypeS_4_h (A : List (List TC)) (C : List (List TC)) (i : Int) (ow : laws_eqTypeS_4_ω) : ((laws_eqTypeS_4_fin A C i)).val = some ow → ∃ fuel, loopN laws_eqTypeS_4_st fuel (A, C, i) = some ow := by
  intro h
  refine auto_leaf (R := Sum.inr ()) (fun ho => ?_) h
  obtain ⟨rfl, ht, hr0, rfl⟩ := is_iff.1 ho
  have hlen : A.length ≤ 140737488351232 := by have := typed_room ht; simp only [show (tab 55).bytes = 128 from rfl] at this; omega
  refine ⟨_, loopN_run (N := A.length) (fun i => (A, A, (i : Int))) (fun i hi => ?_) ?_ A.length 0 (by omega)⟩
  · have c4 : Typed tab (.slice 9) (.l (nth (A.getD i []) 4).list) := typed_list (typed_cell ht (A.getD i []) (mem_getD hi) 4 (by decide))
    have c5 : Typed tab (.slice 2) (.l (nth (A.getD i []) 5).list) := typed_list (typed_cell ht (A.getD i []) (mem_getD hi) 5 (by decide))
    have c6 : Typed tab (.slice 147) (.l (nth (A.getD i []) 6).list) := typed_list (typed_cell ht (A.getD i []) (mem_getD hi) 6 (by decide))
    have c7 : Typed tab (.slice 55) (.l (nth (A.getD i []) 7).list) := typed_list (typed_cell ht (A.getD i []) (mem_getD hi) 7 (by decide))
    show (laws_eqTypeS_4_step A A (i : Int)).val = _
    unfold laws_eqTypeS_4_step
    refine Tr.t (by simp; omega) ?_
    refine Tr.t (by first | omega | (constructor <;> omega)) ?_
    refine Tr.t (by first | omega | (constructor <;> omega)) ?_
    refine Tr.t (hr0 (A.getD i []) (mem_getD hi)) ?_
    refine Tr.n (by simp [impl_SameType_rv, laws_eqType_rv, laws_szType_rv, laws_toType_rv, spec_SameType_rv]) ?_
    rw [Tr.val_ok, wrap64 (i := (i : Int) + 1) (by omega) (by omega)]; rfl
  · show (laws_eqTypeS_4_step A A (A.length : Int)).val = _
    refine Tr.n (by simp) ?_
    rfl
theorem laws_eqTypeS_is4 : LoopIs tab FT D40 live 107 laws_eqTypeS_lo 0 4 := by
  refine loop_told (sl := laws_eqTypeS_4_sl) (step := laws_eqTypeS_4_st) (out := laws_eqTypeS_4_out) (lor := laws_eqTypeS_lo4) (fin := fun x => (laws_eqTypeS_4_fin (x.1) (x.2.1) (x.2.2))) (fun _ => rfl) ?_ (fun x n => laws_eqTypeS_4_r x.1 x.2.1 x.2.2 n) (fun x ow => laws_eqTypeS_4_h x.1 x.2.1 x.2.2 ow)
  intro s t h
  unfold laws_eqTypeS_lo4 at h
  split at h
  · cases h; exact ⟨(_, _, _), rfl, rfl⟩
  · cases h
noncomputable def laws_eqTypeS_t (A : List (List TC)) (C : List (List TC)) : Tr (Bool) := (.ite ((!((A.length : Int) == (C.length : Int))) = true) (.ok false)
  (.ite ((laws_eqTypeS_o4_1 A C (0 : Int)) = true) (.ok true)
   .no))
def laws_eqTypeS_mk (p : Bool) : Res := [(false, [⟨.bool, .sh, TC.b p⟩])]
noncomputable def laws_eqTypeS_c (A : List (List TC)) (C : List (List TC)) : Bool := is (A = C ∧ Typed tab (.slice 55) (.l A) ∧ (∀ x : List TC, x ∈ A → (laws_eqType_rc ((nth x 0).int) ((nth x 1).int) ((nth x 2).bool) ((nth x 3).bool) ((nth x 4).list) ((nth x 5).list) ((nth x 6).list) ((nth x 7).list) ((nth x 8).int) ((nth x 0).int) ((nth x 1).int) ((nth x 2).bool) ((nth x 3).bool) ((nth x 4).list) ((nth x 5).list) ((nth x 6).list) ((nth x 7).list) ((nth x 8).int)) = true))
noncomputable def laws_eqTypeS_v (A : List (List TC)) (C : List (List TC)) : Bool := true
theorem laws_eqTypeS_l (A : List (List TC)) (C : List (List TC)) : (laws_eqTypeS_c A C) = true → (laws_eqTypeS_t A C).val = some (laws_eqTypeS_v A C) := by
  intro h
  obtain ⟨rfl, ht, hr0⟩ := is_iff.1 h
  unfold laws_eqTypeS_t
  refine Tr.n (by simp) ?_
  refine Tr.t (is_true ⟨rfl, ht, hr0, rfl⟩) ?_
  rfl
noncomputable def laws_eqTypeS_S : List Arg → Option (Bool × Res) := fun xs => match xs with
  | [(false, [(.slice 55, TC.l A)]), (false, [(.slice 55, TC.l C)])] => some ((laws_eqTypeS_c A C), laws_eqTypeS_mk (laws_eqTypeS_v A C))
  | _ => .none
theorem laws_eqTypeS_e (A : List (List TC)) (C : List (List TC)) : runF tab FT D40 live 107 laws_eqTypeS_lo [(false, [(.slice 55, TC.l A)]), (false, [(.slice 55, TC.l C)])] = (laws_eqTypeS_t A C).run fun p => some (laws_eqTypeS_mk p) := by kernel_rfl
theorem laws_eqTypeS_s : ∀ xs r, laws_eqTypeS_S xs = some (true, r) → runF tab FT D40 live 107 laws_eqTypeS_lo xs = some r := by
  intro xs r h
  unfold laws_eqTypeS_S at h
  split at h
  · simp only [Option.some.injEq, Prod.mk.injEq] at h
    obtain ⟨h1, rfl⟩ := h
    exact fun_told (laws_eqTypeS_e _ _) (laws_eqTypeS_l _ _) h1
  · cases h
noncomputable def D41 : Dt := also D40 107 laws_eqTypeS_S
theorem d41 : DOk Go.Proofs.Try.prog tab D41 := d40.also mixed_ok tab_ok names_ok (fnLoops_one (by kernel_rfl) laws_eqTypeS_is4) laws_eqTypeS_s
/-! laws_eqType -/
noncomputable def laws_eqType_t (x0 : Int) (x1 : Int) (x2 : Bool) (x3 : Bool) (x4 : List (List TC)) (x5 : List (List TC)) (x6 : List (List TC)) (x7 : List (List TC)) (x8 : Int) (y0 : Int) (y1 : Int) (y2 : Bool) (y3 : Bool) (y4 : List (List TC)) (y5 : List (List TC)) (y6 : List (List TC)) (y7 : List (List TC)) (y8 : Int) : Tr (Bool) := (.ite ((!(x0 == y0)) = true) (.ok false)
  (.ite ((!(x1 == y1)) = true) (.ok false)
   (.ite ((!(x2 == y2)) = true) (.ok false)
    (.ite ((!(x3 == y3)) = true) (.ok false)
     (.ite ((laws_eqStringS_c x4 y4) = true) (.ite ((!(laws_eqStringS_v x4 y4)) = true) (.ok false)
       (.ite ((laws_eqInt64S_c x5 y5) = true) (.ite ((!(laws_eqInt64S_v x5 y5)) = true) (.ok false)
         (.ite ((laws_eqMemberS_c x6 y6) = true) (.ite ((!(laws_eqMemberS_v x6 y6)) = true) (.ok false)
           (.ite ((laws_eqTypeS_c x7 y7) = true) (.ite ((!(laws_eqTypeS_v x7 y7)) = true) (.ok false)
             (.ite ((!(x8 == y8)) = true) (.ok false)
              (.ok true)))
            .no))
          .no))
        .no))
      .no)))))
def laws_eqType_mk (p : Bool) : Res := [(false, [⟨.bool, .sh, TC.b p⟩])]
noncomputable def laws_eqType_c (x0 : Int) (x1 : Int) (x2 : Bool) (x3 : Bool) (x4 : List (List TC)) (x5 : List (List TC)) (x6 : List (List TC)) (x7 : List (List TC)) (x8 : Int) (y0 : Int) (y1 : Int) (y2 : Bool) (y3 : Bool) (y4 : List (List TC)) (y5 : List (List TC)) (y6 : List (List TC)) (y7 : List (List TC)) (y8 : Int) : Bool := (bif (!(x0 == y0)) then true else (bif (!(x1 == y1)) then true else (bif (!(x2 == y2)) then true else (bif (!(x3 == y3)) then true else ((laws_eqStringS_c x4 y4) && (bif (!(laws_eqStringS_v x4 y4)) then true else ((laws_eqInt64S_c x5 y5) && (bif (!(laws_eqInt64S_v x5 y5)) then true else ((laws_eqMemberS_c x6 y6) && (bif (!(laws_eqMemberS_v x6 y6)) then true else ((laws_eqTypeS_c x7 y7) && (bif (!(laws_eqTypeS_v x7 y7)) then true else (bif (!(x8 == y8)) then true else true)))))))))))))
noncomputable def laws_eqType_v (x0 : Int) (x1 : Int) (x2 : Bool) (x3 : Bool) (x4 : List (List TC)) (x5 : List (List TC)) (x6 : List (List TC)) (x7 : List (List TC)) (x8 : Int) (y0 : Int) (y1 : Int) (y2 : Bool) (y3 : Bool) (y4 : List (List TC)) (y5 : List (List TC)) (y6 : List (List TC)) (y7 : List (List TC)) (y8 : Int) : Bool := (bif (!(x0 == y0)) then false else (bif (!(x1 == y1)) then false else (bif (!(x2 == y2)) then false else (bif (!(x3 == y3)) then false else (bif (!(laws_eqStringS_v x4 y4)) then false else (bif (!(laws_eqInt64S_v x5 y5)) then false else (bif (!(laws_eqMemberS_v x6 y6)) then false else (bif (!(laws_eqTypeS_v x7 y7)) then false else (bif (!(x8 == y8)) then false else true)))))))))
theorem laws_eqType_l (x0 : Int) (x1 : Int) (x2 : Bool) (x3 : Bool) (x4 : List (List TC)) (x5 : List (List TC)) (x6 : List (List TC)) (x7 : List (List TC)) (x8 : Int) (y0 : Int) (y1 : Int) (y2 : Bool) (y3 : Bool) (y4 : List (List TC)) (y5 : List (List TC)) (y6 : List (List TC)) (y7 : List (List TC)) (y8 : Int) : (laws_eqType_c x0 x1 x2 x3 x4 x5 x6 x7 x8 y0 y1 y2 y3 y4 y5 y6 y7 y8) = true → (laws_eqType_t x0 x1 x2 x3 x4 x5 x6 x7 x8 y0 y1 y2 y3 y4 y5 y6 y7 y8).val = some (laws_eqType_v x0 x1 x2 x3 x4 x5 x6 x7 x8 y0 y1 y2 y3 y4 y5 y6 y7 y8) := by
  unfold laws_eqType_t laws_eqType_v laws_eqType_c
  exact fun h => (Tr.ss h (fun h => rfl) (fun h => (Tr.ss h (fun h => rfl) (fun h => (Tr.ss h (fun h => rfl) (fun h => (Tr.ss h (fun h => rfl) (fun h => (Tr.gb h fun h => (Tr.ss h (fun h => rfl) (fun h => (Tr.gb h fun h => (Tr.ss h (fun h => rfl) (fun h => (Tr.gb h fun h => (Tr.ss h (fun h => rfl) (fun h => (Tr.gb h fun h => (Tr.ss h (fun h => rfl) (fun h => (Tr.ss h (fun h => rfl) (fun h => rfl))))))))))))))))))))))
noncomputable def laws_eqType_S : List Arg → Option (Bool × Res) := fun xs => match xs with
  | [(true, [(.int .i64, TC.i x0), (.int .i64, TC.i x1), (.bool, TC.b x2), (.bool, TC.b x3), (.slice 9, TC.l x4), (.slice 2, TC.l x5), (.slice 147, TC.l x6), (.slice 55, TC.l x7), (.int .i64, TC.i x8)]), (true, [(.int .i64, TC.i y0), (.int .i64, TC.i y1), (.bool, TC.b y2), (.bool, TC.b y3), (.slice 9, TC.l y4), (.slice 2, TC.l y5), (.slice 147, TC.l y6), (.slice 55, TC.l y7), (.int .i64, TC.i y8)])] => some ((laws_eqType_c x0 x1 x2 x3 x4 x5 x6 x7 x8 y0 y1 y2 y3 y4 y5 y6 y7 y8), laws_eqType_mk (laws_eqType_v x0 x1 x2 x3 x4 x5 x6 x7 x8 y0 y1 y2 y3 y4 y5 y6 y7 y8))
  | _ => .none
theorem laws_eqType_e (x0 : Int) (x1 : Int) (x2 : Bool) (x3 : Bool) (x4 : List (List TC)) (x5 : List (List TC)) (x6 : List (List TC)) (x7 : List (List TC)) (x8 : Int) (y0 : Int) (y1 : Int) (y2 : Bool) (y3 : Bool) (y4 : List (List TC)) (y5 : List (List TC)) (y6 : List (List TC)) (y7 : List (List TC)) (y8 : Int) : runF tab FT D41 live 76 noLoops [(true, [(.int .i64, TC.i x0), (.int .i64, TC.i x1), (.bool, TC.b x2), (.bool, TC.b x3), (.slice 9, TC.l x4), (.slice 2, TC.l x5), (.slice 147, TC.l x6), (.slice 55, TC.l x7), (.int .i64, TC.i x8)]), (true, [(.int .i64, TC.i y0), (.int .i64, TC.i y1), (.bool, TC.b y2), (.bool, TC.b y3), (.slice 9, TC.l y4), (.slice 2, TC.l y5), (.slice 147, TC.l y6), (.slice 55, TC.l y7), (.int .i64, TC.i y8)])] = (laws_eqType_t x0 x1 x2 x3 x4 x5 x6 x7 x8 y0 y1 y2 y3 y4 y5 y6 y7 y8).run fun p => some (laws_eqType_mk p) := by kernel_rfl
theorem laws_eqType_s : ∀ xs r, laws_eqType_S xs = some (true, r) → runF tab FT D41 live 76 noLoops xs = some r := by
  intro xs r h
  unfold laws_eqType_S at h
  split at h
  · simp only [Option.some.injEq, Prod.mk.injEq] at h
    obtain ⟨h1, rfl⟩ := h
    exact fun_told (laws_eqType_e _ _ _ _ _ _ _ _ _ _ _ _ _ _ _ _ _ _) (laws_eqType_l _ _ _ _ _ _ _ _ _ _ _ _ _ _ _ _ _ _) h1
  · cases h
theorem laws_eqType_nx (x0 : Int) (x1 : Int) (x2 : Bool) (x3 : Bool) (x4 : List (List TC)) (x5 : List (List TC)) (x6 : List (List TC)) (x7 : List (List TC)) (x8 : Int) (y0 : Int) (y1 : Int) (y2 : Bool) (y3 : Bool) (y4 : List (List TC)) (y5 : List (List TC)) (y6 : List (List TC)) (y7 : List (List TC)) (y8 : Int) : is (max (rowsDep x6) (rowsDep x7) < laws_eqType_O.n + 1 ∧ x0 = y0 ∧ x1 = y1 ∧ x2 = y2 ∧ x3 = y3 ∧ x4 = y4 ∧ x5 = y5 ∧ x6 = y6 ∧ x7 = y7 ∧ x8 = y8 ∧ Typed tab (.slice 9) (.l x4) ∧ Typed tab (.slice 2) (.l x5) ∧ Typed tab (.slice 147) (.l x6) ∧ Typed tab (.slice 55) (.l x7)) = true → (laws_eqType_c x0 x1 x2 x3 x4 x5 x6 x7 x8 y0 y1 y2 y3 y4 y5 y6 y7 y8) = true ∧ (laws_eqType_v x0 x1 x2 x3 x4 x5 x6 x7 x8 y0 y1 y2 y3 y4 y5 y6 y7 y8) = true := by
  intro h
  obtain ⟨hM, rfl, rfl, rfl, rfl, rfl, rfl, rfl, rfl, rfl, t4, t5, t6, t7⟩ := is_iff.1 h
  have c4 : laws_eqStringS_c x4 x4 = true := is_true ⟨rfl, t4⟩
  have c5 : laws_eqInt64S_c x5 x5 = true := is_true ⟨rfl, t5⟩
  have c6 : laws_eqMemberS_c x6 x6 = true := is_true ⟨rfl, t6, fun x hx => laws_eqMember_cc (is_true ⟨by have a := dep_cell hx 8; have b := dep_cell hx 9; omega, rfl, rfl, rfl, rfl, rfl, rfl, rfl, rfl, rfl, typed_list ((typed_elem t6 hx).2 6 (by decide)), typed_list ((typed_elem t6 hx).2 7 (by decide)), typed_list ((typed_elem t6 hx).2 8 (by decide)), typed_list ((typed_elem t6 hx).2 9 (by decide))⟩)⟩
  have c7 : laws_eqTypeS_c x7 x7 = true := is_true ⟨rfl, t7, fun x hx => is_true ⟨by have a := dep_cell hx 6; have b := dep_cell hx 7; omega, rfl, rfl, rfl, rfl, rfl, rfl, rfl, rfl, rfl, typed_list ((typed_elem t7 hx).2 4 (by decide)), typed_list ((typed_elem t7 hx).2 5 (by decide)), typed_list ((typed_elem t7 hx).2 6 (by decide)), typed_list ((typed_elem t7 hx).2 7 (by decide))⟩⟩
  constructor
  · unfold laws_eqType_c
    simp only [c4, c5, c6, c7, laws_eqStringS_v, laws_eqInt64S_v, laws_eqMemberS_v, laws_eqTypeS_v, beq_self_eq_true, Bool.not_true, cond_false, Bool.and_self]
  · unfold laws_eqType_v
    simp only [laws_eqStringS_v, laws_eqInt64S_v, laws_eqMemberS_v, laws_eqTypeS_v, beq_self_eq_true, Bool.not_true, cond_false]
theorem laws_eqType_nxr (x0 : Int) (x1 : Int) (x2 : Bool) (x3 : Bool) (x4 : List (List TC)) (x5 : List (List TC)) (x6 : List (List TC)) (x7 : List (List TC)) (x8 : Int) (y0 : Int) (y1 : Int) (y2 : Bool) (y3 : Bool) (y4 : List (List TC)) (y5 : List (List TC)) (y6 : List (List TC)) (y7 : List (List TC)) (y8 : Int) : laws_eqType_rc (i_laws_eqType := ⟨laws_eqType_O.n + 1⟩) x0 x1 x2 x3 x4 x5 x6 x7 x8 y0 y1 y2 y3 y4 y5 y6 y7 y8 = true → (laws_eqType_c x0 x1 x2 x3 x4 x5 x6 x7 x8 y0 y1 y2 y3 y4 y5 y6 y7 y8) = true ∧ (laws_eqType_v x0 x1 x2 x3 x4 x5 x6 x7 x8 y0 y1 y2 y3 y4 y5 y6 y7 y8) = (laws_eqType_rv x0 x1 x2 x3 x4 x5 x6 x7 x8 y0 y1 y2 y3 y4 y5 y6 y7 y8) := fun h => laws_eqType_nx x0 x1 x2 x3 x4 x5 x6 x7 x8 y0 y1 y2 y3 y4 y5 y6 y7 y8 h
theorem laws_eqType_rs : ∀ xs r, laws_eqType_rS (i_laws_eqType := ⟨laws_eqType_O.n + 1⟩) xs = some (true, r) → runF tab FT D41 live 76 noLoops xs = some r := by
  intro xs r h
  unfold laws_eqType_rS at h
  split at h
  · simp only [Option.some.injEq, Prod.mk.injEq] at h
    obtain ⟨h1, rfl⟩ := h
    have hx := laws_eqType_nxr _ _ _ _ _ _ _ _ _ _ _ _ _ _ _ _ _ _ h1
    have ht := fun_told (laws_eqType_e _ _ _ _ _ _ _ _ _ _ _ _ _ _ _ _ _ _) (laws_eqType_l _ _ _ _ _ _ _ _ _ _ _ _ _ _ _ _ _ _) hx.1
    rw [hx.2] at ht
    exact ht
  · cases h
theorem laws_eqType_step : laws_eqType_G (i_laws_eqType := ⟨laws_eqType_O.n + 1⟩) := by
  have h := DOk.also2 (S := laws_eqType_rS (i_laws_eqType := ⟨laws_eqType_O.n + 1⟩)) mixed_ok tab_ok names_ok d37 d41 noLoops_ok laws_eqType_rs
  refine laws_eqType_G.mk (i_laws_eqType := ⟨laws_eqType_O.n + 1⟩) ?_
  exact h
/-! laws_eqSpace -/
noncomputable def laws_eqSpace_t (x0 : List (List TC)) (x1 : List (List TC)) (y0 : List (List TC)) (y1 : List (List TC)) : Tr (Bool) := (.ite ((laws_eqInt64S_c x0 y0) = true) (.ite ((!(laws_eqInt64S_v x0 y0)) = true) (.ok false)
   (.ite ((laws_eqInt64S_c x1 y1) = true) (.ite ((!(laws_eqInt64S_v x1 y1)) = true) (.ok false)
     (.ok true))
    .no))
  .no)
def laws_eqSpace_mk (p : Bool) : Res := [(false, [⟨.bool, .sh, TC.b p⟩])]
noncomputable def laws_eqSpace_c (x0 : List (List TC)) (x1 : List (List TC)) (y0 : List (List TC)) (y1 : List (List TC)) : Bool := is (x0 = y0 ∧ x1 = y1 ∧ Typed tab (.slice 2) (.l x0) ∧ Typed tab (.slice 2) (.l x1))
noncomputable def laws_eqSpace_v (x0 : List (List TC)) (x1 : List (List TC)) (y0 : List (List TC)) (y1 : List (List TC)) : Bool := true
theorem laws_eqSpace_l (x0 : List (List TC)) (x1 : List (List TC)) (y0 : List (List TC)) (y1 : List (List TC)) : (laws_eqSpace_c x0 x1 y0 y1) = true → (laws_eqSpace_t x0 x1 y0 y1).val = some (laws_eqSpace_v x0 x1 y0 y1) := by
  intro h
  obtain ⟨rfl, rfl, t0, t1⟩ := is_iff.1 h
  unfold laws_eqSpace_t
  refine Tr.t (by first | (apply is_true; and_intros <;> (first | rfl | assumption | (apply laws_szStringS_cc <;> assumption) | (apply laws_szMember_cc <;> assumption) | (apply laws_szMemberS_cc <;> assumption) | (apply laws_szTypeS_cc <;> assumption) | (apply laws_szSpace_cc <;> assumption) | (apply laws_szDataset_cc <;> assumption) | (first | (apply is_true; and_intros <;> (first | rfl | assumption | (apply laws_szStringS_cc <;> assumption) | (apply laws_szMember_cc <;> assumption) | (apply laws_szMemberS_cc <;> assumption) | (apply laws_szTypeS_cc <;> assumption) | (apply laws_szSpace_cc <;> assumption) | (apply laws_szDataset_cc <;> assumption) | (first | (apply is_true; and_intros <;> (first | rfl | assumption | (apply laws_szStringS_cc <;> assumption) | (apply laws_szMember_cc <;> assumption) | (apply laws_szMemberS_cc <;> assumption) | (apply laws_szTypeS_cc <;> assumption) | (apply laws_szSpace_cc <;> assumption) | (apply laws_szDataset_cc <;> assumption) | (first | (apply is_true; and_intros <;> (first | rfl | assumption | (apply laws_szStringS_cc <;> assumption) | (apply laws_szMember_cc <;> assumption) | (apply laws_szMemberS_cc <;> assumption) | (apply laws_szTypeS_cc <;> assumption) | (apply laws_szSpace_cc <;> assumption) | (apply laws_szDataset_cc <;> assumption))) | (apply laws_szStringS_cc <;> assumption) | (apply laws_szMember_cc <;> assumption) | (apply laws_szMemberS_cc <;> assumption) | (apply laws_szTypeS_cc <;> assumption) | (apply laws_szSpace_cc <;> assumption) | (apply laws_szDataset_cc <;> assumption)))) | (apply laws_szStringS_cc <;> assumption) | (apply laws_szMember_cc <;> assumption) | (apply laws_szMemberS_cc <;> assumption) | (apply laws_szTypeS_cc <;> assumption) | (apply laws_szSpace_cc <;> assumption) | (apply laws_szDataset_cc <;> assumption)))) | (apply laws_szStringS_cc <;> assumption) | (apply laws_szMember_cc <;> assumption) | (apply laws_szMemberS_cc <;> assumption) | (apply laws_szTypeS_cc <;> assumption) | (apply laws_szSpace_cc <;> assumption) | (apply laws_szDataset_cc <;> assumption)))) | (apply laws_szStringS_cc <;> assumption) | (apply laws_szMember_cc <;> assumption) | (apply laws_szMemberS_cc <;> assumption) | (apply laws_szTypeS_cc <;> assumption) | (apply laws_szSpace_cc <;> assumption) | (apply laws_szDataset_cc <;> assumption)) ?_
  refine Tr.n (by simp [laws_eqInt64S_v]) ?_
  refine Tr.t (by first | (apply is_true; and_intros <;> (first | rfl | assumption | (apply laws_szStringS_cc <;> assumption) | (apply laws_szMember_cc <;> assumption) | (apply laws_szMemberS_cc <;> assumption) | (apply laws_szTypeS_cc <;> assumption) | (apply laws_szSpace_cc <;> assumption) | (apply laws_szDataset_cc <;> assumption) | (first | (apply is_true; and_intros <;> (first | rfl | assumption | (apply laws_szStringS_cc <;> assumption) | (apply laws_szMember_cc <;> assumption) | (apply laws_szMemberS_cc <;> assumption) | (apply laws_szTypeS_cc <;> assumption) | (apply laws_szSpace_cc <;> assumption) | (apply laws_szDataset_cc <;> assumption) | (first | (apply is_true; and_intros <;> (first | rfl | assumption | (apply laws_szStringS_cc <;> assumption) | (apply laws_szMember_cc <;> assumption) | (apply laws_szMemberS_cc <;> assumption) | (apply laws_szTypeS_cc <;> assumption) | (apply laws_szSpace_cc <;> assumption) | (apply laws_szDataset_cc <;> assumption) | (first | (apply is_true; and_intros <;> (first | rfl | assumption | (apply laws_szStringS_cc <;> assumption) | (apply laws_szMember_cc <;> assumption) | (apply laws_szMemberS_cc <;> assumption) | (apply laws_szTypeS_cc <;> assumption) | (apply laws_szSpace_cc <;> assumption) | (apply laws_szDataset_cc <;> assumption))) | (apply laws_szStringS_cc <;> assumption) | (apply laws_szMember_cc <;> assumption) | (apply laws_szMemberS_cc <;> assumption) | (apply laws_szTypeS_cc <;> assumption) | (apply laws_szSpace_cc <;> assumption) | (apply laws_szDataset_cc <;> assumption)))) | (apply laws_szStringS_cc <;> assumption) | (apply laws_szMember_cc <;> assumption) | (apply laws_szMemberS_cc <;> assumption) | (apply laws_szTypeS_cc <;> assumption) | (apply laws_szSpace_cc <;> assumption) | (apply laws_szDataset_cc <;> assumption)))) | (apply laws_szStringS_cc <;> assumption) | (apply laws_szMember_cc <;> assumption) | (apply laws_szMemberS_cc <;> assumption) | (apply laws_szTypeS_cc <;> assumption) | (apply laws_szSpace_cc <;> assumption) | (apply laws_szDataset_cc <;> assumption)))) | (apply laws_szStringS_cc <;> assumption) | (apply laws_szMember_cc <;> assumption) | (apply laws_szMemberS_cc <;> assumption) | (apply laws_szTypeS_cc <;> assumption) | (apply laws_szSpace_cc <;> assumption) | (apply laws_szDataset_cc <;> assumption)) ?_
  refine Tr.n (by simp [laws_eqInt64S_v]) ?_
  rfl
noncomputable def laws_eqSpace_S : List Arg → Option (Bool × Res) := fun xs => match xs with
  | [(true, [(.slice 2, TC.l x0), (.slice 2, TC.l x1)]), (true, [(.slice 2, TC.l y0), (.slice 2, TC.l y1)])] => some ((laws_eqSpace_c x0 x1 y0 y1), laws_eqSpace_mk (laws_eqSpace_v x0 x1 y0 y1))
  | _ => .none
theorem laws_eqSpace_e (x0 : List (List TC)) (x1 : List (List TC)) (y0 : List (List TC)) (y1 : List (List TC)) : runF tab FT D41 live 77 noLoops [(true, [(.slice 2, TC.l x0), (.slice 2, TC.l x1)]), (true, [(.slice 2, TC.l y0), (.slice 2, TC.l y1)])] = (laws_eqSpace_t x0 x1 y0 y1).run fun p => some (laws_eqSpace_mk p) := by kernel_rfl
theorem laws_eqSpace_s : ∀ xs r, laws_eqSpace_S xs = some (true, r) → runF tab FT D41 live 77 noLoops xs = some r := by
  intro xs r h
  unfold laws_eqSpace_S at h
  split at h
  · simp only [Option.some.injEq, Prod.mk.injEq] at h
    obtain ⟨h1, rfl⟩ := h
    exact fun_told (laws_eqSpace_e _ _ _ _) (laws_eqSpace_l _ _ _ _) h1
  · cases h
noncomputable def D42 : Dt := also D41 77 laws_eqSpace_S
theorem d42 : DOk Go.Proofs.Try.prog tab D42 := d41.also mixed_ok tab_ok names_ok noLoops_ok laws_eqSpace_s
/-! laws_eqFilter -/
noncomputable def laws_eqFilter_t (x0 : Int) (x1 : Int) (x2 : Bool) (y0 : Int) (y1 : Int) (y2 : Bool) : Tr (Bool) := (.ite ((!(x0 == y0)) = true) (.ok false)
  (.ite ((!(x1 == y1)) = true) (.ok false)
   (.ite ((!(x2 == y2)) = true) (.ok false)
    (.ok true))))
def laws_eqFilter_mk (p : Bool) : Res := [(false, [⟨.bool, .sh, TC.b p⟩])]
noncomputable def laws_eqFilter_c (x0 : Int) (x1 : Int) (x2 : Bool) (y0 : Int) (y1 : Int) (y2 : Bool) : Bool := is (x0 = y0 ∧ x1 = y1 ∧ x2 = y2)
noncomputable def laws_eqFilter_v (x0 : Int) (x1 : Int) (x2 : Bool) (y0 : Int) (y1 : Int) (y2 : Bool) : Bool := true
theorem laws_eqFilter_l (x0 : Int) (x1 : Int) (x2 : Bool) (y0 : Int) (y1 : Int) (y2 : Bool) : (laws_eqFilter_c x0 x1 x2 y0 y1 y2) = true → (laws_eqFilter_t x0 x1 x2 y0 y1 y2).val = some (laws_eqFilter_v x0 x1 x2 y0 y1 y2) := by
  intro h
  obtain ⟨rfl, rfl, rfl⟩ := is_iff.1 h
  unfold laws_eqFilter_t
  refine Tr.n (by simp) ?_
  refine Tr.n (by simp) ?_
  refine Tr.n (by simp) ?_
  rfl
end
end
end
end
end
end Go.Proofs.Ytghbndlkekaipaa.V
