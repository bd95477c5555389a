/- What the functions of FnExactConvertible answer. No condition. -/
import Derived.Test.YtdcafhfnkblfkaaVFnExactConvertibleP4
namespace Go.Proofs.Ytdcafhfnkblfkaa.V
open Go
set_option maxRecDepth 100000
set_option linter.unusedVariables false
set_option linter.unusedSectionVars false
set_option linter.unusedSimpArgs false
set_option maxHeartbeats 2000000
section
variable [i_laws_szType : qbh_O]
variable [g_laws_szType : qbh_G]
section
variable [i_laws_toType : qk_O]
variable [g_laws_toType : qk_G]
section
variable [i_spec_l02Size : qt_O]
variable [g_spec_l02Size : qt_G]
section
variable [i_spec_l02Depth : qi_O]
variable [g_spec_l02Depth : qi_G]
section
variable [i_spec_l02Ok : qbk_O]
variable [g_spec_l02Ok : qbk_G]
section
variable [i_spec_l04Can : qw_O]
variable [g_spec_l04Can : qw_G]
section
variable [i_impl_Type_size : qbd_O]
variable [g_impl_Type_size : qbd_G]
section
variable [i_impl_SameType : qbf_O]
variable [g_impl_SameType : qbf_G]
section
variable [i_impl_Type_valid : qx_O]
variable [g_impl_Type_valid : qx_G]
section
variable [i_impl_convertible : qbc_O]
variable [g_impl_convertible : qbc_G]
def qbx_mk (p : Bool) : Res := [(false, [⟨.bool, .sh, TC.b p⟩])]
noncomputable def qbx_c (a0 a1 : Int) (a2 a3 : Bool) (a4 a5 a6 a7 : LL) (a8 a9 a10 : Int) (a11 a12 : Bool) (a13 a14 a15 a16 : LL) (a17 : Int) : Bool := (bif (qcf_v a0 a1 a2 a3 a4 a5 a6 a7 a8) then (bif (qcf_v a9 a10 a11 a12 a13 a14 a15 a16 a17) then true else (bif (!(a0 == a9)) then true else (bif (a0 == (5 : Int)) then (bif (a8 == a17) then (is ((0 : Int) ≤ (0 : Int) ∧ (0 : Int) < (a7.length : Int)) && (is ((0 : Int) ≤ (0 : Int) ∧ (0 : Int) < (a16.length : Int)) && ((qbc_rc ((nth (row a7 (0 : Int)) 0).int) ((nth (row a7 (0 : Int)) 1).int) ((nth (row a7 (0 : Int)) 2).bool) ((nth (row a7 (0 : Int)) 3).bool) ((nth (row a7 (0 : Int)) 4).list) ((nth (row a7 (0 : Int)) 5).list) ((nth (row a7 (0 : Int)) 6).list) ((nth (row a7 (0 : Int)) 7).list) ((nth (row a7 (0 : Int)) 8).int) ((nth (row a16 (0 : Int)) 0).int) ((nth (row a16 (0 : Int)) 1).int) ((nth (row a16 (0 : Int)) 2).bool) ((nth (row a16 (0 : Int)) 3).bool) ((nth (row a16 (0 : Int)) 4).list) ((nth (row a16 (0 : Int)) 5).list) ((nth (row a16 (0 : Int)) 6).list) ((nth (row a16 (0 : Int)) 7).list) ((nth (row a16 (0 : Int)) 8).int)) && true))) else true) else ((qbe_c a15 [TC.i a0, TC.i a1, TC.b a2, TC.b a3, TC.l a4, TC.l a5, TC.l a6, TC.l a7, TC.i a8]) && true)))) else (bif (!(a0 == a9)) then true else (bif (a0 == (5 : Int)) then (bif (a8 == a17) then (is ((0 : Int) ≤ (0 : Int) ∧ (0 : Int) < (a7.length : Int)) && (is ((0 : Int) ≤ (0 : Int) ∧ (0 : Int) < (a16.length : Int)) && ((qbc_rc ((nth (row a7 (0 : Int)) 0).int) ((nth (row a7 (0 : Int)) 1).int) ((nth (row a7 (0 : Int)) 2).bool) ((nth (row a7 (0 : Int)) 3).bool) ((nth (row a7 (0 : Int)) 4).list) ((nth (row a7 (0 : Int)) 5).list) ((nth (row a7 (0 : Int)) 6).list) ((nth (row a7 (0 : Int)) 7).list) ((nth (row a7 (0 : Int)) 8).int) ((nth (row a16 (0 : Int)) 0).int) ((nth (row a16 (0 : Int)) 1).int) ((nth (row a16 (0 : Int)) 2).bool) ((nth (row a16 (0 : Int)) 3).bool) ((nth (row a16 (0 : Int)) 4).list) ((nth (row a16 (0 : Int)) 5).list) ((nth (row a16 (0 : Int)) 6).list) ((nth (row a16 (0 : Int)) 7).list) ((nth (row a16 (0 : Int)) 8).int)) && true))) else true) else ((qbe_c a15 [TC.i a0, TC.i a1, TC.b a2, TC.b a3, TC.l a4, TC.l a5, TC.l a6, TC.l a7, TC.i a8]) && true))))
noncomputable def qbx_v (a0 a1 : Int) (a2 a3 : Bool) (a4 a5 a6 a7 : LL) (a8 a9 a10 : Int) (a11 a12 : Bool) (a13 a14 a15 a16 : LL) (a17 : Int) : Bool := (bif (qcf_v a0 a1 a2 a3 a4 a5 a6 a7 a8) then (bif (qcf_v a9 a10 a11 a12 a13 a14 a15 a16 a17) then true else (bif (!(a0 == a9)) then false else (bif (a0 == (5 : Int)) then (bif (a8 == a17) then (qbc_rv ((nth (row a7 (0 : Int)) 0).int) ((nth (row a7 (0 : Int)) 1).int) ((nth (row a7 (0 : Int)) 2).bool) ((nth (row a7 (0 : Int)) 3).bool) ((nth (row a7 (0 : Int)) 4).list) ((nth (row a7 (0 : Int)) 5).list) ((nth (row a7 (0 : Int)) 6).list) ((nth (row a7 (0 : Int)) 7).list) ((nth (row a7 (0 : Int)) 8).int) ((nth (row a16 (0 : Int)) 0).int) ((nth (row a16 (0 : Int)) 1).int) ((nth (row a16 (0 : Int)) 2).bool) ((nth (row a16 (0 : Int)) 3).bool) ((nth (row a16 (0 : Int)) 4).list) ((nth (row a16 (0 : Int)) 5).list) ((nth (row a16 (0 : Int)) 6).list) ((nth (row a16 (0 : Int)) 7).list) ((nth (row a16 (0 : Int)) 8).int)) else false) else (!(qbe_v a15 [TC.i a0, TC.i a1, TC.b a2, TC.b a3, TC.l a4, TC.l a5, TC.l a6, TC.l a7, TC.i a8]))))) else (bif (!(a0 == a9)) then false else (bif (a0 == (5 : Int)) then (bif (a8 == a17) then (qbc_rv ((nth (row a7 (0 : Int)) 0).int) ((nth (row a7 (0 : Int)) 1).int) ((nth (row a7 (0 : Int)) 2).bool) ((nth (row a7 (0 : Int)) 3).bool) ((nth (row a7 (0 : Int)) 4).list) ((nth (row a7 (0 : Int)) 5).list) ((nth (row a7 (0 : Int)) 6).list) ((nth (row a7 (0 : Int)) 7).list) ((nth (row a7 (0 : Int)) 8).int) ((nth (row a16 (0 : Int)) 0).int) ((nth (row a16 (0 : Int)) 1).int) ((nth (row a16 (0 : Int)) 2).bool) ((nth (row a16 (0 : Int)) 3).bool) ((nth (row a16 (0 : Int)) 4).list) ((nth (row a16 (0 : Int)) 5).list) ((nth (row a16 (0 : Int)) 6).list) ((nth (row a16 (0 : Int)) 7).list) ((nth (row a16 (0 : Int)) 8).int)) else false) else (!(qbe_v a15 [TC.i a0, TC.i a1, TC.b a2, TC.b a3, TC.l a4, TC.l a5, TC.l a6, TC.l a7, TC.i a8])))))
theorem qbx_l (a0 a1 : Int) (a2 a3 : Bool) (a4 a5 a6 a7 : LL) (a8 a9 a10 : Int) (a11 a12 : Bool) (a13 a14 a15 a16 : LL) (a17 : Int) : (qbx_c a0 a1 a2 a3 a4 a5 a6 a7 a8 a9 a10 a11 a12 a13 a14 a15 a16 a17) = true → (qbx_t a0 a1 a2 a3 a4 a5 a6 a7 a8 a9 a10 a11 a12 a13 a14 a15 a16 a17).val = some (qbx_v a0 a1 a2 a3 a4 a5 a6 a7 a8 a9 a10 a11 a12 a13 a14 a15 a16 a17) := by
  unfold qbx_t qbx_v qbx_c
  exact fun h => (Tr.ss h (fun h => (Tr.ss h (fun h => rfl) (fun h => (Tr.ss h (fun h => rfl) (fun h => (Tr.ss h (fun h => (Tr.ss h (fun h => (Tr.gs h fun h => (Tr.gs h fun h => (Tr.gb h fun h => rfl)))) (fun h => rfl))) (fun h => (Tr.gb h fun h => rfl)))))))) (fun h => (Tr.ss h (fun h => rfl) (fun h => (Tr.ss h (fun h => (Tr.ss h (fun h => (Tr.gs h fun h => (Tr.gs h fun h => (Tr.gb h fun h => rfl)))) (fun h => rfl))) (fun h => (Tr.gb h fun h => rfl)))))))
noncomputable def qbx_S : List Arg → Option (Bool × Res) := fun xs => match xs with
  | [(true, [(.int .i64, TC.i a0), (.int .i64, TC.i a1), (.bool, TC.b a2), (.bool, TC.b a3), (.slice 9, TC.l a4), (.slice 2, TC.l a5), (.slice 71, TC.l a6), (.slice 32, TC.l a7), (.int .i64, TC.i a8)]), (true, [(.int .i64, TC.i a9), (.int .i64, TC.i a10), (.bool, TC.b a11), (.bool, TC.b a12), (.slice 9, TC.l a13), (.slice 2, TC.l a14), (.slice 71, TC.l a15), (.slice 32, TC.l a16), (.int .i64, TC.i a17)]), (false, [(.func, TC.f 51 [])])] => some ((qbx_c a0 a1 a2 a3 a4 a5 a6 a7 a8 a9 a10 a11 a12 a13 a14 a15 a16 a17), qbx_mk (qbx_v a0 a1 a2 a3 a4 a5 a6 a7 a8 a9 a10 a11 a12 a13 a14 a15 a16 a17))
  | _ => .none
theorem qbx_e (a0 a1 : Int) (a2 a3 : Bool) (a4 a5 a6 a7 : LL) (a8 a9 a10 : Int) (a11 a12 : Bool) (a13 a14 a15 a16 : LL) (a17 : Int) : runF tab FT D59 live 80 noLoops [(true, [(.int .i64, TC.i a0), (.int .i64, TC.i a1), (.bool, TC.b a2), (.bool, TC.b a3), (.slice 9, TC.l a4), (.slice 2, TC.l a5), (.slice 71, TC.l a6), (.slice 32, TC.l a7), (.int .i64, TC.i a8)]), (true, [(.int .i64, TC.i a9), (.int .i64, TC.i a10), (.bool, TC.b a11), (.bool, TC.b a12), (.slice 9, TC.l a13), (.slice 2, TC.l a14), (.slice 71, TC.l a15), (.slice 32, TC.l a16), (.int .i64, TC.i a17)]), (false, [(.func, TC.f 51 [])])] = (qbx_t a0 a1 a2 a3 a4 a5 a6 a7 a8 a9 a10 a11 a12 a13 a14 a15 a16 a17).run fun p => some (qbx_mk p) := by kernel_rfl
theorem qbx_s : ∀ xs r, qbx_S xs = some (true, r) → runF tab FT D59 live 80 noLoops xs = some r := by
  intro xs r h
  unfold qbx_S at h
  split at h
  · simp only [Option.some.injEq, Prod.mk.injEq] at h
    obtain ⟨h1, rfl⟩ := h
    exact fun_told (qbx_e _ _ _ _ _ _ _ _ _ _ _ _ _ _ _ _ _ _) (qbx_l _ _ _ _ _ _ _ _ _ _ _ _ _ _ _ _ _ _) h1
  · cases h
noncomputable def D60 : Dt := also D59 80 qbx_S
theorem d60 : DOk Go.Proofs.Try.prog tab D60 := d59.also mixed_ok tab_ok names_ok noLoops_ok qbx_s
noncomputable def qbc_t (k s : Int) (sg bg : Bool) (NA NU ME BA : LL) (ct k2 s2 : Int) (sg2 bg2 : Bool) (NA2 NU2 ME2 BA2 : LL) (ct2 : Int) : Tr (Bool) := (.ite ((qbx_c k s sg bg NA NU ME BA ct k2 s2 sg2 bg2 NA2 NU2 ME2 BA2 ct2) = true) (.ok (qbx_v k s sg bg NA NU ME BA ct k2 s2 sg2 bg2 NA2 NU2 ME2 BA2 ct2))
  .no)
def qbc_mk (p : Bool) : Res := [(false, [⟨.bool, .sh, TC.b p⟩])]
noncomputable def qbc_c (k s : Int) (sg bg : Bool) (NA NU ME BA : LL) (ct k2 s2 : Int) (sg2 bg2 : Bool) (NA2 NU2 ME2 BA2 : LL) (ct2 : Int) : Bool := ((qbx_c k s sg bg NA NU ME BA ct k2 s2 sg2 bg2 NA2 NU2 ME2 BA2 ct2) && true)
noncomputable def qbc_v (k s : Int) (sg bg : Bool) (NA NU ME BA : LL) (ct k2 s2 : Int) (sg2 bg2 : Bool) (NA2 NU2 ME2 BA2 : LL) (ct2 : Int) : Bool := (qbx_v k s sg bg NA NU ME BA ct k2 s2 sg2 bg2 NA2 NU2 ME2 BA2 ct2)
theorem qbc_l (k s : Int) (sg bg : Bool) (NA NU ME BA : LL) (ct k2 s2 : Int) (sg2 bg2 : Bool) (NA2 NU2 ME2 BA2 : LL) (ct2 : Int) : (qbc_c k s sg bg NA NU ME BA ct k2 s2 sg2 bg2 NA2 NU2 ME2 BA2 ct2) = true → (qbc_t k s sg bg NA NU ME BA ct k2 s2 sg2 bg2 NA2 NU2 ME2 BA2 ct2).val = some (qbc_v k s sg bg NA NU ME BA ct k2 s2 sg2 bg2 NA2 NU2 ME2 BA2 ct2) := by
  unfold qbc_t qbc_v qbc_c
  exact fun h => (Tr.gb h fun h => rfl)
theorem qbc_e (k s : Int) (sg bg : Bool) (NA NU ME BA : LL) (ct k2 s2 : Int) (sg2 bg2 : Bool) (NA2 NU2 ME2 BA2 : LL) (ct2 : Int) : runF tab FT D60 live 51 noLoops [(true, [(.int .i64, TC.i k), (.int .i64, TC.i s), (.bool, TC.b sg), (.bool, TC.b bg), (.slice 9, TC.l NA), (.slice 2, TC.l NU), (.slice 71, TC.l ME), (.slice 32, TC.l BA), (.int .i64, TC.i ct)]), (true, [(.int .i64, TC.i k2), (.int .i64, TC.i s2), (.bool, TC.b sg2), (.bool, TC.b bg2), (.slice 9, TC.l NA2), (.slice 2, TC.l NU2), (.slice 71, TC.l ME2), (.slice 32, TC.l BA2), (.int .i64, TC.i ct2)])] = (qbc_t k s sg bg NA NU ME BA ct k2 s2 sg2 bg2 NA2 NU2 ME2 BA2 ct2).run fun p => some (qbc_mk p) := by kernel_rfl
theorem qbc_nx (k s : Int) (sg bg : Bool) (NA NU ME BA : LL) (ct k2 s2 : Int) (sg2 bg2 : Bool) (NA2 NU2 ME2 BA2 : LL) (ct2 : Int) : is (max (rowsDep ME2) (rowsDep BA2) < qbc_O.n + 1 ∧ okV k s sg bg NA NU ME BA ct = true ∧ okV k2 s2 sg2 bg2 NA2 NU2 ME2 BA2 ct2 = true ∧ Typed tab (.slice 71) (.l ME) ∧ Typed tab (.slice 32) (.l BA) ∧ Typed tab (.slice 71) (.l ME2) ∧ Typed tab (.slice 32) (.l BA2)) = true → (qbc_c k s sg bg NA NU ME BA ct k2 s2 sg2 bg2 NA2 NU2 ME2 BA2 ct2) = true ∧ (qbc_v k s sg bg NA NU ME BA ct k2 s2 sg2 bg2 NA2 NU2 ME2 BA2 ct2) = canV k ME BA ct k2 ME2 BA2 ct2 := by
  intro h
  obtain ⟨hM, hk, hk2, tM, tB, tM2, tB2⟩ := is_iff.1 h
  obtain ⟨hl1, hm1⟩ := okV_me hk
  obtain ⟨hl2, hm2⟩ := okV_me hk2
  have hr : ∀ y : List TC, y ∈ ME2 → memNo ME (nth y 0).str = false → qbc_rc (nth (row ME ((memIx ME (nth y 0).str : Nat) : Int)) 2).int (nth (row ME ((memIx ME (nth y 0).str : Nat) : Int)) 3).int (nth (row ME ((memIx ME (nth y 0).str : Nat) : Int)) 4).bool (nth (row ME ((memIx ME (nth y 0).str : Nat) : Int)) 5).bool (nth (row ME ((memIx ME (nth y 0).str : Nat) : Int)) 6).list (nth (row ME ((memIx ME (nth y 0).str : Nat) : Int)) 7).list (nth (row ME ((memIx ME (nth y 0).str : Nat) : Int)) 8).list (nth (row ME ((memIx ME (nth y 0).str : Nat) : Int)) 9).list (nth (row ME ((memIx ME (nth y 0).str : Nat) : Int)) 10).int (nth y 2).int (nth y 3).int (nth y 4).bool (nth y 5).bool (nth y 6).list (nth y 7).list (nth y 8).list (nth y 9).list (nth y 10).int = true := fun y hy hn => by
    have hx : (row ME ((memIx ME (nth y 0).str : Nat) : Int)) ∈ ME := by rw [row_nat]; exact mem_getD (memIx_lt hn)
    exact is_true ⟨by have := dep_max (BA := BA2) hy 8 9; omega, hm1 _ hx, hm2 y hy, typed_list ((typed_elem tM hx).2 8 (by decide)), typed_list ((typed_elem tM hx).2 9 (by decide)), typed_list ((typed_elem tM2 hy).2 8 (by decide)), typed_list ((typed_elem tM2 hy).2 9 (by decide))⟩
  have hc : ∀ y : List TC, y ∈ ME2 → qcc_c (nth y 0).str (nth y 1).int (nth y 2).int (nth y 3).int (nth y 4).bool (nth y 5).bool (nth y 6).list (nth y 7).list (nth y 8).list (nth y 9).list (nth y 10).int [TC.i k, TC.i s, TC.b sg, TC.b bg, TC.l NA, TC.l NU, TC.l ME, TC.l BA, TC.i ct] = true := fun y hy => by
    unfold qcc_c
    rw [show (nth [TC.i k, TC.i s, TC.b sg, TC.b bg, TC.l NA, TC.l NU, TC.l ME, TC.l BA, TC.i ct] 0).int = k from rfl, show (nth [TC.i k, TC.i s, TC.b sg, TC.b bg, TC.l NA, TC.l NU, TC.l ME, TC.l BA, TC.i ct] 1).int = s from rfl, show (nth [TC.i k, TC.i s, TC.b sg, TC.b bg, TC.l NA, TC.l NU, TC.l ME, TC.l BA, TC.i ct] 2).bool = sg from rfl, show (nth [TC.i k, TC.i s, TC.b sg, TC.b bg, TC.l NA, TC.l NU, TC.l ME, TC.l BA, TC.i ct] 3).bool = bg from rfl, show (nth [TC.i k, TC.i s, TC.b sg, TC.b bg, TC.l NA, TC.l NU, TC.l ME, TC.l BA, TC.i ct] 4).list = NA from rfl, show (nth [TC.i k, TC.i s, TC.b sg, TC.b bg, TC.l NA, TC.l NU, TC.l ME, TC.l BA, TC.i ct] 5).list = NU from rfl, show (nth [TC.i k, TC.i s, TC.b sg, TC.b bg, TC.l NA, TC.l NU, TC.l ME, TC.l BA, TC.i ct] 6).list = ME from rfl, show (nth [TC.i k, TC.i s, TC.b sg, TC.b bg, TC.l NA, TC.l NU, TC.l ME, TC.l BA, TC.i ct] 7).list = BA from rfl, show (nth [TC.i k, TC.i s, TC.b sg, TC.b bg, TC.l NA, TC.l NU, TC.l ME, TC.l BA, TC.i ct] 8).int = ct from rfl, qba_cc tM]
    cases hm : memNo ME (nth y 0).str with
    | true => rw [member_no hm]; rfl
    | false => rw [member_yes hm]; exact andT rfl (andT (hr y hy hm) rfl)
  have hv : ∀ y : List TC, (!(qcc_v (nth y 0).str (nth y 1).int (nth y 2).int (nth y 3).int (nth y 4).bool (nth y 5).bool (nth y 6).list (nth y 7).list (nth y 8).list (nth y 9).list (nth y 10).int [TC.i k, TC.i s, TC.b sg, TC.b bg, TC.l NA, TC.l NU, TC.l ME, TC.l BA, TC.i ct])) = (memNo ME (nth y 0).str || canV (nth (row ME ((memIx ME (nth y 0).str : Nat) : Int)) 2).int (nth (row ME ((memIx ME (nth y 0).str : Nat) : Int)) 8).list (nth (row ME ((memIx ME (nth y 0).str : Nat) : Int)) 9).list (nth (row ME ((memIx ME (nth y 0).str : Nat) : Int)) 10).int (nth y 2).int (nth y 8).list (nth y 9).list (nth y 10).int) := fun y => by
    unfold qcc_v
    rw [show (nth [TC.i k, TC.i s, TC.b sg, TC.b bg, TC.l NA, TC.l NU, TC.l ME, TC.l BA, TC.i ct] 0).int = k from rfl, show (nth [TC.i k, TC.i s, TC.b sg, TC.b bg, TC.l NA, TC.l NU, TC.l ME, TC.l BA, TC.i ct] 1).int = s from rfl, show (nth [TC.i k, TC.i s, TC.b sg, TC.b bg, TC.l NA, TC.l NU, TC.l ME, TC.l BA, TC.i ct] 2).bool = sg from rfl, show (nth [TC.i k, TC.i s, TC.b sg, TC.b bg, TC.l NA, TC.l NU, TC.l ME, TC.l BA, TC.i ct] 3).bool = bg from rfl, show (nth [TC.i k, TC.i s, TC.b sg, TC.b bg, TC.l NA, TC.l NU, TC.l ME, TC.l BA, TC.i ct] 4).list = NA from rfl, show (nth [TC.i k, TC.i s, TC.b sg, TC.b bg, TC.l NA, TC.l NU, TC.l ME, TC.l BA, TC.i ct] 5).list = NU from rfl, show (nth [TC.i k, TC.i s, TC.b sg, TC.b bg, TC.l NA, TC.l NU, TC.l ME, TC.l BA, TC.i ct] 6).list = ME from rfl, show (nth [TC.i k, TC.i s, TC.b sg, TC.b bg, TC.l NA, TC.l NU, TC.l ME, TC.l BA, TC.i ct] 7).list = BA from rfl, show (nth [TC.i k, TC.i s, TC.b sg, TC.b bg, TC.l NA, TC.l NU, TC.l ME, TC.l BA, TC.i ct] 8).int = ct from rfl]
    cases hm : memNo ME (nth y 0).str with
    | true => rw [member_no hm]; rfl
    | false => rw [member_yes hm]; exact Bool.not_not _
  have cc : qbe_c ME2 [TC.i k, TC.i s, TC.b sg, TC.b bg, TC.l NA, TC.l NU, TC.l ME, TC.l BA, TC.i ct] = true := is_true ⟨tM2, hc⟩
  have cv : qbe_v ME2 [TC.i k, TC.i s, TC.b sg, TC.b bg, TC.l NA, TC.l NU, TC.l ME, TC.l BA, TC.i ct] = !(ME2.all fun y => memNo ME (nth y 0).str || canV (nth (row ME ((memIx ME (nth y 0).str : Nat) : Int)) 2).int (nth (row ME ((memIx ME (nth y 0).str : Nat) : Int)) 8).list (nth (row ME ((memIx ME (nth y 0).str : Nat) : Int)) 9).list (nth (row ME ((memIx ME (nth y 0).str : Nat) : Int)) 10).int (nth y 2).int (nth y 8).list (nth y 9).list (nth y 10).int) := by
    unfold qbe_v
    rw [show (fun x : List TC => !(qcc_v (nth x 0).str (nth x 1).int (nth x 2).int (nth x 3).int (nth x 4).bool (nth x 5).bool (nth x 6).list (nth x 7).list (nth x 8).list (nth x 9).list (nth x 10).int [TC.i k, TC.i s, TC.b sg, TC.b bg, TC.l NA, TC.l NU, TC.l ME, TC.l BA, TC.i ct])) = (fun y : List TC => memNo ME (nth y 0).str || canV (nth (row ME ((memIx ME (nth y 0).str : Nat) : Int)) 2).int (nth (row ME ((memIx ME (nth y 0).str : Nat) : Int)) 8).list (nth (row ME ((memIx ME (nth y 0).str : Nat) : Int)) 9).list (nth (row ME ((memIx ME (nth y 0).str : Nat) : Int)) 10).int (nth y 2).int (nth y 8).list (nth y 9).list (nth y 10).int) from funext hv]
  unfold qbc_c qbc_v qbx_c qbx_v
  rw [canV, attach_can, show qcf_v k s sg bg NA NU ME BA ct = numE k from rfl, show qcf_v k2 s2 sg2 bg2 NA2 NU2 ME2 BA2 ct2 = numE k2 from rfl, cc, cv]
  have hne : numE k ≠ numE k2 → (k == k2) = false := fun h => by
    cases hkk : (k == k2) with
    | false => rfl
    | true => rw [eq_of_beq hkk] at h; exact absurd rfl h
  cases h1 : numE k with
  | true =>
    cases h2 : numE k2 with
    | true => exact ⟨rfl, rfl⟩
    | false => rw [hne (by rw [h1, h2]; simp)]; exact ⟨rfl, rfl⟩
  | false =>
    cases h2 : numE k2 with
    | true => rw [hne (by rw [h1, h2]; simp)]; exact ⟨rfl, rfl⟩
    | false =>
      cases hkk : (k == k2) with
      | false => exact ⟨rfl, rfl⟩
      | true =>
        have hkk := eq_of_beq hkk
        subst hkk
        cases h5 : (k == 5) with
        | true =>
          have h5 := eq_of_beq h5
          subst h5
          obtain ⟨hb, ho⟩ := okV_base hk
          obtain ⟨hb2, ho2⟩ := okV_base hk2
          have hrb : qbc_rc (nth (row BA (0 : Int)) 0).int (nth (row BA (0 : Int)) 1).int (nth (row BA (0 : Int)) 2).bool (nth (row BA (0 : Int)) 3).bool (nth (row BA (0 : Int)) 4).list (nth (row BA (0 : Int)) 5).list (nth (row BA (0 : Int)) 6).list (nth (row BA (0 : Int)) 7).list (nth (row BA (0 : Int)) 8).int (nth (row BA2 (0 : Int)) 0).int (nth (row BA2 (0 : Int)) 1).int (nth (row BA2 (0 : Int)) 2).bool (nth (row BA2 (0 : Int)) 3).bool (nth (row BA2 (0 : Int)) 4).list (nth (row BA2 (0 : Int)) 5).list (nth (row BA2 (0 : Int)) 6).list (nth (row BA2 (0 : Int)) 7).list (nth (row BA2 (0 : Int)) 8).int = true := is_true ⟨by have := dep_base (ME := ME2) hb2 6 7; omega, ho, ho2, typed_list ((typed_elem tB (mem_getD (i := 0) hb)).2 6 (by decide)), typed_list ((typed_elem tB (mem_getD (i := 0) hb)).2 7 (by decide)), typed_list ((typed_elem tB2 (mem_getD (i := 0) hb2)).2 6 (by decide)), typed_list ((typed_elem tB2 (mem_getD (i := 0) hb2)).2 7 (by decide))⟩
          rw [dif_pos hb2]
          cases hct : (ct == ct2) with
          | false => exact ⟨rfl, rfl⟩
          | true => exact ⟨andT (andT (is_true (by constructor <;> omega)) (andT (is_true (by constructor <;> omega)) (andT hrb rfl))) rfl, rfl⟩
        | false => cases ME2.all (fun y => memNo ME (nth y 0).str || canV (nth (row ME ((memIx ME (nth y 0).str : Nat) : Int)) 2).int (nth (row ME ((memIx ME (nth y 0).str : Nat) : Int)) 8).list (nth (row ME ((memIx ME (nth y 0).str : Nat) : Int)) 9).list (nth (row ME ((memIx ME (nth y 0).str : Nat) : Int)) 10).int (nth y 2).int (nth y 8).list (nth y 9).list (nth y 10).int) <;> exact ⟨rfl, rfl⟩
theorem qbc_nxr (k s : Int) (sg bg : Bool) (NA NU ME BA : LL) (ct k2 s2 : Int) (sg2 bg2 : Bool) (NA2 NU2 ME2 BA2 : LL) (ct2 : Int) : qbc_rc (i_impl_convertible := ⟨qbc_O.n + 1⟩) k s sg bg NA NU ME BA ct k2 s2 sg2 bg2 NA2 NU2 ME2 BA2 ct2 = true → (qbc_c k s sg bg NA NU ME BA ct k2 s2 sg2 bg2 NA2 NU2 ME2 BA2 ct2) = true ∧ (qbc_v k s sg bg NA NU ME BA ct k2 s2 sg2 bg2 NA2 NU2 ME2 BA2 ct2) = (qbc_rv k s sg bg NA NU ME BA ct k2 s2 sg2 bg2 NA2 NU2 ME2 BA2 ct2) := fun h => qbc_nx k s sg bg NA NU ME BA ct k2 s2 sg2 bg2 NA2 NU2 ME2 BA2 ct2 h
theorem qbc_rs : ∀ xs r, qbc_rS (i_impl_convertible := ⟨qbc_O.n + 1⟩) xs = some (true, r) → runF tab FT D60 live 51 noLoops xs = some r := by
  intro xs r h
  unfold qbc_rS at h
  split at h
  · simp only [Option.some.injEq, Prod.mk.injEq] at h
    obtain ⟨h1, rfl⟩ := h
    have hx := qbc_nxr _ _ _ _ _ _ _ _ _ _ _ _ _ _ _ _ _ _ h1
    have ht := fun_told (qbc_e _ _ _ _ _ _ _ _ _ _ _ _ _ _ _ _ _ _) (qbc_l _ _ _ _ _ _ _ _ _ _ _ _ _ _ _ _ _ _) hx.1
    rw [hx.2] at ht
    exact ht
  · cases h
theorem qbc_step : qbc_G (i_impl_convertible := ⟨qbc_O.n + 1⟩) := by
  have h := DOk.also2 (S := qbc_rS (i_impl_convertible := ⟨qbc_O.n + 1⟩)) mixed_ok tab_ok names_ok d52 d60 noLoops_ok qbc_rs
  refine qbc_G.mk (i_impl_convertible := ⟨qbc_O.n + 1⟩) ?_
  exact h
noncomputable def qce_t (k s : Int) (sg bg : Bool) (NA NU ME BA : LL) (ct k2 s2 : Int) (sg2 bg2 : Bool) (NA2 NU2 ME2 BA2 : LL) (ct2 : Int) : Tr (Bool) := (.ite ((qbl_c k s sg bg NA NU ME BA ct) = true) (.ite ((qbl_v k s sg bg NA NU ME BA ct) = true) (.ite ((qbl_c k2 s2 sg2 bg2 NA2 NU2 ME2 BA2 ct2) = true) (.ite ((qbl_v k2 s2 sg2 bg2 NA2 NU2 ME2 BA2 ct2) = true) (.ite ((qbc_rc k s sg bg NA NU ME BA ct k2 s2 sg2 bg2 NA2 NU2 ME2 BA2 ct2) = true) (.ok (qbc_rv k s sg bg NA NU ME BA ct k2 s2 sg2 bg2 NA2 NU2 ME2 BA2 ct2))
      .no)
     (.ok false))
    .no)
   (.ok false))
  .no)
def qce_mk (p : Bool) : Res := [(false, [⟨.bool, .sh, TC.b p⟩])]
noncomputable def qce_c (k s : Int) (sg bg : Bool) (NA NU ME BA : LL) (ct k2 s2 : Int) (sg2 bg2 : Bool) (NA2 NU2 ME2 BA2 : LL) (ct2 : Int) : Bool := ((qbl_c k s sg bg NA NU ME BA ct) && (bif (qbl_v k s sg bg NA NU ME BA ct) then ((qbl_c k2 s2 sg2 bg2 NA2 NU2 ME2 BA2 ct2) && (bif (qbl_v k2 s2 sg2 bg2 NA2 NU2 ME2 BA2 ct2) then ((qbc_rc k s sg bg NA NU ME BA ct k2 s2 sg2 bg2 NA2 NU2 ME2 BA2 ct2) && true) else true)) else true))
noncomputable def qce_v (k s : Int) (sg bg : Bool) (NA NU ME BA : LL) (ct k2 s2 : Int) (sg2 bg2 : Bool) (NA2 NU2 ME2 BA2 : LL) (ct2 : Int) : Bool := (bif (qbl_v k s sg bg NA NU ME BA ct) then (bif (qbl_v k2 s2 sg2 bg2 NA2 NU2 ME2 BA2 ct2) then (qbc_rv k s sg bg NA NU ME BA ct k2 s2 sg2 bg2 NA2 NU2 ME2 BA2 ct2) else false) else false)
theorem qce_l (k s : Int) (sg bg : Bool) (NA NU ME BA : LL) (ct k2 s2 : Int) (sg2 bg2 : Bool) (NA2 NU2 ME2 BA2 : LL) (ct2 : Int) : (qce_c k s sg bg NA NU ME BA ct k2 s2 sg2 bg2 NA2 NU2 ME2 BA2 ct2) = true → (qce_t k s sg bg NA NU ME BA ct k2 s2 sg2 bg2 NA2 NU2 ME2 BA2 ct2).val = some (qce_v k s sg bg NA NU ME BA ct k2 s2 sg2 bg2 NA2 NU2 ME2 BA2 ct2) := by
  unfold qce_t qce_v qce_c
  exact fun h => (Tr.gb h fun h => (Tr.ss h (fun h => (Tr.gb h fun h => (Tr.ss h (fun h => (Tr.gb h fun h => rfl)) (fun h => rfl)))) (fun h => rfl)))
noncomputable def qce_S : List Arg → Option (Bool × Res) := fun xs => match xs with
  | [(true, [(.int .i64, TC.i k), (.int .i64, TC.i s), (.bool, TC.b sg), (.bool, TC.b bg), (.slice 9, TC.l NA), (.slice 2, TC.l NU), (.slice 71, TC.l ME), (.slice 32, TC.l BA), (.int .i64, TC.i ct)]), (true, [(.int .i64, TC.i k2), (.int .i64, TC.i s2), (.bool, TC.b sg2), (.bool, TC.b bg2), (.slice 9, TC.l NA2), (.slice 2, TC.l NU2), (.slice 71, TC.l ME2), (.slice 32, TC.l BA2), (.int .i64, TC.i ct2)])] => some ((qce_c k s sg bg NA NU ME BA ct k2 s2 sg2 bg2 NA2 NU2 ME2 BA2 ct2), qce_mk (qce_v k s sg bg NA NU ME BA ct k2 s2 sg2 bg2 NA2 NU2 ME2 BA2 ct2))
  | _ => .none
theorem qce_e (k s : Int) (sg bg : Bool) (NA NU ME BA : LL) (ct k2 s2 : Int) (sg2 bg2 : Bool) (NA2 NU2 ME2 BA2 : LL) (ct2 : Int) : runF tab FT D60 live 17 noLoops [(true, [(.int .i64, TC.i k), (.int .i64, TC.i s), (.bool, TC.b sg), (.bool, TC.b bg), (.slice 9, TC.l NA), (.slice 2, TC.l NU), (.slice 71, TC.l ME), (.slice 32, TC.l BA), (.int .i64, TC.i ct)]), (true, [(.int .i64, TC.i k2), (.int .i64, TC.i s2), (.bool, TC.b sg2), (.bool, TC.b bg2), (.slice 9, TC.l NA2), (.slice 2, TC.l NU2), (.slice 71, TC.l ME2), (.slice 32, TC.l BA2), (.int .i64, TC.i ct2)])] = (qce_t k s sg bg NA NU ME BA ct k2 s2 sg2 bg2 NA2 NU2 ME2 BA2 ct2).run fun p => some (qce_mk p) := by kernel_rfl
theorem qce_s : ∀ xs r, qce_S xs = some (true, r) → runF tab FT D60 live 17 noLoops xs = some r := by
  intro xs r h
  unfold qce_S at h
  split at h
  · simp only [Option.some.injEq, Prod.mk.injEq] at h
    obtain ⟨h1, rfl⟩ := h
    exact fun_told (qce_e _ _ _ _ _ _ _ _ _ _ _ _ _ _ _ _ _ _) (qce_l _ _ _ _ _ _ _ _ _ _ _ _ _ _ _ _ _ _) h1
  · cases h
noncomputable def D61 : Dt := also D60 17 qce_S
theorem d61 : DOk Go.Proofs.Try.prog tab D61 := d60.also mixed_ok tab_ok names_ok noLoops_ok qce_s
theorem qce_cc {k : Int} {s : Int} {sg : Bool} {bg : Bool} {NA : LL} {NU : LL} {ME : LL} {BA : LL} {ct : Int} {k2 : Int} {s2 : Int} {sg2 : Bool} {bg2 : Bool} {NA2 : LL} {NU2 : LL} {ME2 : LL} {BA2 : LL} {ct2 : Int} (vac : qx_rc k s sg bg NA NU ME BA ct 3 = true) (vac2 : qx_rc k2 s2 sg2 bg2 NA2 NU2 ME2 BA2 ct2 3 = true) (can : okV k s sg bg NA NU ME BA ct = true → okV k2 s2 sg2 bg2 NA2 NU2 ME2 BA2 ct2 = true → qbc_rc k s sg bg NA NU ME BA ct k2 s2 sg2 bg2 NA2 NU2 ME2 BA2 ct2 = true) : (qce_c k s sg bg NA NU ME BA ct k2 s2 sg2 bg2 NA2 NU2 ME2 BA2 ct2) = true := by
  unfold qce_c
  refine andT (by first | exact qbl_cc vac | exact qbl_cc vac2) ?_
  refine bifT (fun b1 => ?_) (fun b1 => ?_)
  · skip
    refine andT (by first | exact qbl_cc vac | exact qbl_cc vac2) ?_
    refine bifT (fun b2 => ?_) (fun b2 => ?_)
    · skip
      refine andT (by exact can ((qbl_vv k s sg bg NA NU ME BA ct).symm.trans b1) ((qbl_vv k2 s2 sg2 bg2 NA2 NU2 ME2 BA2 ct2).symm.trans b2)) ?_
      rfl
    · skip
      rfl
  · skip
    rfl
theorem qce_vv (k s : Int) (sg bg : Bool) (NA NU ME BA : LL) (ct : Int) (k2 s2 : Int) (sg2 bg2 : Bool) (NA2 NU2 ME2 BA2 : LL) (ct2 : Int) : qce_v k s sg bg NA NU ME BA ct k2 s2 sg2 bg2 NA2 NU2 ME2 BA2 ct2 = bif okV k s sg bg NA NU ME BA ct then (bif okV k2 s2 sg2 bg2 NA2 NU2 ME2 BA2 ct2 then canV k ME BA ct k2 ME2 BA2 ct2 else false) else false := by
  unfold qce_v
  rw [qbl_vv, qbl_vv]; rfl
abbrev qbp_4_σ := LL × LL × Int
abbrev qbp_4_ω := (Unit) ⊕ (Unit)
noncomputable def qbp_4_step (A C : LL) (i : Int) : Tr (qbp_4_σ ⊕ qbp_4_ω) := (.ite ((decide (i < (A.length : Int))) = true) (.ite ((0 : Int) ≤ i ∧ i < (A.length : Int)) (.ite ((0 : Int) ≤ i ∧ i < (C.length : Int)) (.ite ((!((nth (row A i) 0).str == (nth (row C i) 0).str)) = true) (.ok (.inr (.inl ())))
     (.ok (.inl (A, C, (IntKind.wrap .i64 (i + (1 : Int)))))))
    .no)
   .no)
  (.ok (.inr (.inr ()))))
noncomputable def qbp_4_st : qbp_4_σ → Tr (qbp_4_σ ⊕ qbp_4_ω) := fun x => (qbp_4_step (x.1) (x.2.1) (x.2.2))
noncomputable def qbp_o4_1 (A C : LL) (i : Int) : Bool := is (A = C ∧ Typed tab (.slice 9) (.l A) ∧ i = 0)
noncomputable def qbp_4_fin (A C : LL) (i : Int) : Told qbp_4_ω := (.leaf (qbp_o4_1 A C i) (.inr ()))
def qbp_4_sl (x : qbp_4_σ) : List Slot := [⟨.val false [⟨.slice 9, .sh, TC.l (x.1)⟩], ⟨0, 0⟩⟩, ⟨.val false [⟨.slice 9, .sh, TC.l (x.2.1)⟩], ⟨0, 0⟩⟩, ⟨.val false [⟨.int .i64, .sh, TC.i (x.2.2)⟩], ⟨0, 0⟩⟩]
def qbp_4_out : qbp_4_ω → Ex × List Slot := (Sum.elim (fun x => (.ret, [⟨.val false [⟨.bool, .sh, TC.b false⟩], ⟨0, 0⟩⟩])) (fun x => (.exit 0, [Slot.none])))
noncomputable def qbp_lo4 : List Slot → Option (Told (Ex × List Slot)) := fun s => match s with
  | [⟨.val false [⟨.slice 9, .sh, TC.l A⟩], ⟨0, 0⟩⟩, ⟨.val false [⟨.slice 9, .sh, TC.l C⟩], ⟨0, 0⟩⟩, ⟨.val false [⟨.int .i64, .sh, TC.i i⟩], ⟨0, 0⟩⟩] => some (((qbp_4_fin A C i)).map qbp_4_out)
  | _ => .none
noncomputable def qbp_lo : LoopTeller := fun r s => bif Nat.beq r 4 then qbp_lo4 s else .none
theorem qbp_4_r (A C : LL) (i : Int) (fuel : Nat) : rounds (rnd tab FT D61 live 38 qbp_lo 0 4) leave (fuel + 1) (qbp_4_sl (A, C, i)) = ((qbp_4_step A C i)).run (goOn (fun s => rounds (rnd tab FT D61 live 38 qbp_lo 0 4) leave fuel (qbp_4_sl s)) fun w => some (qbp_4_out w)) := by kernel_rfl
theorem qbp_4_h (A C : LL) (i : Int) (ow : qbp_4_ω) : ((qbp_4_fin A C i)).val = some ow → ∃ fuel, loopN qbp_4_st fuel (A, C, i) = some ow := by
  intro h
  refine auto_leaf (R := Sum.inr ()) (fun ho => ?_) h
  obtain ⟨rfl, ht, rfl⟩ := is_iff.1 ho
  have hlen : A.length ≤ 140737488351232 := by have := typed_room ht; simp only [show (tab 9).bytes = 16 from rfl] at this; omega
  refine ⟨_, loopN_run (N := A.length) (fun i => (A, A, (i : Int))) (fun i hi => ?_) ?_ A.length 0 (by omega)⟩
  · have c0 : Typed tab (.str) (.s (nth (A.getD i []) 0).str) := typed_s (typed_cell ht (A.getD i []) (mem_getD hi) 0 (by decide))
    show (qbp_4_step A A (i : Int)).val = _
    unfold qbp_4_step
    refine Tr.t (by simp; omega) ?_
    refine Tr.t (by first | omega | (constructor <;> omega)) ?_
    refine Tr.t (by first | omega | (constructor <;> omega)) ?_
    refine Tr.n (by simp [qbf_rv, qbd_rv, qx_rv, qbc_rv, qbh_rv, qk_rv, qi_rv, qbk_rv, qt_rv, qw_rv]) ?_
    rw [Tr.val_ok, wrap64 (i := (i : Int) + 1) (by omega) (by omega)]; rfl
  · show (qbp_4_step A A (A.length : Int)).val = _
    refine Tr.n (by simp) ?_
    rfl
theorem qbp_is4 : LoopIs tab FT D61 live 38 qbp_lo 0 4 := by
  refine loop_told (sl := qbp_4_sl) (step := qbp_4_st) (out := qbp_4_out) (lor := qbp_lo4) (fin := fun x => (qbp_4_fin (x.1) (x.2.1) (x.2.2))) (fun _ => rfl) ?_ (fun x n => qbp_4_r x.1 x.2.1 x.2.2 n) (fun x ow => qbp_4_h x.1 x.2.1 x.2.2 ow)
  intro s t h
  unfold qbp_lo4 at h
  split at h
  · cases h; exact ⟨(_, _, _), rfl, rfl⟩
  · cases h
noncomputable def qbp_t (A C : LL) : Tr (Bool) := (.ite ((!((A.length : Int) == (C.length : Int))) = true) (.ok false)
  (.ite ((qbp_o4_1 A C (0 : Int)) = true) (.ok true)
   .no))
def qbp_mk (p : Bool) : Res := [(false, [⟨.bool, .sh, TC.b p⟩])]
noncomputable def qbp_c (A C : LL) : Bool := is (A = C ∧ Typed tab (.slice 9) (.l A))
noncomputable def qbp_v (A C : LL) : Bool := true
theorem qbp_l (A C : LL) : (qbp_c A C) = true → (qbp_t A C).val = some (qbp_v A C) := by
  intro h
  obtain ⟨rfl, ht⟩ := is_iff.1 h
  unfold qbp_t
  refine Tr.n (by simp) ?_
  refine Tr.t (is_true ⟨rfl, ht, rfl⟩) ?_
  rfl
noncomputable def qbp_S : List Arg → Option (Bool × Res) := fun xs => match xs with
  | [(false, [(.slice 9, TC.l A)]), (false, [(.slice 9, TC.l C)])] => some ((qbp_c A C), qbp_mk (qbp_v A C))
  | _ => .none
theorem qbp_e (A C : LL) : runF tab FT D61 live 38 qbp_lo [(false, [(.slice 9, TC.l A)]), (false, [(.slice 9, TC.l C)])] = (qbp_t A C).run fun p => some (qbp_mk p) := by kernel_rfl
theorem qbp_s : ∀ xs r, qbp_S xs = some (true, r) → runF tab FT D61 live 38 qbp_lo xs = some r := by
  intro xs r h
  unfold qbp_S at h
  split at h
  · simp only [Option.some.injEq, Prod.mk.injEq] at h
    obtain ⟨h1, rfl⟩ := h
    exact fun_told (qbp_e _ _) (qbp_l _ _) h1
  · cases h
noncomputable def D62 : Dt := also D61 38 qbp_S
theorem d62 : DOk Go.Proofs.Try.prog tab D62 := d61.also mixed_ok tab_ok names_ok (fnLoops_one (by kernel_rfl) qbp_is4) qbp_s
abbrev qbr_4_σ := LL × LL × Int
abbrev qbr_4_ω := (Unit) ⊕ (Unit)
noncomputable def qbr_4_step (A C : LL) (i : Int) : Tr (qbr_4_σ ⊕ qbr_4_ω) := (.ite ((decide (i < (A.length : Int))) = true) (.ite ((0 : Int) ≤ i ∧ i < (A.length : Int)) (.ite ((0 : Int) ≤ i ∧ i < (C.length : Int)) (.ite ((!((nth (row A i) 0).int == (nth (row C i) 0).int)) = true) (.ok (.inr (.inl ())))
     (.ok (.inl (A, C, (IntKind.wrap .i64 (i + (1 : Int)))))))
    .no)
   .no)
  (.ok (.inr (.inr ()))))
noncomputable def qbr_4_st : qbr_4_σ → Tr (qbr_4_σ ⊕ qbr_4_ω) := fun x => (qbr_4_step (x.1) (x.2.1) (x.2.2))
noncomputable def qbr_o4_1 (A C : LL) (i : Int) : Bool := is (A = C ∧ Typed tab (.slice 2) (.l A) ∧ i = 0)
noncomputable def qbr_4_fin (A C : LL) (i : Int) : Told qbr_4_ω := (.leaf (qbr_o4_1 A C i) (.inr ()))
def qbr_4_sl (x : qbr_4_σ) : List Slot := [⟨.val false [⟨.slice 2, .sh, TC.l (x.1)⟩], ⟨0, 0⟩⟩, ⟨.val false [⟨.slice 2, .sh, TC.l (x.2.1)⟩], ⟨0, 0⟩⟩, ⟨.val false [⟨.int .i64, .sh, TC.i (x.2.2)⟩], ⟨0, 0⟩⟩]
def qbr_4_out : qbr_4_ω → Ex × List Slot := (Sum.elim (fun x => (.ret, [⟨.val false [⟨.bool, .sh, TC.b false⟩], ⟨0, 0⟩⟩])) (fun x => (.exit 0, [Slot.none])))
noncomputable def qbr_lo4 : List Slot → Option (Told (Ex × List Slot)) := fun s => match s with
  | [⟨.val false [⟨.slice 2, .sh, TC.l A⟩], ⟨0, 0⟩⟩, ⟨.val false [⟨.slice 2, .sh, TC.l C⟩], ⟨0, 0⟩⟩, ⟨.val false [⟨.int .i64, .sh, TC.i i⟩], ⟨0, 0⟩⟩] => some (((qbr_4_fin A C i)).map qbr_4_out)
  | _ => .none
noncomputable def qbr_lo : LoopTeller := fun r s => bif Nat.beq r 4 then qbr_lo4 s else .none
theorem qbr_4_r (A C : LL) (i : Int) (fuel : Nat) : rounds (rnd tab FT D62 live 39 qbr_lo 0 4) leave (fuel + 1) (qbr_4_sl (A, C, i)) = ((qbr_4_step A C i)).run (goOn (fun s => rounds (rnd tab FT D62 live 39 qbr_lo 0 4) leave fuel (qbr_4_sl s)) fun w => some (qbr_4_out w)) := by kernel_rfl
theorem qbr_4_h (A C : LL) (i : Int) (ow : qbr_4_ω) : ((qbr_4_fin A C i)).val = some ow → ∃ fuel, loopN qbr_4_st fuel (A, C, i) = some ow := by
  intro h
  refine auto_leaf (R := Sum.inr ()) (fun ho => ?_) h
  obtain ⟨rfl, ht, rfl⟩ := is_iff.1 ho
  have hlen : A.length ≤ 140737488351232 := by have := typed_room ht; simp only [show (tab 2).bytes = 8 from rfl] at this; omega
  refine ⟨_, loopN_run (N := A.length) (fun i => (A, A, (i : Int))) (fun i hi => ?_) ?_ A.length 0 (by omega)⟩
  · skip
    show (qbr_4_step A A (i : Int)).val = _
    unfold qbr_4_step
    refine Tr.t (by simp; omega) ?_
    refine Tr.t (by first | omega | (constructor <;> omega)) ?_
    refine Tr.t (by first | omega | (constructor <;> omega)) ?_
    refine Tr.n (by simp [qbf_rv, qbd_rv, qx_rv, qbc_rv, qbh_rv, qk_rv, qi_rv, qbk_rv, qt_rv, qw_rv]) ?_
    rw [Tr.val_ok, wrap64 (i := (i : Int) + 1) (by omega) (by omega)]; rfl
  · show (qbr_4_step A A (A.length : Int)).val = _
    refine Tr.n (by simp) ?_
    rfl
theorem qbr_is4 : LoopIs tab FT D62 live 39 qbr_lo 0 4 := by
  refine loop_told (sl := qbr_4_sl) (step := qbr_4_st) (out := qbr_4_out) (lor := qbr_lo4) (fin := fun x => (qbr_4_fin (x.1) (x.2.1) (x.2.2))) (fun _ => rfl) ?_ (fun x n => qbr_4_r x.1 x.2.1 x.2.2 n) (fun x ow => qbr_4_h x.1 x.2.1 x.2.2 ow)
  intro s t h
  unfold qbr_lo4 at h
  split at h
  · cases h; exact ⟨(_, _, _), rfl, rfl⟩
  · cases h
noncomputable def qbr_t (A C : LL) : Tr (Bool) := (.ite ((!((A.length : Int) == (C.length : Int))) = true) (.ok false)
  (.ite ((qbr_o4_1 A C (0 : Int)) = true) (.ok true)
   .no))
def qbr_mk (p : Bool) : Res := [(false, [⟨.bool, .sh, TC.b p⟩])]
noncomputable def qbr_c (A C : LL) : Bool := is (A = C ∧ Typed tab (.slice 2) (.l A))
noncomputable def qbr_v (A C : LL) : Bool := true
theorem qbr_l (A C : LL) : (qbr_c A C) = true → (qbr_t A C).val = some (qbr_v A C) := by
  intro h
  obtain ⟨rfl, ht⟩ := is_iff.1 h
  unfold qbr_t
  refine Tr.n (by simp) ?_
  refine Tr.t (is_true ⟨rfl, ht, rfl⟩) ?_
  rfl
noncomputable def qbr_S : List Arg → Option (Bool × Res) := fun xs => match xs with
  | [(false, [(.slice 2, TC.l A)]), (false, [(.slice 2, TC.l C)])] => some ((qbr_c A C), qbr_mk (qbr_v A C))
  | _ => .none
theorem qbr_e (A C : LL) : runF tab FT D62 live 39 qbr_lo [(false, [(.slice 2, TC.l A)]), (false, [(.slice 2, TC.l C)])] = (qbr_t A C).run fun p => some (qbr_mk p) := by kernel_rfl
theorem qbr_s : ∀ xs r, qbr_S xs = some (true, r) → runF tab FT D62 live 39 qbr_lo xs = some r := by
  intro xs r h
  unfold qbr_S at h
  split at h
  · simp only [Option.some.injEq, Prod.mk.injEq] at h
    obtain ⟨h1, rfl⟩ := h
    exact fun_told (qbr_e _ _) (qbr_l _ _) h1
  · cases h
noncomputable def D63 : Dt := also D62 39 qbr_S
theorem d63 : DOk Go.Proofs.Try.prog tab D63 := d62.also mixed_ok tab_ok names_ok (fnLoops_one (by kernel_rfl) qbr_is4) qbr_s
section
class qbt_O where n : Nat
variable [i_laws_eqType : qbt_O]
noncomputable def qbt_rc (x0 x1 : Int) (x2 x3 : Bool) (x4 x5 x6 x7 : LL) (x8 y0 y1 : Int) (y2 y3 : Bool) (y4 y5 y6 y7 : LL) (y8 : Int) : Bool := is (max (rowsDep x6) (rowsDep x7) < qbt_O.n ∧ x0 = y0 ∧ x1 = y1 ∧ x2 = y2 ∧ x3 = y3 ∧ x4 = y4 ∧ x5 = y5 ∧ x6 = y6 ∧ x7 = y7 ∧ x8 = y8 ∧ Typed tab (.slice 9) (.l x4) ∧ Typed tab (.slice 2) (.l x5) ∧ Typed tab (.slice 71) (.l x6) ∧ Typed tab (.slice 32) (.l x7))
noncomputable def qbt_rv (x0 x1 : Int) (x2 x3 : Bool) (x4 x5 x6 x7 : LL) (x8 y0 y1 : Int) (y2 y3 : Bool) (y4 y5 y6 y7 : LL) (y8 : Int) : Bool := true
def qbt_rmk (p : Bool) : Res := [(false, [⟨.bool, .sh, TC.b p⟩])]
noncomputable def qbt_rS : List Arg → Option (Bool × Res) := fun xs => match xs with
  | [(true, [(.int .i64, TC.i x0), (.int .i64, TC.i x1), (.bool, TC.b x2), (.bool, TC.b x3), (.slice 9, TC.l x4), (.slice 2, TC.l x5), (.slice 71, TC.l x6), (.slice 32, TC.l x7), (.int .i64, TC.i x8)]), (true, [(.int .i64, TC.i y0), (.int .i64, TC.i y1), (.bool, TC.b y2), (.bool, TC.b y3), (.slice 9, TC.l y4), (.slice 2, TC.l y5), (.slice 71, TC.l y6), (.slice 32, TC.l y7), (.int .i64, TC.i y8)])] => some ((qbt_rc x0 x1 x2 x3 x4 x5 x6 x7 x8 y0 y1 y2 y3 y4 y5 y6 y7 y8), qbt_rmk (qbt_rv x0 x1 x2 x3 x4 x5 x6 x7 x8 y0 y1 y2 y3 y4 y5 y6 y7 y8))
  | _ => .none
noncomputable def D64 : Dt := also D63 13 qbt_rS
class qbt_G : Prop where ok : DOk Go.Proofs.Try.prog tab D64
variable [g_laws_eqType : qbt_G]
theorem d64 : DOk Go.Proofs.Try.prog tab D64 := qbt_G.ok
noncomputable def qck_t (x0 : BS) (x1 x2 x3 : Int) (x4 x5 : Bool) (x6 x7 x8 x9 : LL) (x10 : Int) (y0 : BS) (y1 y2 y3 : Int) (y4 y5 : Bool) (y6 y7 y8 y9 : LL) (y10 : Int) : Tr (Bool) := (.ite ((!(x0 == y0)) = true) (.ok false)
  (.ite ((!(x1 == y1)) = true) (.ok false)
   (.ite ((qbt_rc x2 x3 x4 x5 x6 x7 x8 x9 x10 y2 y3 y4 y5 y6 y7 y8 y9 y10) = true) (.ite ((!(qbt_rv x2 x3 x4 x5 x6 x7 x8 x9 x10 y2 y3 y4 y5 y6 y7 y8 y9 y10)) = true) (.ok false)
     (.ok true))
    .no)))
def qck_mk (p : Bool) : Res := [(false, [⟨.bool, .sh, TC.b p⟩])]
noncomputable def qck_c (x0 : BS) (x1 x2 x3 : Int) (x4 x5 : Bool) (x6 x7 x8 x9 : LL) (x10 : Int) (y0 : BS) (y1 y2 y3 : Int) (y4 y5 : Bool) (y6 y7 y8 y9 : LL) (y10 : Int) : Bool := (bif (!(x0 == y0)) then true else (bif (!(x1 == y1)) then true else ((qbt_rc x2 x3 x4 x5 x6 x7 x8 x9 x10 y2 y3 y4 y5 y6 y7 y8 y9 y10) && (bif (!(qbt_rv x2 x3 x4 x5 x6 x7 x8 x9 x10 y2 y3 y4 y5 y6 y7 y8 y9 y10)) then true else true))))
noncomputable def qck_v (x0 : BS) (x1 x2 x3 : Int) (x4 x5 : Bool) (x6 x7 x8 x9 : LL) (x10 : Int) (y0 : BS) (y1 y2 y3 : Int) (y4 y5 : Bool) (y6 y7 y8 y9 : LL) (y10 : Int) : Bool := (bif (!(x0 == y0)) then false else (bif (!(x1 == y1)) then false else (bif (!(qbt_rv x2 x3 x4 x5 x6 x7 x8 x9 x10 y2 y3 y4 y5 y6 y7 y8 y9 y10)) then false else true)))
theorem qck_l (x0 : BS) (x1 x2 x3 : Int) (x4 x5 : Bool) (x6 x7 x8 x9 : LL) (x10 : Int) (y0 : BS) (y1 y2 y3 : Int) (y4 y5 : Bool) (y6 y7 y8 y9 : LL) (y10 : Int) : (qck_c x0 x1 x2 x3 x4 x5 x6 x7 x8 x9 x10 y0 y1 y2 y3 y4 y5 y6 y7 y8 y9 y10) = true → (qck_t x0 x1 x2 x3 x4 x5 x6 x7 x8 x9 x10 y0 y1 y2 y3 y4 y5 y6 y7 y8 y9 y10).val = some (qck_v x0 x1 x2 x3 x4 x5 x6 x7 x8 x9 x10 y0 y1 y2 y3 y4 y5 y6 y7 y8 y9 y10) := by
  unfold qck_t qck_v qck_c
  exact fun h => (Tr.ss h (fun h => rfl) (fun h => (Tr.ss h (fun h => rfl) (fun h => (Tr.gb h fun h => (Tr.ss h (fun h => rfl) (fun h => rfl)))))))
noncomputable def qck_S : List Arg → Option (Bool × Res) := fun xs => match xs with
  | [(true, [(.str, TC.s x0), (.int .i64, TC.i x1), (.int .i64, TC.i x2), (.int .i64, TC.i x3), (.bool, TC.b x4), (.bool, TC.b x5), (.slice 9, TC.l x6), (.slice 2, TC.l x7), (.slice 71, TC.l x8), (.slice 32, TC.l x9), (.int .i64, TC.i x10)]), (true, [(.str, TC.s y0), (.int .i64, TC.i y1), (.int .i64, TC.i y2), (.int .i64, TC.i y3), (.bool, TC.b y4), (.bool, TC.b y5), (.slice 9, TC.l y6), (.slice 2, TC.l y7), (.slice 71, TC.l y8), (.slice 32, TC.l y9), (.int .i64, TC.i y10)])] => some ((qck_c x0 x1 x2 x3 x4 x5 x6 x7 x8 x9 x10 y0 y1 y2 y3 y4 y5 y6 y7 y8 y9 y10), qck_mk (qck_v x0 x1 x2 x3 x4 x5 x6 x7 x8 x9 x10 y0 y1 y2 y3 y4 y5 y6 y7 y8 y9 y10))
  | _ => .none
theorem qck_e (x0 : BS) (x1 x2 x3 : Int) (x4 x5 : Bool) (x6 x7 x8 x9 : LL) (x10 : Int) (y0 : BS) (y1 y2 y3 : Int) (y4 y5 : Bool) (y6 y7 y8 y9 : LL) (y10 : Int) : runF tab FT D64 live 76 noLoops [(true, [(.str, TC.s x0), (.int .i64, TC.i x1), (.int .i64, TC.i x2), (.int .i64, TC.i x3), (.bool, TC.b x4), (.bool, TC.b x5), (.slice 9, TC.l x6), (.slice 2, TC.l x7), (.slice 71, TC.l x8), (.slice 32, TC.l x9), (.int .i64, TC.i x10)]), (true, [(.str, TC.s y0), (.int .i64, TC.i y1), (.int .i64, TC.i y2), (.int .i64, TC.i y3), (.bool, TC.b y4), (.bool, TC.b y5), (.slice 9, TC.l y6), (.slice 2, TC.l y7), (.slice 71, TC.l y8), (.slice 32, TC.l y9), (.int .i64, TC.i y10)])] = (qck_t x0 x1 x2 x3 x4 x5 x6 x7 x8 x9 x10 y0 y1 y2 y3 y4 y5 y6 y7 y8 y9 y10).run fun p => some (qck_mk p) := by kernel_rfl
theorem qck_s : ∀ xs r, qck_S xs = some (true, r) → runF tab FT D64 live 76 noLoops xs = some r := by
  intro xs r h
  unfold qck_S at h
  split at h
  · simp only [Option.some.injEq, Prod.mk.injEq] at h
    obtain ⟨h1, rfl⟩ := h
    exact fun_told (qck_e _ _ _ _ _ _ _ _ _ _ _ _ _ _ _ _ _ _ _ _ _ _) (qck_l _ _ _ _ _ _ _ _ _ _ _ _ _ _ _ _ _ _ _ _ _ _) h1
  · cases h
noncomputable def D65 : Dt := also D64 76 qck_S
theorem d65 : DOk Go.Proofs.Try.prog tab D65 := d64.also mixed_ok tab_ok names_ok noLoops_ok qck_s
theorem qck_cc {x0 : BS} {x1 : Int} {x2 : Int} {x3 : Int} {x4 : Bool} {x5 : Bool} {x6 : LL} {x7 : LL} {x8 : LL} {x9 : LL} {x10 : Int} (h0 : (qbt_rc x2 x3 x4 x5 x6 x7 x8 x9 x10 x2 x3 x4 x5 x6 x7 x8 x9 x10) = true) : (qck_c x0 x1 x2 x3 x4 x5 x6 x7 x8 x9 x10 x0 x1 x2 x3 x4 x5 x6 x7 x8 x9 x10) = true := by
  unfold qck_c
  simp [h0, qbh_rv, qk_rv, qt_rv, qi_rv, qbk_rv, qw_rv, qbd_rv, qbf_rv, qx_rv, qbc_rv, qbt_rv]
abbrev qbo_4_σ := LL × LL × Int
abbrev qbo_4_ω := (Unit) ⊕ (Unit)
noncomputable def qbo_4_step (A C : LL) (i : Int) : Tr (qbo_4_σ ⊕ qbo_4_ω) := (.ite ((decide (i < (A.length : Int))) = true) (.ite ((0 : Int) ≤ i ∧ i < (A.length : Int)) (.ite ((0 : Int) ≤ i ∧ i < (C.length : Int)) (.ite ((qck_c ((nth (row A i) 0).str) ((nth (row A i) 1).int) ((nth (row A i) 2).int) ((nth (row A i) 3).int) ((nth (row A i) 4).bool) ((nth (row A i) 5).bool) ((nth (row A i) 6).list) ((nth (row A i) 7).list) ((nth (row A i) 8).list) ((nth (row A i) 9).list) ((nth (row A i) 10).int) ((nth (row C i) 0).str) ((nth (row C i) 1).int) ((nth (row C i) 2).int) ((nth (row C i) 3).int) ((nth (row C i) 4).bool) ((nth (row C i) 5).bool) ((nth (row C i) 6).list) ((nth (row C i) 7).list) ((nth (row C i) 8).list) ((nth (row C i) 9).list) ((nth (row C i) 10).int)) = true) (.ite ((!(qck_v ((nth (row A i) 0).str) ((nth (row A i) 1).int) ((nth (row A i) 2).int) ((nth (row A i) 3).int) ((nth (row A i) 4).bool) ((nth (row A i) 5).bool) ((nth (row A i) 6).list) ((nth (row A i) 7).list) ((nth (row A i) 8).list) ((nth (row A i) 9).list) ((nth (row A i) 10).int) ((nth (row C i) 0).str) ((nth (row C i) 1).int) ((nth (row C i) 2).int) ((nth (row C i) 3).int) ((nth (row C i) 4).bool) ((nth (row C i) 5).bool) ((nth (row C i) 6).list) ((nth (row C i) 7).list) ((nth (row C i) 8).list) ((nth (row C i) 9).list) ((nth (row C i) 10).int))) = true) (.ok (.inr (.inl ())))
      (.ok (.inl (A, C, (IntKind.wrap .i64 (i + (1 : Int)))))))
     .no)
    .no)
   .no)
  (.ok (.inr (.inr ()))))
noncomputable def qbo_4_st : qbo_4_σ → Tr (qbo_4_σ ⊕ qbo_4_ω) := fun x => (qbo_4_step (x.1) (x.2.1) (x.2.2))
noncomputable def qbo_o4_1 (A C : LL) (i : Int) : Bool := is (A = C ∧ Typed tab (.slice 71) (.l A) ∧ (∀ x : List TC, x ∈ A → (qck_c ((nth x 0).str) ((nth x 1).int) ((nth x 2).int) ((nth x 3).int) ((nth x 4).bool) ((nth x 5).bool) ((nth x 6).list) ((nth x 7).list) ((nth x 8).list) ((nth x 9).list) ((nth x 10).int) ((nth x 0).str) ((nth x 1).int) ((nth x 2).int) ((nth x 3).int) ((nth x 4).bool) ((nth x 5).bool) ((nth x 6).list) ((nth x 7).list) ((nth x 8).list) ((nth x 9).list) ((nth x 10).int)) = true) ∧ i = 0)
noncomputable def qbo_4_fin (A C : LL) (i : Int) : Told qbo_4_ω := (.leaf (qbo_o4_1 A C i) (.inr ()))
def qbo_4_sl (x : qbo_4_σ) : List Slot := [⟨.val false [⟨.slice 71, .sh, TC.l (x.1)⟩], ⟨0, 0⟩⟩, ⟨.val false [⟨.slice 71, .sh, TC.l (x.2.1)⟩], ⟨0, 0⟩⟩, ⟨.val false [⟨.int .i64, .sh, TC.i (x.2.2)⟩], ⟨0, 0⟩⟩]
def qbo_4_out : qbo_4_ω → Ex × List Slot := (Sum.elim (fun x => (.ret, [⟨.val false [⟨.bool, .sh, TC.b false⟩], ⟨0, 0⟩⟩])) (fun x => (.exit 0, [Slot.none])))
noncomputable def qbo_lo4 : List Slot → Option (Told (Ex × List Slot)) := fun s => match s with
  | [⟨.val false [⟨.slice 71, .sh, TC.l A⟩], ⟨0, 0⟩⟩, ⟨.val false [⟨.slice 71, .sh, TC.l C⟩], ⟨0, 0⟩⟩, ⟨.val false [⟨.int .i64, .sh, TC.i i⟩], ⟨0, 0⟩⟩] => some (((qbo_4_fin A C i)).map qbo_4_out)
  | _ => .none
noncomputable def qbo_lo : LoopTeller := fun r s => bif Nat.beq r 4 then qbo_lo4 s else .none
theorem qbo_4_r (A C : LL) (i : Int) (fuel : Nat) : rounds (rnd tab FT D65 live 40 qbo_lo 0 4) leave (fuel + 1) (qbo_4_sl (A, C, i)) = ((qbo_4_step A C i)).run (goOn (fun s => rounds (rnd tab FT D65 live 40 qbo_lo 0 4) leave fuel (qbo_4_sl s)) fun w => some (qbo_4_out w)) := by kernel_rfl
theorem qbo_4_h (A C : LL) (i : Int) (ow : qbo_4_ω) : ((qbo_4_fin A C i)).val = some ow → ∃ fuel, loopN qbo_4_st fuel (A, C, i) = some ow := by
  intro h
  refine auto_leaf (R := Sum.inr ()) (fun ho => ?_) h
  obtain ⟨rfl, ht, hr0, rfl⟩ := is_iff.1 ho
  have hlen : A.length ≤ 140737488351232 := by have := typed_room ht; simp only [show (tab 71).bytes = 152 from rfl] at this; omega
  refine ⟨_, loopN_run (N := A.length) (fun i => (A, A, (i : Int))) (fun i hi => ?_) ?_ A.length 0 (by omega)⟩
  · have c0 : Typed tab (.str) (.s (nth (A.getD i []) 0).str) := typed_s (typed_cell ht (A.getD i []) (mem_getD hi) 0 (by decide))
    have c6 : Typed tab (.slice 9) (.l (nth (A.getD i []) 6).list) := typed_list (typed_cell ht (A.getD i []) (mem_getD hi) 6 (by decide))
    have c7 : Typed tab (.slice 2) (.l (nth (A.getD i []) 7).list) := typed_list (typed_cell ht (A.getD i []) (mem_getD hi) 7 (by decide))
    have c8 : Typed tab (.slice 71) (.l (nth (A.getD i []) 8).list) := typed_list (typed_cell ht (A.getD i []) (mem_getD hi) 8 (by decide))
    have c9 : Typed tab (.slice 32) (.l (nth (A.getD i []) 9).list) := typed_list (typed_cell ht (A.getD i []) (mem_getD hi) 9 (by decide))
    show (qbo_4_step A A (i : Int)).val = _
    unfold qbo_4_step
    refine Tr.t (by simp; omega) ?_
    refine Tr.t (by first | omega | (constructor <;> omega)) ?_
    refine Tr.t (by first | omega | (constructor <;> omega)) ?_
    refine Tr.t (hr0 (A.getD i []) (mem_getD hi)) ?_
    refine Tr.n (by simp [qbf_rv, qbd_rv, qx_rv, qbc_rv, qck_v, qbt_rv, qbh_rv, qk_rv, qi_rv, qbk_rv, qt_rv, qw_rv]) ?_
    rw [Tr.val_ok, wrap64 (i := (i : Int) + 1) (by omega) (by omega)]; rfl
  · show (qbo_4_step A A (A.length : Int)).val = _
    refine Tr.n (by simp) ?_
    rfl
theorem qbo_is4 : LoopIs tab FT D65 live 40 qbo_lo 0 4 := by
  refine loop_told (sl := qbo_4_sl) (step := qbo_4_st) (out := qbo_4_out) (lor := qbo_lo4) (fin := fun x => (qbo_4_fin (x.1) (x.2.1) (x.2.2))) (fun _ => rfl) ?_ (fun x n => qbo_4_r x.1 x.2.1 x.2.2 n) (fun x ow => qbo_4_h x.1 x.2.1 x.2.2 ow)
  intro s t h
  unfold qbo_lo4 at h
  split at h
  · cases h; exact ⟨(_, _, _), rfl, rfl⟩
  · cases h
noncomputable def qbo_t (A C : LL) : Tr (Bool) := (.ite ((!((A.length : Int) == (C.length : Int))) = true) (.ok false)
  (.ite ((qbo_o4_1 A C (0 : Int)) = true) (.ok true)
   .no))
def qbo_mk (p : Bool) : Res := [(false, [⟨.bool, .sh, TC.b p⟩])]
noncomputable def qbo_c (A C : LL) : Bool := is (A = C ∧ Typed tab (.slice 71) (.l A) ∧ (∀ x : List TC, x ∈ A → (qck_c ((nth x 0).str) ((nth x 1).int) ((nth x 2).int) ((nth x 3).int) ((nth x 4).bool) ((nth x 5).bool) ((nth x 6).list) ((nth x 7).list) ((nth x 8).list) ((nth x 9).list) ((nth x 10).int) ((nth x 0).str) ((nth x 1).int) ((nth x 2).int) ((nth x 3).int) ((nth x 4).bool) ((nth x 5).bool) ((nth x 6).list) ((nth x 7).list) ((nth x 8).list) ((nth x 9).list) ((nth x 10).int)) = true))
noncomputable def qbo_v (A C : LL) : Bool := true
theorem qbo_l (A C : LL) : (qbo_c A C) = true → (qbo_t A C).val = some (qbo_v A C) := by
  intro h
  obtain ⟨rfl, ht, hr0⟩ := is_iff.1 h
  unfold qbo_t
  refine Tr.n (by simp) ?_
  refine Tr.t (is_true ⟨rfl, ht, hr0, rfl⟩) ?_
  rfl
noncomputable def qbo_S : List Arg → Option (Bool × Res) := fun xs => match xs with
  | [(false, [(.slice 71, TC.l A)]), (false, [(.slice 71, TC.l C)])] => some ((qbo_c A C), qbo_mk (qbo_v A C))
  | _ => .none
theorem qbo_e (A C : LL) : runF tab FT D65 live 40 qbo_lo [(false, [(.slice 71, TC.l A)]), (false, [(.slice 71, TC.l C)])] = (qbo_t A C).run fun p => some (qbo_mk p) := by kernel_rfl
theorem qbo_s : ∀ xs r, qbo_S xs = some (true, r) → runF tab FT D65 live 40 qbo_lo xs = some r := by
  intro xs r h
  unfold qbo_S at h
  split at h
  · simp only [Option.some.injEq, Prod.mk.injEq] at h
    obtain ⟨h1, rfl⟩ := h
    exact fun_told (qbo_e _ _) (qbo_l _ _) h1
  · cases h
noncomputable def D66 : Dt := also D65 40 qbo_S
theorem d66 : DOk Go.Proofs.Try.prog tab D66 := d65.also mixed_ok tab_ok names_ok (fnLoops_one (by kernel_rfl) qbo_is4) qbo_s
abbrev qbv_4_σ := LL × LL × Int
abbrev qbv_4_ω := (Unit) ⊕ (Unit)
noncomputable def qbv_4_step (A C : LL) (i : Int) : Tr (qbv_4_σ ⊕ qbv_4_ω) := (.ite ((decide (i < (A.length : Int))) = true) (.ite ((0 : Int) ≤ i ∧ i < (A.length : Int)) (.ite ((0 : Int) ≤ i ∧ i < (C.length : Int)) (.ite ((qbt_rc ((nth (row A i) 0).int) ((nth (row A i) 1).int) ((nth (row A i) 2).bool) ((nth (row A i) 3).bool) ((nth (row A i) 4).list) ((nth (row A i) 5).list) ((nth (row A i) 6).list) ((nth (row A i) 7).list) ((nth (row A i) 8).int) ((nth (row C i) 0).int) ((nth (row C i) 1).int) ((nth (row C i) 2).bool) ((nth (row C i) 3).bool) ((nth (row C i) 4).list) ((nth (row C i) 5).list) ((nth (row C i) 6).list) ((nth (row C i) 7).list) ((nth (row C i) 8).int)) = true) (.ite ((!(qbt_rv ((nth (row A i) 0).int) ((nth (row A i) 1).int) ((nth (row A i) 2).bool) ((nth (row A i) 3).bool) ((nth (row A i) 4).list) ((nth (row A i) 5).list) ((nth (row A i) 6).list) ((nth (row A i) 7).list) ((nth (row A i) 8).int) ((nth (row C i) 0).int) ((nth (row C i) 1).int) ((nth (row C i) 2).bool) ((nth (row C i) 3).bool) ((nth (row C i) 4).list) ((nth (row C i) 5).list) ((nth (row C i) 6).list) ((nth (row C i) 7).list) ((nth (row C i) 8).int))) = true) (.ok (.inr (.inl ())))
      (.ok (.inl (A, C, (IntKind.wrap .i64 (i + (1 : Int)))))))
     .no)
    .no)
   .no)
  (.ok (.inr (.inr ()))))
noncomputable def qbv_4_st : qbv_4_σ → Tr (qbv_4_σ ⊕ qbv_4_ω) := fun x => (qbv_4_step (x.1) (x.2.1) (x.2.2))
noncomputable def qbv_o4_1 (A C : LL) (i : Int) : Bool := is (A = C ∧ Typed tab (.slice 32) (.l A) ∧ (∀ x : List TC, x ∈ A → (qbt_rc ((nth x 0).int) ((nth x 1).int) ((nth x 2).bool) ((nth x 3).bool) ((nth x 4).list) ((nth x 5).list) ((nth x 6).list) ((nth x 7).list) ((nth x 8).int) ((nth x 0).int) ((nth x 1).int) ((nth x 2).bool) ((nth x 3).bool) ((nth x 4).list) ((nth x 5).list) ((nth x 6).list) ((nth x 7).list) ((nth x 8).int)) = true) ∧ i = 0)
noncomputable def qbv_4_fin (A C : LL) (i : Int) : Told qbv_4_ω := (.leaf (qbv_o4_1 A C i) (.inr ()))
def qbv_4_sl (x : qbv_4_σ) : List Slot := [⟨.val false [⟨.slice 32, .sh, TC.l (x.1)⟩], ⟨0, 0⟩⟩, ⟨.val false [⟨.slice 32, .sh, TC.l (x.2.1)⟩], ⟨0, 0⟩⟩, ⟨.val false [⟨.int .i64, .sh, TC.i (x.2.2)⟩], ⟨0, 0⟩⟩]
def qbv_4_out : qbv_4_ω → Ex × List Slot := (Sum.elim (fun x => (.ret, [⟨.val false [⟨.bool, .sh, TC.b false⟩], ⟨0, 0⟩⟩])) (fun x => (.exit 0, [Slot.none])))
noncomputable def qbv_lo4 : List Slot → Option (Told (Ex × List Slot)) := fun s => match s with
  | [⟨.val false [⟨.slice 32, .sh, TC.l A⟩], ⟨0, 0⟩⟩, ⟨.val false [⟨.slice 32, .sh, TC.l C⟩], ⟨0, 0⟩⟩, ⟨.val false [⟨.int .i64, .sh, TC.i i⟩], ⟨0, 0⟩⟩] => some (((qbv_4_fin A C i)).map qbv_4_out)
  | _ => .none
noncomputable def qbv_lo : LoopTeller := fun r s => bif Nat.beq r 4 then qbv_lo4 s else .none
theorem qbv_4_r (A C : LL) (i : Int) (fuel : Nat) : rounds (rnd tab FT D66 live 41 qbv_lo 0 4) leave (fuel + 1) (qbv_4_sl (A, C, i)) = ((qbv_4_step A C i)).run (goOn (fun s => rounds (rnd tab FT D66 live 41 qbv_lo 0 4) leave fuel (qbv_4_sl s)) fun w => some (qbv_4_out w)) := by kernel_rfl
theorem qbv_4_h (A C : LL) (i : Int) (ow : qbv_4_ω) : ((qbv_4_fin A C i)).val = some ow → ∃ fuel, loopN qbv_4_st fuel (A, C, i) = some ow := by
  intro h
  refine auto_leaf (R := Sum.inr ()) (fun ho => ?_) h
  obtain ⟨rfl, ht, hr0, rfl⟩ := is_iff.1 ho
  have hlen : A.length ≤ 140737488351232 := by have := typed_room ht; simp only [show (tab 32).bytes = 128 from rfl] at this; omega
  refine ⟨_, loopN_run (N := A.length) (fun i => (A, A, (i : Int))) (fun i hi => ?_) ?_ A.length 0 (by omega)⟩
  · have c4 : Typed tab (.slice 9) (.l (nth (A.getD i []) 4).list) := typed_list (typed_cell ht (A.getD i []) (mem_getD hi) 4 (by decide))
    have c5 : Typed tab (.slice 2) (.l (nth (A.getD i []) 5).list) := typed_list (typed_cell ht (A.getD i []) (mem_getD hi) 5 (by decide))
    have c6 : Typed tab (.slice 71) (.l (nth (A.getD i []) 6).list) := typed_list (typed_cell ht (A.getD i []) (mem_getD hi) 6 (by decide))
    have c7 : Typed tab (.slice 32) (.l (nth (A.getD i []) 7).list) := typed_list (typed_cell ht (A.getD i []) (mem_getD hi) 7 (by decide))
    show (qbv_4_step A A (i : Int)).val = _
    unfold qbv_4_step
    refine Tr.t (by simp; omega) ?_
    refine Tr.t (by first | omega | (constructor <;> omega)) ?_
    refine Tr.t (by first | omega | (constructor <;> omega)) ?_
    refine Tr.t (hr0 (A.getD i []) (mem_getD hi)) ?_
    refine Tr.n (by simp [qbf_rv, qbd_rv, qx_rv, qbc_rv, qbt_rv, qbh_rv, qk_rv, qi_rv, qbk_rv, qt_rv, qw_rv]) ?_
    rw [Tr.val_ok, wrap64 (i := (i : Int) + 1) (by omega) (by omega)]; rfl
  · show (qbv_4_step A A (A.length : Int)).val = _
    refine Tr.n (by simp) ?_
    rfl
theorem qbv_is4 : LoopIs tab FT D66 live 41 qbv_lo 0 4 := by
  refine loop_told (sl := qbv_4_sl) (step := qbv_4_st) (out := qbv_4_out) (lor := qbv_lo4) (fin := fun x => (qbv_4_fin (x.1) (x.2.1) (x.2.2))) (fun _ => rfl) ?_ (fun x n => qbv_4_r x.1 x.2.1 x.2.2 n) (fun x ow => qbv_4_h x.1 x.2.1 x.2.2 ow)
  intro s t h
  unfold qbv_lo4 at h
  split at h
  · cases h; exact ⟨(_, _, _), rfl, rfl⟩
  · cases h
noncomputable def qbv_t (A C : LL) : Tr (Bool) := (.ite ((!((A.length : Int) == (C.length : Int))) = true) (.ok false)
  (.ite ((qbv_o4_1 A C (0 : Int)) = true) (.ok true)
   .no))
def qbv_mk (p : Bool) : Res := [(false, [⟨.bool, .sh, TC.b p⟩])]
noncomputable def qbv_c (A C : LL) : Bool := is (A = C ∧ Typed tab (.slice 32) (.l A) ∧ (∀ x : List TC, x ∈ A → (qbt_rc ((nth x 0).int) ((nth x 1).int) ((nth x 2).bool) ((nth x 3).bool) ((nth x 4).list) ((nth x 5).list) ((nth x 6).list) ((nth x 7).list) ((nth x 8).int) ((nth x 0).int) ((nth x 1).int) ((nth x 2).bool) ((nth x 3).bool) ((nth x 4).list) ((nth x 5).list) ((nth x 6).list) ((nth x 7).list) ((nth x 8).int)) = true))
noncomputable def qbv_v (A C : LL) : Bool := true
theorem qbv_l (A C : LL) : (qbv_c A C) = true → (qbv_t A C).val = some (qbv_v A C) := by
  intro h
  obtain ⟨rfl, ht, hr0⟩ := is_iff.1 h
  unfold qbv_t
  refine Tr.n (by simp) ?_
  refine Tr.t (is_true ⟨rfl, ht, hr0, rfl⟩) ?_
  rfl
noncomputable def qbv_S : List Arg → Option (Bool × Res) := fun xs => match xs with
  | [(false, [(.slice 32, TC.l A)]), (false, [(.slice 32, TC.l C)])] => some ((qbv_c A C), qbv_mk (qbv_v A C))
  | _ => .none
theorem qbv_e (A C : LL) : runF tab FT D66 live 41 qbv_lo [(false, [(.slice 32, TC.l A)]), (false, [(.slice 32, TC.l C)])] = (qbv_t A C).run fun p => some (qbv_mk p) := by kernel_rfl
theorem qbv_s : ∀ xs r, qbv_S xs = some (true, r) → runF tab FT D66 live 41 qbv_lo xs = some r := by
  intro xs r h
  unfold qbv_S at h
  split at h
  · simp only [Option.some.injEq, Prod.mk.injEq] at h
    obtain ⟨h1, rfl⟩ := h
    exact fun_told (qbv_e _ _) (qbv_l _ _) h1
  · cases h
noncomputable def D67 : Dt := also D66 41 qbv_S
theorem d67 : DOk Go.Proofs.Try.prog tab D67 := d66.also mixed_ok tab_ok names_ok (fnLoops_one (by kernel_rfl) qbv_is4) qbv_s
noncomputable def qbt_t (x0 x1 : Int) (x2 x3 : Bool) (x4 x5 x6 x7 : LL) (x8 y0 y1 : Int) (y2 y3 : Bool) (y4 y5 y6 y7 : LL) (y8 : Int) : Tr (Bool) := (.ite ((!(x0 == y0)) = true) (.ok false)
  (.ite ((!(x1 == y1)) = true) (.ok false)
   (.ite ((!(x2 == y2)) = true) (.ok false)
    (.ite ((!(x3 == y3)) = true) (.ok false)
     (.ite ((qbp_c x4 y4) = true) (.ite ((!(qbp_v x4 y4)) = true) (.ok false)
       (.ite ((qbr_c x5 y5) = true) (.ite ((!(qbr_v x5 y5)) = true) (.ok false)
         (.ite ((qbo_c x6 y6) = true) (.ite ((!(qbo_v x6 y6)) = true) (.ok false)
           (.ite ((qbv_c x7 y7) = true) (.ite ((!(qbv_v x7 y7)) = true) (.ok false)
             (.ite ((!(x8 == y8)) = true) (.ok false)
              (.ok true)))
            .no))
          .no))
        .no))
      .no)))))
def qbt_mk (p : Bool) : Res := [(false, [⟨.bool, .sh, TC.b p⟩])]
noncomputable def qbt_c (x0 x1 : Int) (x2 x3 : Bool) (x4 x5 x6 x7 : LL) (x8 y0 y1 : Int) (y2 y3 : Bool) (y4 y5 y6 y7 : LL) (y8 : Int) : Bool := (bif (!(x0 == y0)) then true else (bif (!(x1 == y1)) then true else (bif (!(x2 == y2)) then true else (bif (!(x3 == y3)) then true else ((qbp_c x4 y4) && (bif (!(qbp_v x4 y4)) then true else ((qbr_c x5 y5) && (bif (!(qbr_v x5 y5)) then true else ((qbo_c x6 y6) && (bif (!(qbo_v x6 y6)) then true else ((qbv_c x7 y7) && (bif (!(qbv_v x7 y7)) then true else (bif (!(x8 == y8)) then true else true)))))))))))))
noncomputable def qbt_v (x0 x1 : Int) (x2 x3 : Bool) (x4 x5 x6 x7 : LL) (x8 y0 y1 : Int) (y2 y3 : Bool) (y4 y5 y6 y7 : LL) (y8 : Int) : Bool := (bif (!(x0 == y0)) then false else (bif (!(x1 == y1)) then false else (bif (!(x2 == y2)) then false else (bif (!(x3 == y3)) then false else (bif (!(qbp_v x4 y4)) then false else (bif (!(qbr_v x5 y5)) then false else (bif (!(qbo_v x6 y6)) then false else (bif (!(qbv_v x7 y7)) then false else (bif (!(x8 == y8)) then false else true)))))))))
theorem qbt_l (x0 x1 : Int) (x2 x3 : Bool) (x4 x5 x6 x7 : LL) (x8 y0 y1 : Int) (y2 y3 : Bool) (y4 y5 y6 y7 : LL) (y8 : Int) : (qbt_c x0 x1 x2 x3 x4 x5 x6 x7 x8 y0 y1 y2 y3 y4 y5 y6 y7 y8) = true → (qbt_t x0 x1 x2 x3 x4 x5 x6 x7 x8 y0 y1 y2 y3 y4 y5 y6 y7 y8).val = some (qbt_v x0 x1 x2 x3 x4 x5 x6 x7 x8 y0 y1 y2 y3 y4 y5 y6 y7 y8) := by
  unfold qbt_t qbt_v qbt_c
  exact fun h => (Tr.ss h (fun h => rfl) (fun h => (Tr.ss h (fun h => rfl) (fun h => (Tr.ss h (fun h => rfl) (fun h => (Tr.ss h (fun h => rfl) (fun h => (Tr.gb h fun h => (Tr.ss h (fun h => rfl) (fun h => (Tr.gb h fun h => (Tr.ss h (fun h => rfl) (fun h => (Tr.gb h fun h => (Tr.ss h (fun h => rfl) (fun h => (Tr.gb h fun h => (Tr.ss h (fun h => rfl) (fun h => (Tr.ss h (fun h => rfl) (fun h => rfl))))))))))))))))))))))
theorem qbt_e (x0 x1 : Int) (x2 x3 : Bool) (x4 x5 x6 x7 : LL) (x8 y0 y1 : Int) (y2 y3 : Bool) (y4 y5 y6 y7 : LL) (y8 : Int) : runF tab FT D67 live 13 noLoops [(true, [(.int .i64, TC.i x0), (.int .i64, TC.i x1), (.bool, TC.b x2), (.bool, TC.b x3), (.slice 9, TC.l x4), (.slice 2, TC.l x5), (.slice 71, TC.l x6), (.slice 32, TC.l x7), (.int .i64, TC.i x8)]), (true, [(.int .i64, TC.i y0), (.int .i64, TC.i y1), (.bool, TC.b y2), (.bool, TC.b y3), (.slice 9, TC.l y4), (.slice 2, TC.l y5), (.slice 71, TC.l y6), (.slice 32, TC.l y7), (.int .i64, TC.i y8)])] = (qbt_t x0 x1 x2 x3 x4 x5 x6 x7 x8 y0 y1 y2 y3 y4 y5 y6 y7 y8).run fun p => some (qbt_mk p) := by kernel_rfl
theorem qbt_nx (x0 x1 : Int) (x2 x3 : Bool) (x4 x5 x6 x7 : LL) (x8 y0 y1 : Int) (y2 y3 : Bool) (y4 y5 y6 y7 : LL) (y8 : Int) : is (max (rowsDep x6) (rowsDep x7) < qbt_O.n + 1 ∧ x0 = y0 ∧ x1 = y1 ∧ x2 = y2 ∧ x3 = y3 ∧ x4 = y4 ∧ x5 = y5 ∧ x6 = y6 ∧ x7 = y7 ∧ x8 = y8 ∧ Typed tab (.slice 9) (.l x4) ∧ Typed tab (.slice 2) (.l x5) ∧ Typed tab (.slice 71) (.l x6) ∧ Typed tab (.slice 32) (.l x7)) = true → (qbt_c x0 x1 x2 x3 x4 x5 x6 x7 x8 y0 y1 y2 y3 y4 y5 y6 y7 y8) = true ∧ (qbt_v x0 x1 x2 x3 x4 x5 x6 x7 x8 y0 y1 y2 y3 y4 y5 y6 y7 y8) = true := by
  intro h
  obtain ⟨hM, rfl, rfl, rfl, rfl, rfl, rfl, rfl, rfl, rfl, t4, t5, t6, t7⟩ := is_iff.1 h
  have c4 : qbp_c x4 x4 = true := is_true ⟨rfl, t4⟩
  have c5 : qbr_c x5 x5 = true := is_true ⟨rfl, t5⟩
  have c6 : qbo_c x6 x6 = true := is_true ⟨rfl, t6, fun x hx => qck_cc (is_true ⟨by have a := dep_cell hx 8; have b := dep_cell hx 9; omega, rfl, rfl, rfl, rfl, rfl, rfl, rfl, rfl, rfl, typed_list ((typed_elem t6 hx).2 6 (by decide)), typed_list ((typed_elem t6 hx).2 7 (by decide)), typed_list ((typed_elem t6 hx).2 8 (by decide)), typed_list ((typed_elem t6 hx).2 9 (by decide))⟩)⟩
  have c7 : qbv_c x7 x7 = true := is_true ⟨rfl, t7, fun x hx => is_true ⟨by have a := dep_cell hx 6; have b := dep_cell hx 7; omega, rfl, rfl, rfl, rfl, rfl, rfl, rfl, rfl, rfl, typed_list ((typed_elem t7 hx).2 4 (by decide)), typed_list ((typed_elem t7 hx).2 5 (by decide)), typed_list ((typed_elem t7 hx).2 6 (by decide)), typed_list ((typed_elem t7 hx).2 7 (by decide))⟩⟩
  constructor
  · unfold qbt_c
    simp only [c4, c5, c6, c7, qbp_v, qbr_v, qbo_v, qbv_v, beq_self_eq_true, Bool.not_true, cond_false, Bool.and_self]
  · unfold qbt_v
    simp only [qbp_v, qbr_v, qbo_v, qbv_v, beq_self_eq_true, Bool.not_true, cond_false]
theorem qbt_nxr (x0 x1 : Int) (x2 x3 : Bool) (x4 x5 x6 x7 : LL) (x8 y0 y1 : Int) (y2 y3 : Bool) (y4 y5 y6 y7 : LL) (y8 : Int) : qbt_rc (i_laws_eqType := ⟨qbt_O.n + 1⟩) x0 x1 x2 x3 x4 x5 x6 x7 x8 y0 y1 y2 y3 y4 y5 y6 y7 y8 = true → (qbt_c x0 x1 x2 x3 x4 x5 x6 x7 x8 y0 y1 y2 y3 y4 y5 y6 y7 y8) = true ∧ (qbt_v x0 x1 x2 x3 x4 x5 x6 x7 x8 y0 y1 y2 y3 y4 y5 y6 y7 y8) = (qbt_rv x0 x1 x2 x3 x4 x5 x6 x7 x8 y0 y1 y2 y3 y4 y5 y6 y7 y8) := fun h => qbt_nx x0 x1 x2 x3 x4 x5 x6 x7 x8 y0 y1 y2 y3 y4 y5 y6 y7 y8 h
theorem qbt_rs : ∀ xs r, qbt_rS (i_laws_eqType := ⟨qbt_O.n + 1⟩) xs = some (true, r) → runF tab FT D67 live 13 noLoops xs = some r := by
  intro xs r h
  unfold qbt_rS at h
  split at h
  · simp only [Option.some.injEq, Prod.mk.injEq] at h
    obtain ⟨h1, rfl⟩ := h
    have hx := qbt_nxr _ _ _ _ _ _ _ _ _ _ _ _ _ _ _ _ _ _ h1
    have ht := fun_told (qbt_e _ _ _ _ _ _ _ _ _ _ _ _ _ _ _ _ _ _) (qbt_l _ _ _ _ _ _ _ _ _ _ _ _ _ _ _ _ _ _) hx.1
    rw [hx.2] at ht
    exact ht
  · cases h
theorem qbt_step : qbt_G (i_laws_eqType := ⟨qbt_O.n + 1⟩) := by
  have h := DOk.also2 (S := qbt_rS (i_laws_eqType := ⟨qbt_O.n + 1⟩)) mixed_ok tab_ok names_ok d63 d67 noLoops_ok qbt_rs
  refine qbt_G.mk (i_laws_eqType := ⟨qbt_O.n + 1⟩) ?_
  exact h
noncomputable def laws_FnExactConvertible_t (x0 x1 : Int) (x2 x3 : Bool) (x4 x5 x6 x7 : LL) (x8 x9 x10 : Int) (x11 x12 : Bool) (x13 x14 x15 x16 : LL) (x17 : Int) : Tr Bool := (.ite ((qbh_rc x0 x1 x2 x3 x4 x5 x6 x7 x8 (1048576 : Int)) = true) (.ite ((decide ((qbh_rv x0 x1 x2 x3 x4 x5 x6 x7 x8 (1048576 : Int)) < (0 : Int))) = true) (.ok true)
   (.ite ((qbh_rc x9 x10 x11 x12 x13 x14 x15 x16 x17 (qbh_rv x0 x1 x2 x3 x4 x5 x6 x7 x8 (1048576 : Int))) = true) (.ite ((decide ((qbh_rv x9 x10 x11 x12 x13 x14 x15 x16 x17 (qbh_rv x0 x1 x2 x3 x4 x5 x6 x7 x8 (1048576 : Int))) < (0 : Int))) = true) (.ok true)
     (.ite ((qk_rc x0 x1 x2 x3 x4 x5 x6 x7 x8) = true) (.ite ((qk_rc x9 x10 x11 x12 x13 x14 x15 x16 x17) = true) (.ite ((qbg_c ((qk_rv x0 x1 x2 x3 x4 x5 x6 x7 x8).1) ((qk_rv x0 x1 x2 x3 x4 x5 x6 x7 x8).2.1) ((qk_rv x0 x1 x2 x3 x4 x5 x6 x7 x8).2.2.1) ((qk_rv x0 x1 x2 x3 x4 x5 x6 x7 x8).2.2.2.1) ((qk_rv x0 x1 x2 x3 x4 x5 x6 x7 x8).2.2.2.2.1) ((qk_rv x0 x1 x2 x3 x4 x5 x6 x7 x8).2.2.2.2.2.1) ((qk_rv x0 x1 x2 x3 x4 x5 x6 x7 x8).2.2.2.2.2.2.1) ((qk_rv x0 x1 x2 x3 x4 x5 x6 x7 x8).2.2.2.2.2.2.2.1) ((qk_rv x0 x1 x2 x3 x4 x5 x6 x7 x8).2.2.2.2.2.2.2.2) ((qk_rv x9 x10 x11 x12 x13 x14 x15 x16 x17).1) ((qk_rv x9 x10 x11 x12 x13 x14 x15 x16 x17).2.1) ((qk_rv x9 x10 x11 x12 x13 x14 x15 x16 x17).2.2.1) ((qk_rv x9 x10 x11 x12 x13 x14 x15 x16 x17).2.2.2.1) ((qk_rv x9 x10 x11 x12 x13 x14 x15 x16 x17).2.2.2.2.1) ((qk_rv x9 x10 x11 x12 x13 x14 x15 x16 x17).2.2.2.2.2.1) ((qk_rv x9 x10 x11 x12 x13 x14 x15 x16 x17).2.2.2.2.2.2.1) ((qk_rv x9 x10 x11 x12 x13 x14 x15 x16 x17).2.2.2.2.2.2.2.1) ((qk_rv x9 x10 x11 x12 x13 x14 x15 x16 x17).2.2.2.2.2.2.2.2)) = true) (.ite ((qk_rc x0 x1 x2 x3 x4 x5 x6 x7 x8) = true) (.ite ((qk_rc x9 x10 x11 x12 x13 x14 x15 x16 x17) = true) (.ite ((qce_c ((qk_rv x0 x1 x2 x3 x4 x5 x6 x7 x8).1) ((qk_rv x0 x1 x2 x3 x4 x5 x6 x7 x8).2.1) ((qk_rv x0 x1 x2 x3 x4 x5 x6 x7 x8).2.2.1) ((qk_rv x0 x1 x2 x3 x4 x5 x6 x7 x8).2.2.2.1) ((qk_rv x0 x1 x2 x3 x4 x5 x6 x7 x8).2.2.2.2.1) ((qk_rv x0 x1 x2 x3 x4 x5 x6 x7 x8).2.2.2.2.2.1) ((qk_rv x0 x1 x2 x3 x4 x5 x6 x7 x8).2.2.2.2.2.2.1) ((qk_rv x0 x1 x2 x3 x4 x5 x6 x7 x8).2.2.2.2.2.2.2.1) ((qk_rv x0 x1 x2 x3 x4 x5 x6 x7 x8).2.2.2.2.2.2.2.2) ((qk_rv x9 x10 x11 x12 x13 x14 x15 x16 x17).1) ((qk_rv x9 x10 x11 x12 x13 x14 x15 x16 x17).2.1) ((qk_rv x9 x10 x11 x12 x13 x14 x15 x16 x17).2.2.1) ((qk_rv x9 x10 x11 x12 x13 x14 x15 x16 x17).2.2.2.1) ((qk_rv x9 x10 x11 x12 x13 x14 x15 x16 x17).2.2.2.2.1) ((qk_rv x9 x10 x11 x12 x13 x14 x15 x16 x17).2.2.2.2.2.1) ((qk_rv x9 x10 x11 x12 x13 x14 x15 x16 x17).2.2.2.2.2.2.1) ((qk_rv x9 x10 x11 x12 x13 x14 x15 x16 x17).2.2.2.2.2.2.2.1) ((qk_rv x9 x10 x11 x12 x13 x14 x15 x16 x17).2.2.2.2.2.2.2.2)) = true) (.ite ((!((qce_v ((qk_rv x0 x1 x2 x3 x4 x5 x6 x7 x8).1) ((qk_rv x0 x1 x2 x3 x4 x5 x6 x7 x8).2.1) ((qk_rv x0 x1 x2 x3 x4 x5 x6 x7 x8).2.2.1) ((qk_rv x0 x1 x2 x3 x4 x5 x6 x7 x8).2.2.2.1) ((qk_rv x0 x1 x2 x3 x4 x5 x6 x7 x8).2.2.2.2.1) ((qk_rv x0 x1 x2 x3 x4 x5 x6 x7 x8).2.2.2.2.2.1) ((qk_rv x0 x1 x2 x3 x4 x5 x6 x7 x8).2.2.2.2.2.2.1) ((qk_rv x0 x1 x2 x3 x4 x5 x6 x7 x8).2.2.2.2.2.2.2.1) ((qk_rv x0 x1 x2 x3 x4 x5 x6 x7 x8).2.2.2.2.2.2.2.2) ((qk_rv x9 x10 x11 x12 x13 x14 x15 x16 x17).1) ((qk_rv x9 x10 x11 x12 x13 x14 x15 x16 x17).2.1) ((qk_rv x9 x10 x11 x12 x13 x14 x15 x16 x17).2.2.1) ((qk_rv x9 x10 x11 x12 x13 x14 x15 x16 x17).2.2.2.1) ((qk_rv x9 x10 x11 x12 x13 x14 x15 x16 x17).2.2.2.2.1) ((qk_rv x9 x10 x11 x12 x13 x14 x15 x16 x17).2.2.2.2.2.1) ((qk_rv x9 x10 x11 x12 x13 x14 x15 x16 x17).2.2.2.2.2.2.1) ((qk_rv x9 x10 x11 x12 x13 x14 x15 x16 x17).2.2.2.2.2.2.2.1) ((qk_rv x9 x10 x11 x12 x13 x14 x15 x16 x17).2.2.2.2.2.2.2.2)) == (qbg_v ((qk_rv x0 x1 x2 x3 x4 x5 x6 x7 x8).1) ((qk_rv x0 x1 x2 x3 x4 x5 x6 x7 x8).2.1) ((qk_rv x0 x1 x2 x3 x4 x5 x6 x7 x8).2.2.1) ((qk_rv x0 x1 x2 x3 x4 x5 x6 x7 x8).2.2.2.1) ((qk_rv x0 x1 x2 x3 x4 x5 x6 x7 x8).2.2.2.2.1) ((qk_rv x0 x1 x2 x3 x4 x5 x6 x7 x8).2.2.2.2.2.1) ((qk_rv x0 x1 x2 x3 x4 x5 x6 x7 x8).2.2.2.2.2.2.1) ((qk_rv x0 x1 x2 x3 x4 x5 x6 x7 x8).2.2.2.2.2.2.2.1) ((qk_rv x0 x1 x2 x3 x4 x5 x6 x7 x8).2.2.2.2.2.2.2.2) ((qk_rv x9 x10 x11 x12 x13 x14 x15 x16 x17).1) ((qk_rv x9 x10 x11 x12 x13 x14 x15 x16 x17).2.1) ((qk_rv x9 x10 x11 x12 x13 x14 x15 x16 x17).2.2.1) ((qk_rv x9 x10 x11 x12 x13 x14 x15 x16 x17).2.2.2.1) ((qk_rv x9 x10 x11 x12 x13 x14 x15 x16 x17).2.2.2.2.1) ((qk_rv x9 x10 x11 x12 x13 x14 x15 x16 x17).2.2.2.2.2.1) ((qk_rv x9 x10 x11 x12 x13 x14 x15 x16 x17).2.2.2.2.2.2.1) ((qk_rv x9 x10 x11 x12 x13 x14 x15 x16 x17).2.2.2.2.2.2.2.1) ((qk_rv x9 x10 x11 x12 x13 x14 x15 x16 x17).2.2.2.2.2.2.2.2)))) = true) (.ok false)
            (.ite ((qk_rc x0 x1 x2 x3 x4 x5 x6 x7 x8) = true) (.ite ((qbt_rc ((qk_rv x0 x1 x2 x3 x4 x5 x6 x7 x8).1) ((qk_rv x0 x1 x2 x3 x4 x5 x6 x7 x8).2.1) ((qk_rv x0 x1 x2 x3 x4 x5 x6 x7 x8).2.2.1) ((qk_rv x0 x1 x2 x3 x4 x5 x6 x7 x8).2.2.2.1) ((qk_rv x0 x1 x2 x3 x4 x5 x6 x7 x8).2.2.2.2.1) ((qk_rv x0 x1 x2 x3 x4 x5 x6 x7 x8).2.2.2.2.2.1) ((qk_rv x0 x1 x2 x3 x4 x5 x6 x7 x8).2.2.2.2.2.2.1) ((qk_rv x0 x1 x2 x3 x4 x5 x6 x7 x8).2.2.2.2.2.2.2.1) ((qk_rv x0 x1 x2 x3 x4 x5 x6 x7 x8).2.2.2.2.2.2.2.2) ((qk_rv x0 x1 x2 x3 x4 x5 x6 x7 x8).1) ((qk_rv x0 x1 x2 x3 x4 x5 x6 x7 x8).2.1) ((qk_rv x0 x1 x2 x3 x4 x5 x6 x7 x8).2.2.1) ((qk_rv x0 x1 x2 x3 x4 x5 x6 x7 x8).2.2.2.1) ((qk_rv x0 x1 x2 x3 x4 x5 x6 x7 x8).2.2.2.2.1) ((qk_rv x0 x1 x2 x3 x4 x5 x6 x7 x8).2.2.2.2.2.1) ((qk_rv x0 x1 x2 x3 x4 x5 x6 x7 x8).2.2.2.2.2.2.1) ((qk_rv x0 x1 x2 x3 x4 x5 x6 x7 x8).2.2.2.2.2.2.2.1) ((qk_rv x0 x1 x2 x3 x4 x5 x6 x7 x8).2.2.2.2.2.2.2.2)) = true) (.ite ((!(qbt_rv ((qk_rv x0 x1 x2 x3 x4 x5 x6 x7 x8).1) ((qk_rv x0 x1 x2 x3 x4 x5 x6 x7 x8).2.1) ((qk_rv x0 x1 x2 x3 x4 x5 x6 x7 x8).2.2.1) ((qk_rv x0 x1 x2 x3 x4 x5 x6 x7 x8).2.2.2.1) ((qk_rv x0 x1 x2 x3 x4 x5 x6 x7 x8).2.2.2.2.1) ((qk_rv x0 x1 x2 x3 x4 x5 x6 x7 x8).2.2.2.2.2.1) ((qk_rv x0 x1 x2 x3 x4 x5 x6 x7 x8).2.2.2.2.2.2.1) ((qk_rv x0 x1 x2 x3 x4 x5 x6 x7 x8).2.2.2.2.2.2.2.1) ((qk_rv x0 x1 x2 x3 x4 x5 x6 x7 x8).2.2.2.2.2.2.2.2) ((qk_rv x0 x1 x2 x3 x4 x5 x6 x7 x8).1) ((qk_rv x0 x1 x2 x3 x4 x5 x6 x7 x8).2.1) ((qk_rv x0 x1 x2 x3 x4 x5 x6 x7 x8).2.2.1) ((qk_rv x0 x1 x2 x3 x4 x5 x6 x7 x8).2.2.2.1) ((qk_rv x0 x1 x2 x3 x4 x5 x6 x7 x8).2.2.2.2.1) ((qk_rv x0 x1 x2 x3 x4 x5 x6 x7 x8).2.2.2.2.2.1) ((qk_rv x0 x1 x2 x3 x4 x5 x6 x7 x8).2.2.2.2.2.2.1) ((qk_rv x0 x1 x2 x3 x4 x5 x6 x7 x8).2.2.2.2.2.2.2.1) ((qk_rv x0 x1 x2 x3 x4 x5 x6 x7 x8).2.2.2.2.2.2.2.2))) = true) (.ok false)
               (.ite ((qk_rc x9 x10 x11 x12 x13 x14 x15 x16 x17) = true) (.ite ((qbt_rc ((qk_rv x9 x10 x11 x12 x13 x14 x15 x16 x17).1) ((qk_rv x9 x10 x11 x12 x13 x14 x15 x16 x17).2.1) ((qk_rv x9 x10 x11 x12 x13 x14 x15 x16 x17).2.2.1) ((qk_rv x9 x10 x11 x12 x13 x14 x15 x16 x17).2.2.2.1) ((qk_rv x9 x10 x11 x12 x13 x14 x15 x16 x17).2.2.2.2.1) ((qk_rv x9 x10 x11 x12 x13 x14 x15 x16 x17).2.2.2.2.2.1) ((qk_rv x9 x10 x11 x12 x13 x14 x15 x16 x17).2.2.2.2.2.2.1) ((qk_rv x9 x10 x11 x12 x13 x14 x15 x16 x17).2.2.2.2.2.2.2.1) ((qk_rv x9 x10 x11 x12 x13 x14 x15 x16 x17).2.2.2.2.2.2.2.2) ((qk_rv x9 x10 x11 x12 x13 x14 x15 x16 x17).1) ((qk_rv x9 x10 x11 x12 x13 x14 x15 x16 x17).2.1) ((qk_rv x9 x10 x11 x12 x13 x14 x15 x16 x17).2.2.1) ((qk_rv x9 x10 x11 x12 x13 x14 x15 x16 x17).2.2.2.1) ((qk_rv x9 x10 x11 x12 x13 x14 x15 x16 x17).2.2.2.2.1) ((qk_rv x9 x10 x11 x12 x13 x14 x15 x16 x17).2.2.2.2.2.1) ((qk_rv x9 x10 x11 x12 x13 x14 x15 x16 x17).2.2.2.2.2.2.1) ((qk_rv x9 x10 x11 x12 x13 x14 x15 x16 x17).2.2.2.2.2.2.2.1) ((qk_rv x9 x10 x11 x12 x13 x14 x15 x16 x17).2.2.2.2.2.2.2.2)) = true) (.ite ((!(qbt_rv ((qk_rv x9 x10 x11 x12 x13 x14 x15 x16 x17).1) ((qk_rv x9 x10 x11 x12 x13 x14 x15 x16 x17).2.1) ((qk_rv x9 x10 x11 x12 x13 x14 x15 x16 x17).2.2.1) ((qk_rv x9 x10 x11 x12 x13 x14 x15 x16 x17).2.2.2.1) ((qk_rv x9 x10 x11 x12 x13 x14 x15 x16 x17).2.2.2.2.1) ((qk_rv x9 x10 x11 x12 x13 x14 x15 x16 x17).2.2.2.2.2.1) ((qk_rv x9 x10 x11 x12 x13 x14 x15 x16 x17).2.2.2.2.2.2.1) ((qk_rv x9 x10 x11 x12 x13 x14 x15 x16 x17).2.2.2.2.2.2.2.1) ((qk_rv x9 x10 x11 x12 x13 x14 x15 x16 x17).2.2.2.2.2.2.2.2) ((qk_rv x9 x10 x11 x12 x13 x14 x15 x16 x17).1) ((qk_rv x9 x10 x11 x12 x13 x14 x15 x16 x17).2.1) ((qk_rv x9 x10 x11 x12 x13 x14 x15 x16 x17).2.2.1) ((qk_rv x9 x10 x11 x12 x13 x14 x15 x16 x17).2.2.2.1) ((qk_rv x9 x10 x11 x12 x13 x14 x15 x16 x17).2.2.2.2.1) ((qk_rv x9 x10 x11 x12 x13 x14 x15 x16 x17).2.2.2.2.2.1) ((qk_rv x9 x10 x11 x12 x13 x14 x15 x16 x17).2.2.2.2.2.2.1) ((qk_rv x9 x10 x11 x12 x13 x14 x15 x16 x17).2.2.2.2.2.2.2.1) ((qk_rv x9 x10 x11 x12 x13 x14 x15 x16 x17).2.2.2.2.2.2.2.2))) = true) (.ok false)
                  (.ok true))
                 .no)
                .no))
              .no)
             .no))
           .no)
          .no)
         .no)
        .no)
       .no)
      .no))
    .no))
  .no)
theorem laws_FnExactConvertible_e (x0 x1 : Int) (x2 x3 : Bool) (x4 x5 x6 x7 : LL) (x8 x9 x10 : Int) (x11 x12 : Bool) (x13 x14 x15 x16 : LL) (x17 : Int) : runF tab FT D67 live 4 noLoops [(true, [(.int .i64, TC.i x0), (.int .i64, TC.i x1), (.bool, TC.b x2), (.bool, TC.b x3), (.slice 9, TC.l x4), (.slice 2, TC.l x5), (.slice 67, TC.l x6), (.slice 27, TC.l x7), (.int .i64, TC.i x8)]), (true, [(.int .i64, TC.i x9), (.int .i64, TC.i x10), (.bool, TC.b x11), (.bool, TC.b x12), (.slice 9, TC.l x13), (.slice 2, TC.l x14), (.slice 67, TC.l x15), (.slice 27, TC.l x16), (.int .i64, TC.i x17)])] = (laws_FnExactConvertible_t x0 x1 x2 x3 x4 x5 x6 x7 x8 x9 x10 x11 x12 x13 x14 x15 x16 x17).run fun p => some [(false, [⟨.bool, .sh, .b p⟩])] := by kernel_rfl
theorem tyArgsType {A B C E : LL} (a4 : Typed tab (.slice 9) (.l A)) (a5 : Typed tab (.slice 2) (.l B)) (a6 : Typed tab (.slice 67) (.l C)) (a7 : Typed tab (.slice 27) (.l E)) : Typed tab (.slice 9) (.l A) ∧ Typed tab (.slice 2) (.l B) ∧ Typed tab (.slice 71) (.l C) ∧ Typed tab (.slice 32) (.l E) :=
  ⟨typed_iso iso_ok a4 (by decide), typed_iso iso_ok a5 (by decide), typed_iso iso_ok a6 (by decide), typed_iso iso_ok a7 (by decide)⟩
theorem eqType_rv {x0 : Int} {x1 : Int} {x2 : Bool} {x3 : Bool} {x4 : LL} {x5 : LL} {x6 : LL} {x7 : LL} {x8 : Int} {y0 : Int} {y1 : Int} {y2 : Bool} {y3 : Bool} {y4 : LL} {y5 : LL} {y6 : LL} {y7 : LL} {y8 : Int} : ¬(!(qbt_rv x0 x1 x2 x3 x4 x5 x6 x7 x8 y0 y1 y2 y3 y4 y5 y6 y7 y8)) = true := by
  show ¬(!true) = true
  decide
theorem laws_FnExactConvertible_p (x0 x1 : Int) (x2 x3 : Bool) (x4 x5 x6 x7 : LL) (x8 x9 x10 : Int) (x11 x12 : Bool) (x13 x14 x15 x16 : LL) (x17 : Int) (h0 : Typed tab (.int .i64) (.i x0)) (h1 : Typed tab (.int .i64) (.i x1)) (h2 : Typed tab (.bool) (.b x2)) (h3 : Typed tab (.bool) (.b x3)) (h4 : Typed tab (.slice 9) (.l x4)) (h5 : Typed tab (.slice 2) (.l x5)) (h6 : Typed tab (.slice 67) (.l x6)) (h7 : Typed tab (.slice 27) (.l x7)) (h8 : Typed tab (.int .i64) (.i x8)) (h9 : Typed tab (.int .i64) (.i x9)) (h10 : Typed tab (.int .i64) (.i x10)) (h11 : Typed tab (.bool) (.b x11)) (h12 : Typed tab (.bool) (.b x12)) (h13 : Typed tab (.slice 9) (.l x13)) (h14 : Typed tab (.slice 2) (.l x14)) (h15 : Typed tab (.slice 67) (.l x15)) (h16 : Typed tab (.slice 27) (.l x16)) (h17 : Typed tab (.int .i64) (.i x17)) (NN : Nat) (eN : NN = rowsDep x4 + rowsDep x5 + rowsDep x6 + rowsDep x7 + rowsDep x13 + rowsDep x14 + rowsDep x15 + rowsDep x16 + 1) (r_laws_szType : ∀ (x0 x1 : Int) (x2 x3 : Bool) (x4 x5 x6 x7 : LL) (x8 x9 : Int), max (rowsDep x6) (rowsDep x7) < NN ∧ Typed tab (.slice 9) (.l x4) ∧ Typed tab (.slice 2) (.l x5) ∧ Typed tab (.slice 67) (.l x6) ∧ Typed tab (.slice 27) (.l x7) → (qbh_rc x0 x1 x2 x3 x4 x5 x6 x7 x8 x9) = true) (n_laws_toType : NN ≤ qk_O.n) (n_spec_l02Size : NN ≤ qt_O.n) (n_spec_l02Depth : NN ≤ qi_O.n) (n_spec_l02Ok : NN ≤ qbk_O.n) (n_spec_l04Can : NN ≤ qw_O.n) (n_impl_Type_size : NN ≤ qbd_O.n) (n_impl_SameType : NN ≤ qbf_O.n) (n_impl_Type_valid : NN ≤ qx_O.n) (n_impl_convertible : NN ≤ qbc_O.n) (n_laws_eqType : NN ≤ qbt_O.n) : (laws_FnExactConvertible_t x0 x1 x2 x3 x4 x5 x6 x7 x8 x9 x10 x11 x12 x13 x14 x15 x16 x17).val = some true := by
  have t4_9 := qbj_ty h4
  have t5_2 := qbn_ty h5
  have t6_71 := qbi_ty h6
  have t7_32 := qbq_ty h7
  have t13_9 := qbj_ty h13
  have t14_2 := qbn_ty h14
  have t15_71 := qbi_ty h15
  have t16_32 := qbq_ty h16
  obtain ⟨i4, i5, i6, i7⟩ := tyArgsType h4 h5 h6 h7
  obtain ⟨i13, i14, i15, i16⟩ := tyArgsType h13 h14 h15 h16
  have szc0 : okV x0 x1 x2 x3 x4 x5 x6 x7 x8 = true → qt_rc x0 x1 x2 x3 x4 x5 x6 x7 x8 = true := fun h => is_true ⟨by omega, okV_size h⟩
  have szc9 : okV x9 x10 x11 x12 x13 x14 x15 x16 x17 = true → qt_rc x9 x10 x11 x12 x13 x14 x15 x16 x17 = true := fun h => is_true ⟨by omega, okV_size h⟩
  have dpc0 : okV x0 x1 x2 x3 x4 x5 x6 x7 x8 = true → qi_rc x0 x1 x2 x3 x4 x5 x6 x7 x8 = true := fun h => is_true ⟨by omega, okV_depth h, i6, i7⟩
  have dpc9 : okV x9 x10 x11 x12 x13 x14 x15 x16 x17 = true → qi_rc x9 x10 x11 x12 x13 x14 x15 x16 x17 = true := fun h => is_true ⟨by omega, okV_depth h, i15, i16⟩
  have okc0 : qbk_rc x0 x1 x2 x3 x4 x5 x6 x7 x8 = true := is_true ⟨by omega, by omega, by omega, i4, i5, i6, i7⟩
  have okc9 : qbk_rc x9 x10 x11 x12 x13 x14 x15 x16 x17 = true := is_true ⟨by omega, by omega, by omega, i13, i14, i15, i16⟩
  have isc0 : okV x0 x1 x2 x3 x4 x5 x6 x7 x8 = true → qbd_rc x0 x1 x2 x3 x4 x5 x6 x7 x8 = true := fun h => is_true ⟨by omega, (okV_isize h).2⟩
  have isc9 : okV x9 x10 x11 x12 x13 x14 x15 x16 x17 = true → qbd_rc x9 x10 x11 x12 x13 x14 x15 x16 x17 = true := fun h => is_true ⟨by omega, (okV_isize h).2⟩
  have vac0 : qx_rc x0 x1 x2 x3 x4 x5 x6 x7 x8 3 = true := is_true ⟨by omega, by omega, by omega, by omega, i4, i5, i6, i7⟩
  have vac9 : qx_rc x9 x10 x11 x12 x13 x14 x15 x16 x17 3 = true := is_true ⟨by omega, by omega, by omega, by omega, i13, i14, i15, i16⟩
  unfold laws_FnExactConvertible_t
  simp only [show qk_rv x0 x1 x2 x3 x4 x5 x6 x7 x8 = (x0, x1, x2, x3, x4, x5, x6, x7, x8) from rfl, show qk_rv x9 x10 x11 x12 x13 x14 x15 x16 x17 = (x9, x10, x11, x12, x13, x14, x15, x16, x17) from rfl]
  refine Tr.t (by first | (exact r_laws_szType _ _ _ _ _ _ _ _ _ _ ⟨by omega, h4, h5, h6, h7⟩) | (exact r_laws_szType _ _ _ _ _ _ _ _ _ _ ⟨by omega, h13, h14, h15, h16⟩)) ?_
  refine Tr.y ?_
  refine Tr.t (by first | (exact r_laws_szType _ _ _ _ _ _ _ _ _ _ ⟨by omega, h4, h5, h6, h7⟩) | (exact r_laws_szType _ _ _ _ _ _ _ _ _ _ ⟨by omega, h13, h14, h15, h16⟩)) ?_
  refine Tr.y ?_
  refine Tr.t (by first | (exact is_true ⟨by omega, h4, h5, h6, h7⟩) | (exact is_true ⟨by omega, h13, h14, h15, h16⟩)) ?_
  refine Tr.t (by first | (exact is_true ⟨by omega, h4, h5, h6, h7⟩) | (exact is_true ⟨by omega, h13, h14, h15, h16⟩)) ?_
  refine Tr.t (by first | (exact qbg_cc okc0 okc9 (fun a b => is_true ⟨by omega, a, b⟩)) | (exact qbg_cc okc0 okc9 (fun a b => is_true ⟨by omega, a, b⟩))) ?_
  refine Tr.t (by first | (exact is_true ⟨by omega, h4, h5, h6, h7⟩) | (exact is_true ⟨by omega, h13, h14, h15, h16⟩)) ?_
  refine Tr.t (by first | (exact is_true ⟨by omega, h4, h5, h6, h7⟩) | (exact is_true ⟨by omega, h13, h14, h15, h16⟩)) ?_
  refine Tr.t (by first | (exact qce_cc vac0 vac9 (fun a b => is_true ⟨by omega, a, b, i6, i7, i15, i16⟩)) | (exact qce_cc vac0 vac9 (fun a b => is_true ⟨by omega, a, b, i6, i7, i15, i16⟩))) ?_
  refine Tr.n (by first | (exact eqType_rv) | (rw [qbg_vv, qce_vv]; simp)) ?_
  refine Tr.t (by first | (exact is_true ⟨by omega, h4, h5, h6, h7⟩) | (exact is_true ⟨by omega, h13, h14, h15, h16⟩)) ?_
  refine Tr.t (by first | (exact is_true ⟨by omega, rfl, rfl, rfl, rfl, rfl, rfl, rfl, rfl, rfl, i4, i5, i6, i7⟩) | (exact is_true ⟨by omega, rfl, rfl, rfl, rfl, rfl, rfl, rfl, rfl, rfl, i13, i14, i15, i16⟩)) ?_
  refine Tr.n (by first | (exact eqType_rv) | (rw [qbg_vv, qce_vv]; simp)) ?_
  refine Tr.t (by first | (exact is_true ⟨by omega, h4, h5, h6, h7⟩) | (exact is_true ⟨by omega, h13, h14, h15, h16⟩)) ?_
  refine Tr.t (by first | (exact is_true ⟨by omega, rfl, rfl, rfl, rfl, rfl, rfl, rfl, rfl, rfl, i4, i5, i6, i7⟩) | (exact is_true ⟨by omega, rfl, rfl, rfl, rfl, rfl, rfl, rfl, rfl, rfl, i13, i14, i15, i16⟩)) ?_
  refine Tr.n (by first | (exact eqType_rv) | (rw [qbg_vv, qce_vv]; simp)) ?_
  rfl
end
theorem qbt_none : ∀ xs r, qbt_rS (i_laws_eqType := ⟨0⟩) xs ≠ some (true, r) := by
  intro xs r h
  unfold qbt_rS at h
  split at h
  · simp only [Option.some.injEq, Prod.mk.injEq] at h
    have h1 := is_iff.1 h.1
    exact absurd h1.1 (Nat.not_lt_zero _)
  · cases h
theorem qbt_good : ∀ n : Nat, qbt_G (i_laws_eqType := ⟨n⟩) := by
  intro n
  induction n with
  | zero => exact qbt_G.mk (i_laws_eqType := ⟨0⟩) (DOk.also0 d63 qbt_none)
  | succ n ih => exact qbt_step (i_laws_eqType := ⟨n⟩) (g_laws_eqType := ih)
end
theorem qbc_none : ∀ xs r, qbc_rS (i_impl_convertible := ⟨0⟩) xs ≠ some (true, r) := by
  intro xs r h
  unfold qbc_rS at h
  split at h
  · simp only [Option.some.injEq, Prod.mk.injEq] at h
    have h1 := is_iff.1 h.1
    exact absurd h1.1 (Nat.not_lt_zero _)
  · cases h
theorem qbc_good : ∀ n : Nat, qbc_G (i_impl_convertible := ⟨n⟩) := by
  intro n
  induction n with
  | zero => exact qbc_G.mk (i_impl_convertible := ⟨0⟩) (DOk.also0 d52 qbc_none)
  | succ n ih => exact qbc_step (i_impl_convertible := ⟨n⟩) (g_impl_convertible := ih)
end
theorem qx_none : ∀ xs r, qx_rS (i_impl_Type_valid := ⟨0⟩) xs ≠ some (true, r) := by
  intro xs r h
  unfold qx_rS at h
  split at h
  · simp only [Option.some.injEq, Prod.mk.injEq] at h
    have h1 := is_iff.1 h.1
    exact absurd h1.1 (Nat.not_lt_zero _)
  · cases h
theorem qx_good : ∀ n : Nat, qx_G (i_impl_Type_valid := ⟨n⟩) := by
  intro n
  induction n with
  | zero => exact qx_G.mk (i_impl_Type_valid := ⟨0⟩) (DOk.also0 d42 qx_none)
  | succ n ih => exact qx_step (i_impl_Type_valid := ⟨n⟩) (g_impl_Type_valid := ih)
end
theorem qbf_none : ∀ xs r, qbf_rS (i_impl_SameType := ⟨0⟩) xs ≠ some (true, r) := by
  intro xs r h
  unfold qbf_rS at h
  split at h
  · simp only [Option.some.injEq, Prod.mk.injEq] at h
    have h1 := is_iff.1 h.1
    exact absurd h1.1 (Nat.not_lt_zero _)
  · cases h
theorem qbf_good : ∀ n : Nat, qbf_G (i_impl_SameType := ⟨n⟩) := by
  intro n
  induction n with
  | zero => exact qbf_G.mk (i_impl_SameType := ⟨0⟩) (DOk.also0 d34 qbf_none)
  | succ n ih => exact qbf_step (i_impl_SameType := ⟨n⟩) (g_impl_SameType := ih)
end
theorem qbd_none : ∀ xs r, qbd_rS (i_impl_Type_size := ⟨0⟩) xs ≠ some (true, r) := by
  intro xs r h
  unfold qbd_rS at h
  split at h
  · simp only [Option.some.injEq, Prod.mk.injEq] at h
    have h1 := is_iff.1 h.1
    exact absurd h1.1 (Nat.not_lt_zero _)
  · cases h
theorem qbd_good : ∀ n : Nat, qbd_G (i_impl_Type_size := ⟨n⟩) := by
  intro n
  induction n with
  | zero => exact qbd_G.mk (i_impl_Type_size := ⟨0⟩) (DOk.also0 d30 qbd_none)
  | succ n ih => exact qbd_step (i_impl_Type_size := ⟨n⟩) (g_impl_Type_size := ih)
end
theorem qw_none : ∀ xs r, qw_rS (i_spec_l04Can := ⟨0⟩) xs ≠ some (true, r) := by
  intro xs r h
  unfold qw_rS at h
  split at h
  · simp only [Option.some.injEq, Prod.mk.injEq] at h
    have h1 := is_iff.1 h.1
    exact absurd h1.1 (Nat.not_lt_zero _)
  · cases h
theorem qw_good : ∀ n : Nat, qw_G (i_spec_l04Can := ⟨n⟩) := by
  intro n
  induction n with
  | zero => exact qw_G.mk (i_spec_l04Can := ⟨0⟩) (DOk.also0 d27 qw_none)
  | succ n ih => exact qw_step (i_spec_l04Can := ⟨n⟩) (g_spec_l04Can := ih)
end
theorem qbk_none : ∀ xs r, qbk_rS (i_spec_l02Ok := ⟨0⟩) xs ≠ some (true, r) := by
  intro xs r h
  unfold qbk_rS at h
  split at h
  · simp only [Option.some.injEq, Prod.mk.injEq] at h
    have h1 := is_iff.1 h.1
    exact absurd h1.1 (Nat.not_lt_zero _)
  · cases h
theorem qbk_good : ∀ n : Nat, qbk_G (i_spec_l02Ok := ⟨n⟩) := by
  intro n
  induction n with
  | zero => exact qbk_G.mk (i_spec_l02Ok := ⟨0⟩) (DOk.also0 d23 qbk_none)
  | succ n ih => exact qbk_step (i_spec_l02Ok := ⟨n⟩) (g_spec_l02Ok := ih)
end
theorem qi_none : ∀ xs r, qi_rS (i_spec_l02Depth := ⟨0⟩) xs ≠ some (true, r) := by
  intro xs r h
  unfold qi_rS at h
  split at h
  · simp only [Option.some.injEq, Prod.mk.injEq] at h
    have h1 := is_iff.1 h.1
    exact absurd h1.1 (Nat.not_lt_zero _)
  · cases h
theorem qi_good : ∀ n : Nat, qi_G (i_spec_l02Depth := ⟨n⟩) := by
  intro n
  induction n with
  | zero => exact qi_G.mk (i_spec_l02Depth := ⟨0⟩) (DOk.also0 d13 qi_none)
  | succ n ih => exact qi_step (i_spec_l02Depth := ⟨n⟩) (g_spec_l02Depth := ih)
end
theorem qt_none : ∀ xs r, qt_rS (i_spec_l02Size := ⟨0⟩) xs ≠ some (true, r) := by
  intro xs r h
  unfold qt_rS at h
  split at h
  · simp only [Option.some.injEq, Prod.mk.injEq] at h
    have h1 := is_iff.1 h.1
    exact absurd h1.1 (Nat.not_lt_zero _)
  · cases h
theorem qt_good : ∀ n : Nat, qt_G (i_spec_l02Size := ⟨n⟩) := by
  intro n
  induction n with
  | zero => exact qt_G.mk (i_spec_l02Size := ⟨0⟩) (DOk.also0 d12 qt_none)
  | succ n ih => exact qt_step (i_spec_l02Size := ⟨n⟩) (g_spec_l02Size := ih)
end
theorem qk_none : ∀ xs r, qk_rS (i_laws_toType := ⟨0⟩) xs ≠ some (true, r) := by
  intro xs r h
  unfold qk_rS at h
  split at h
  · simp only [Option.some.injEq, Prod.mk.injEq] at h
    have h1 := is_iff.1 h.1
    exact absurd h1.1 (Nat.not_lt_zero _)
  · cases h
theorem qk_good : ∀ n : Nat, qk_G (i_laws_toType := ⟨n⟩) := by
  intro n
  induction n with
  | zero => exact qk_G.mk (i_laws_toType := ⟨0⟩) (DOk.also0 d8 qk_none)
  | succ n ih => exact qk_step (i_laws_toType := ⟨n⟩) (g_laws_toType := ih)
end
@[reducible] noncomputable def qbh_orc : Nat → qbh_O
  | 0 => ⟨fun _ _ _ _ _ _ _ _ _ _ => (false, default)⟩
  | n + 1 => ⟨qbh_next (i_laws_szType := qbh_orc n)⟩
theorem qbh_none : ∀ xs r, qbh_rS (i_laws_szType := qbh_orc 0) xs ≠ some (true, r) := by
  intro xs r h
  unfold qbh_rS at h
  split at h
  · simp only [Option.some.injEq, Prod.mk.injEq] at h
    exact absurd h.1 (by show ¬(false = true); simp)
  · cases h
theorem qbh_good : ∀ n, qbh_G (i_laws_szType := qbh_orc n) := by
  intro n
  induction n with
  | zero => exact qbh_G.mk (i_laws_szType := qbh_orc 0) (DOk.also0 d2 qbh_none)
  | succ n ih => exact qbh_step (i_laws_szType := qbh_orc n) (g_laws_szType := ih)
theorem qbh_hr : ∀ (n : Nat) (x0 x1 : Int) (x2 x3 : Bool) (x4 x5 x6 x7 : LL) (x8 x9 : Int), max (rowsDep x6) (rowsDep x7) < n ∧ Typed tab (.slice 9) (.l x4) ∧ Typed tab (.slice 2) (.l x5) ∧ Typed tab (.slice 67) (.l x6) ∧ Typed tab (.slice 27) (.l x7) → qbh_rc (i_laws_szType := qbh_orc n) x0 x1 x2 x3 x4 x5 x6 x7 x8 x9 = true := by
  intro n
  induction n with
  | zero => intro x0 x1 x2 x3 x4 x5 x6 x7 x8 x9 h; exact absurd h.1 (Nat.not_lt_zero _)
  | succ n ih =>
    intro x0 x1 x2 x3 x4 x5 x6 x7 x8 x9 h
    exact qbh_nx (i_laws_szType := qbh_orc n) (g_laws_szType := qbh_good n) n ih x0 x1 x2 x3 x4 x5 x6 x7 x8 x9 h
theorem laws_FnExactConvertible_pure : ∀ xs, ArgsTyped tab [27, 27] xs → ∃ (D : Dt) (lo : LoopTeller), DOk Go.Proofs.Try.prog tab D ∧ FnLoops tab (fun f => Go.Proofs.Try.prog.funcs[f]?) D live 4 lo ∧ runF tab (fun f => Go.Proofs.Try.prog.funcs[f]?) D live 4 lo xs = yes := by
  intro xs h
  cases h with | cons l0 g0 h =>
  obtain ⟨z0_0, z0_1, z0_2, z0_3, z0_4, z0_5, z0_6, z0_7, z0_8, rfl⟩ := len_9 l0
  have q0 := g0 0 (by decide)
  have q0 : Typed tab (.int .i64) z0_0 := q0
  obtain ⟨y0, rfl⟩ := typed_int q0
  have q1 := g0 1 (by decide)
  have q1 : Typed tab (.int .i64) z0_1 := q1
  obtain ⟨y1, rfl⟩ := typed_int q1
  have q2 := g0 2 (by decide)
  have q2 : Typed tab (.bool) z0_2 := q2
  obtain ⟨y2, rfl⟩ := typed_bool q2
  have q3 := g0 3 (by decide)
  have q3 : Typed tab (.bool) z0_3 := q3
  obtain ⟨y3, rfl⟩ := typed_bool q3
  have q4 := g0 4 (by decide)
  have q4 : Typed tab (.slice 9) z0_4 := q4
  obtain ⟨y4, rfl⟩ := typed_slice q4
  have q5 := g0 5 (by decide)
  have q5 : Typed tab (.slice 2) z0_5 := q5
  obtain ⟨y5, rfl⟩ := typed_slice q5
  have q6 := g0 6 (by decide)
  have q6 : Typed tab (.slice 67) z0_6 := q6
  obtain ⟨y6, rfl⟩ := typed_slice q6
  have q7 := g0 7 (by decide)
  have q7 : Typed tab (.slice 27) z0_7 := q7
  obtain ⟨y7, rfl⟩ := typed_slice q7
  have q8 := g0 8 (by decide)
  have q8 : Typed tab (.int .i64) z0_8 := q8
  obtain ⟨y8, rfl⟩ := typed_int q8
  cases h with | cons l1 g1 h =>
  obtain ⟨z1_0, z1_1, z1_2, z1_3, z1_4, z1_5, z1_6, z1_7, z1_8, rfl⟩ := len_9 l1
  have q9 := g1 0 (by decide)
  have q9 : Typed tab (.int .i64) z1_0 := q9
  obtain ⟨y9, rfl⟩ := typed_int q9
  have q10 := g1 1 (by decide)
  have q10 : Typed tab (.int .i64) z1_1 := q10
  obtain ⟨y10, rfl⟩ := typed_int q10
  have q11 := g1 2 (by decide)
  have q11 : Typed tab (.bool) z1_2 := q11
  obtain ⟨y11, rfl⟩ := typed_bool q11
  have q12 := g1 3 (by decide)
  have q12 : Typed tab (.bool) z1_3 := q12
  obtain ⟨y12, rfl⟩ := typed_bool q12
  have q13 := g1 4 (by decide)
  have q13 : Typed tab (.slice 9) z1_4 := q13
  obtain ⟨y13, rfl⟩ := typed_slice q13
  have q14 := g1 5 (by decide)
  have q14 : Typed tab (.slice 2) z1_5 := q14
  obtain ⟨y14, rfl⟩ := typed_slice q14
  have q15 := g1 6 (by decide)
  have q15 : Typed tab (.slice 67) z1_6 := q15
  obtain ⟨y15, rfl⟩ := typed_slice q15
  have q16 := g1 7 (by decide)
  have q16 : Typed tab (.slice 27) z1_7 := q16
  obtain ⟨y16, rfl⟩ := typed_slice q16
  have q17 := g1 8 (by decide)
  have q17 : Typed tab (.int .i64) z1_8 := q17
  obtain ⟨y17, rfl⟩ := typed_int q17
  cases h
  letI i_laws_szType : qbh_O := qbh_orc (rowsDep y4 + rowsDep y5 + rowsDep y6 + rowsDep y7 + rowsDep y13 + rowsDep y14 + rowsDep y15 + rowsDep y16 + 1)
  letI g_laws_szType : qbh_G := qbh_good (rowsDep y4 + rowsDep y5 + rowsDep y6 + rowsDep y7 + rowsDep y13 + rowsDep y14 + rowsDep y15 + rowsDep y16 + 1)
  letI i_laws_toType : qk_O := ⟨rowsDep y4 + rowsDep y5 + rowsDep y6 + rowsDep y7 + rowsDep y13 + rowsDep y14 + rowsDep y15 + rowsDep y16 + 1⟩
  letI g_laws_toType : qk_G := qk_good (rowsDep y4 + rowsDep y5 + rowsDep y6 + rowsDep y7 + rowsDep y13 + rowsDep y14 + rowsDep y15 + rowsDep y16 + 1)
  letI i_spec_l02Size : qt_O := ⟨rowsDep y4 + rowsDep y5 + rowsDep y6 + rowsDep y7 + rowsDep y13 + rowsDep y14 + rowsDep y15 + rowsDep y16 + 1⟩
  letI g_spec_l02Size : qt_G := qt_good (rowsDep y4 + rowsDep y5 + rowsDep y6 + rowsDep y7 + rowsDep y13 + rowsDep y14 + rowsDep y15 + rowsDep y16 + 1)
  letI i_spec_l02Depth : qi_O := ⟨rowsDep y4 + rowsDep y5 + rowsDep y6 + rowsDep y7 + rowsDep y13 + rowsDep y14 + rowsDep y15 + rowsDep y16 + 1⟩
  letI g_spec_l02Depth : qi_G := qi_good (rowsDep y4 + rowsDep y5 + rowsDep y6 + rowsDep y7 + rowsDep y13 + rowsDep y14 + rowsDep y15 + rowsDep y16 + 1)
  letI i_spec_l02Ok : qbk_O := ⟨rowsDep y4 + rowsDep y5 + rowsDep y6 + rowsDep y7 + rowsDep y13 + rowsDep y14 + rowsDep y15 + rowsDep y16 + 1⟩
  letI g_spec_l02Ok : qbk_G := qbk_good (rowsDep y4 + rowsDep y5 + rowsDep y6 + rowsDep y7 + rowsDep y13 + rowsDep y14 + rowsDep y15 + rowsDep y16 + 1)
  letI i_spec_l04Can : qw_O := ⟨rowsDep y4 + rowsDep y5 + rowsDep y6 + rowsDep y7 + rowsDep y13 + rowsDep y14 + rowsDep y15 + rowsDep y16 + 1⟩
  letI g_spec_l04Can : qw_G := qw_good (rowsDep y4 + rowsDep y5 + rowsDep y6 + rowsDep y7 + rowsDep y13 + rowsDep y14 + rowsDep y15 + rowsDep y16 + 1)
  letI i_impl_Type_size : qbd_O := ⟨rowsDep y4 + rowsDep y5 + rowsDep y6 + rowsDep y7 + rowsDep y13 + rowsDep y14 + rowsDep y15 + rowsDep y16 + 1⟩
  letI g_impl_Type_size : qbd_G := qbd_good (rowsDep y4 + rowsDep y5 + rowsDep y6 + rowsDep y7 + rowsDep y13 + rowsDep y14 + rowsDep y15 + rowsDep y16 + 1)
  letI i_impl_SameType : qbf_O := ⟨rowsDep y4 + rowsDep y5 + rowsDep y6 + rowsDep y7 + rowsDep y13 + rowsDep y14 + rowsDep y15 + rowsDep y16 + 1⟩
  letI g_impl_SameType : qbf_G := qbf_good (rowsDep y4 + rowsDep y5 + rowsDep y6 + rowsDep y7 + rowsDep y13 + rowsDep y14 + rowsDep y15 + rowsDep y16 + 1)
  letI i_impl_Type_valid : qx_O := ⟨rowsDep y4 + rowsDep y5 + rowsDep y6 + rowsDep y7 + rowsDep y13 + rowsDep y14 + rowsDep y15 + rowsDep y16 + 1⟩
  letI g_impl_Type_valid : qx_G := qx_good (rowsDep y4 + rowsDep y5 + rowsDep y6 + rowsDep y7 + rowsDep y13 + rowsDep y14 + rowsDep y15 + rowsDep y16 + 1)
  letI i_impl_convertible : qbc_O := ⟨rowsDep y4 + rowsDep y5 + rowsDep y6 + rowsDep y7 + rowsDep y13 + rowsDep y14 + rowsDep y15 + rowsDep y16 + 1⟩
  letI g_impl_convertible : qbc_G := qbc_good (rowsDep y4 + rowsDep y5 + rowsDep y6 + rowsDep y7 + rowsDep y13 + rowsDep y14 + rowsDep y15 + rowsDep y16 + 1)
  letI i_laws_eqType : qbt_O := ⟨rowsDep y4 + rowsDep y5 + rowsDep y6 + rowsDep y7 + rowsDep y13 + rowsDep y14 + rowsDep y15 + rowsDep y16 + 1⟩
  letI g_laws_eqType : qbt_G := qbt_good (rowsDep y4 + rowsDep y5 + rowsDep y6 + rowsDep y7 + rowsDep y13 + rowsDep y14 + rowsDep y15 + rowsDep y16 + 1)
  refine ⟨D67, noLoops, d67, noLoops_ok, (laws_FnExactConvertible_e y0 y1 y2 y3 y4 y5 y6 y7 y8 y9 y10 y11 y12 y13 y14 y15 y16 y17).trans ?_⟩
  rw [Tr.run_eq, laws_FnExactConvertible_p y0 y1 y2 y3 y4 y5 y6 y7 y8 y9 y10 y11 y12 y13 y14 y15 y16 y17 q0 q1 q2 q3 q4 q5 q6 q7 q8 q9 q10 q11 q12 q13 q14 q15 q16 q17 (rowsDep y4 + rowsDep y5 + rowsDep y6 + rowsDep y7 + rowsDep y13 + rowsDep y14 + rowsDep y15 + rowsDep y16 + 1) rfl (qbh_hr (rowsDep y4 + rowsDep y5 + rowsDep y6 + rowsDep y7 + rowsDep y13 + rowsDep y14 + rowsDep y15 + rowsDep y16 + 1)) (Nat.le_refl _) (Nat.le_refl _) (Nat.le_refl _) (Nat.le_refl _) (Nat.le_refl _) (Nat.le_refl _) (Nat.le_refl _) (Nat.le_refl _) (Nat.le_refl _) (Nat.le_refl _)]
  rfl
end Go.Proofs.Ytdcafhfnkblfkaa.V
