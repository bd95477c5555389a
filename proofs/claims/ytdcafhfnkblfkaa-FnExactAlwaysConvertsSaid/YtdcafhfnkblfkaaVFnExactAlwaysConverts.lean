/- What the functions of FnExactAlwaysConverts answer. No condition. -/
import Derived.Test.YtdcafhfnkblfkaaVFnExactAlwaysConvertsP5
namespace Go.Proofs.Ytdcafhfnkblfkaa.V
open Go
set_option maxRecDepth 100000
set_option linter.unusedVariables false
set_option linter.unusedSectionVars false
set_option linter.unusedSimpArgs false
set_option maxHeartbeats 2000000
noncomputable section
section
variable [i_laws_szType : qbp_O]
variable [g_laws_szType : qbp_G]
section
variable [i_laws_toType : qj_O]
variable [g_laws_toType : qj_G]
section
variable [i_spec_l02Size : qu_O]
variable [g_spec_l02Size : qu_G]
section
variable [i_spec_l02Depth : qh_O]
variable [g_spec_l02Depth : qh_G]
section
variable [i_spec_l02Ok : qbs_O]
variable [g_spec_l02Ok : qbs_G]
section
variable [i_spec_l04Can : qbc_O]
variable [g_spec_l04Can : qbc_G]
section
variable [i_spec_l04Always : qi_O]
variable [g_spec_l04Always : qi_G]
section
variable [i_impl_Type_size : qbh_O]
variable [g_impl_Type_size : qbh_G]
section
variable [i_impl_SameType : qbm_O]
variable [g_impl_SameType : qbm_G]
section
variable [i_impl_Type_valid : qbd_O]
variable [g_impl_Type_valid : qbd_G]
section
variable [i_impl_convertible : qbg_O]
variable [g_impl_convertible : qbg_G]
section
variable [i_impl_always : qby_O]
variable [g_impl_always : qby_G]
def qbi_S : List Arg → Option (Bool × Res) := fun xs => match xs with
  | [(false, [(.slice 71, TC.l A)]), (false, [(.func, TC.f 111 [(32, cap0), (35, [TC.f 59 []])])])] => some ((qbi_c A cap0), qbi_mk (qbi_v A cap0))
  | _ => .none
theorem qbi_e (A : LL) (cap0 : List TC) : runF tab FT D78 live 110 noLoops [(false, [(.slice 71, TC.l A)]), (false, [(.func, TC.f 111 [(32, cap0), (35, [TC.f 59 []])])])] = (qbi_t A cap0).run fun p => some (qbi_mk p) := by kernel_rfl
theorem qbi_s : ∀ xs r, qbi_S xs = some (true, r) → runF tab FT D78 live 110 noLoops xs = some r := by
  intro xs r h
  unfold qbi_S at h
  split at h
  · obtain ⟨h1, rfl⟩ := sp h
    exact fun_told (qbi_e ..) (qbi_l _ _) h1
  · cases h
def D79 : Dt := also D78 110 qbi_S
theorem d79 : DOk Go.Proofs.Try.prog tab D79 := d78.also mixed_ok tab_ok names_ok noLoops_ok qbi_s
def qcz_t (a0 a1 : Int) (a2 a3 : Bool) (a4 a5 a6 a7 : LL) (a8 a9 a10 : Int) (a11 a12 : Bool) (a13 a14 a15 a16 : LL) (a17 : Int) : Tr (Bool) := (.ite ((qco_v a0 a1 a2 a3 a4 a5 a6 a7 a8) = true) (.ite ((qco_v a9 a10 a11 a12 a13 a14 a15 a16 a17) = true) (.ok true)
   (.ite ((!(a0 == a9)) = true) (.ok false)
    (.ite ((a0 == (5 : Int)) = true) (.ite ((a8 == a17) = true) (.ite ((0 : Int) ≤ (0 : Int) ∧ (0 : Int) < (a7.length : Int)) (.ite ((0 : Int) ≤ (0 : Int) ∧ (0 : Int) < (a16.length : Int)) (.ite ((qby_rc ((nth (row a7 (0 : Int)) 0).int) ((nth (row a7 (0 : Int)) 1).int) ((nth (row a7 (0 : Int)) 2).bool) ((nth (row a7 (0 : Int)) 3).bool) ((nth (row a7 (0 : Int)) 4).list) ((nth (row a7 (0 : Int)) 5).list) ((nth (row a7 (0 : Int)) 6).list) ((nth (row a7 (0 : Int)) 7).list) ((nth (row a7 (0 : Int)) 8).int) ((nth (row a16 (0 : Int)) 0).int) ((nth (row a16 (0 : Int)) 1).int) ((nth (row a16 (0 : Int)) 2).bool) ((nth (row a16 (0 : Int)) 3).bool) ((nth (row a16 (0 : Int)) 4).list) ((nth (row a16 (0 : Int)) 5).list) ((nth (row a16 (0 : Int)) 6).list) ((nth (row a16 (0 : Int)) 7).list) ((nth (row a16 (0 : Int)) 8).int)) = true) (.ok (qby_rv ((nth (row a7 (0 : Int)) 0).int) ((nth (row a7 (0 : Int)) 1).int) ((nth (row a7 (0 : Int)) 2).bool) ((nth (row a7 (0 : Int)) 3).bool) ((nth (row a7 (0 : Int)) 4).list) ((nth (row a7 (0 : Int)) 5).list) ((nth (row a7 (0 : Int)) 6).list) ((nth (row a7 (0 : Int)) 7).list) ((nth (row a7 (0 : Int)) 8).int) ((nth (row a16 (0 : Int)) 0).int) ((nth (row a16 (0 : Int)) 1).int) ((nth (row a16 (0 : Int)) 2).bool) ((nth (row a16 (0 : Int)) 3).bool) ((nth (row a16 (0 : Int)) 4).list) ((nth (row a16 (0 : Int)) 5).list) ((nth (row a16 (0 : Int)) 6).list) ((nth (row a16 (0 : Int)) 7).list) ((nth (row a16 (0 : Int)) 8).int)))
         .no)
        .no)
       .no)
      (.ok false))
     (.ite ((qbi_c a15 [TC.i a0, TC.i a1, TC.b a2, TC.b a3, TC.l a4, TC.l a5, TC.l a6, TC.l a7, TC.i a8]) = true) (.ok (!(qbi_v a15 [TC.i a0, TC.i a1, TC.b a2, TC.b a3, TC.l a4, TC.l a5, TC.l a6, TC.l a7, TC.i a8])))
      .no))))
  (.ite ((!(a0 == a9)) = true) (.ok false)
   (.ite ((a0 == (5 : Int)) = true) (.ite ((a8 == a17) = true) (.ite ((0 : Int) ≤ (0 : Int) ∧ (0 : Int) < (a7.length : Int)) (.ite ((0 : Int) ≤ (0 : Int) ∧ (0 : Int) < (a16.length : Int)) (.ite ((qby_rc ((nth (row a7 (0 : Int)) 0).int) ((nth (row a7 (0 : Int)) 1).int) ((nth (row a7 (0 : Int)) 2).bool) ((nth (row a7 (0 : Int)) 3).bool) ((nth (row a7 (0 : Int)) 4).list) ((nth (row a7 (0 : Int)) 5).list) ((nth (row a7 (0 : Int)) 6).list) ((nth (row a7 (0 : Int)) 7).list) ((nth (row a7 (0 : Int)) 8).int) ((nth (row a16 (0 : Int)) 0).int) ((nth (row a16 (0 : Int)) 1).int) ((nth (row a16 (0 : Int)) 2).bool) ((nth (row a16 (0 : Int)) 3).bool) ((nth (row a16 (0 : Int)) 4).list) ((nth (row a16 (0 : Int)) 5).list) ((nth (row a16 (0 : Int)) 6).list) ((nth (row a16 (0 : Int)) 7).list) ((nth (row a16 (0 : Int)) 8).int)) = true) (.ok (qby_rv ((nth (row a7 (0 : Int)) 0).int) ((nth (row a7 (0 : Int)) 1).int) ((nth (row a7 (0 : Int)) 2).bool) ((nth (row a7 (0 : Int)) 3).bool) ((nth (row a7 (0 : Int)) 4).list) ((nth (row a7 (0 : Int)) 5).list) ((nth (row a7 (0 : Int)) 6).list) ((nth (row a7 (0 : Int)) 7).list) ((nth (row a7 (0 : Int)) 8).int) ((nth (row a16 (0 : Int)) 0).int) ((nth (row a16 (0 : Int)) 1).int) ((nth (row a16 (0 : Int)) 2).bool) ((nth (row a16 (0 : Int)) 3).bool) ((nth (row a16 (0 : Int)) 4).list) ((nth (row a16 (0 : Int)) 5).list) ((nth (row a16 (0 : Int)) 6).list) ((nth (row a16 (0 : Int)) 7).list) ((nth (row a16 (0 : Int)) 8).int)))
        .no)
       .no)
      .no)
     (.ok false))
    (.ite ((qbi_c a15 [TC.i a0, TC.i a1, TC.b a2, TC.b a3, TC.l a4, TC.l a5, TC.l a6, TC.l a7, TC.i a8]) = true) (.ok (!(qbi_v a15 [TC.i a0, TC.i a1, TC.b a2, TC.b a3, TC.l a4, TC.l a5, TC.l a6, TC.l a7, TC.i a8])))
     .no))))
def qcz_mk (p : Bool) : Res := [(false, [⟨.bool, .sh, TC.b p⟩])]
def qcz_c (a0 a1 : Int) (a2 a3 : Bool) (a4 a5 a6 a7 : LL) (a8 a9 a10 : Int) (a11 a12 : Bool) (a13 a14 a15 a16 : LL) (a17 : Int) : Bool := (bif (qco_v a0 a1 a2 a3 a4 a5 a6 a7 a8) then (bif (qco_v a9 a10 a11 a12 a13 a14 a15 a16 a17) then true else (bif (!(a0 == a9)) then true else (bif (a0 == (5 : Int)) then (bif (a8 == a17) then (is ((0 : Int) ≤ (0 : Int) ∧ (0 : Int) < (a7.length : Int)) && (is ((0 : Int) ≤ (0 : Int) ∧ (0 : Int) < (a16.length : Int)) && ((qby_rc ((nth (row a7 (0 : Int)) 0).int) ((nth (row a7 (0 : Int)) 1).int) ((nth (row a7 (0 : Int)) 2).bool) ((nth (row a7 (0 : Int)) 3).bool) ((nth (row a7 (0 : Int)) 4).list) ((nth (row a7 (0 : Int)) 5).list) ((nth (row a7 (0 : Int)) 6).list) ((nth (row a7 (0 : Int)) 7).list) ((nth (row a7 (0 : Int)) 8).int) ((nth (row a16 (0 : Int)) 0).int) ((nth (row a16 (0 : Int)) 1).int) ((nth (row a16 (0 : Int)) 2).bool) ((nth (row a16 (0 : Int)) 3).bool) ((nth (row a16 (0 : Int)) 4).list) ((nth (row a16 (0 : Int)) 5).list) ((nth (row a16 (0 : Int)) 6).list) ((nth (row a16 (0 : Int)) 7).list) ((nth (row a16 (0 : Int)) 8).int)) && true))) else true) else ((qbi_c a15 [TC.i a0, TC.i a1, TC.b a2, TC.b a3, TC.l a4, TC.l a5, TC.l a6, TC.l a7, TC.i a8]) && true)))) else (bif (!(a0 == a9)) then true else (bif (a0 == (5 : Int)) then (bif (a8 == a17) then (is ((0 : Int) ≤ (0 : Int) ∧ (0 : Int) < (a7.length : Int)) && (is ((0 : Int) ≤ (0 : Int) ∧ (0 : Int) < (a16.length : Int)) && ((qby_rc ((nth (row a7 (0 : Int)) 0).int) ((nth (row a7 (0 : Int)) 1).int) ((nth (row a7 (0 : Int)) 2).bool) ((nth (row a7 (0 : Int)) 3).bool) ((nth (row a7 (0 : Int)) 4).list) ((nth (row a7 (0 : Int)) 5).list) ((nth (row a7 (0 : Int)) 6).list) ((nth (row a7 (0 : Int)) 7).list) ((nth (row a7 (0 : Int)) 8).int) ((nth (row a16 (0 : Int)) 0).int) ((nth (row a16 (0 : Int)) 1).int) ((nth (row a16 (0 : Int)) 2).bool) ((nth (row a16 (0 : Int)) 3).bool) ((nth (row a16 (0 : Int)) 4).list) ((nth (row a16 (0 : Int)) 5).list) ((nth (row a16 (0 : Int)) 6).list) ((nth (row a16 (0 : Int)) 7).list) ((nth (row a16 (0 : Int)) 8).int)) && true))) else true) else ((qbi_c a15 [TC.i a0, TC.i a1, TC.b a2, TC.b a3, TC.l a4, TC.l a5, TC.l a6, TC.l a7, TC.i a8]) && true))))
def qcz_v (a0 a1 : Int) (a2 a3 : Bool) (a4 a5 a6 a7 : LL) (a8 a9 a10 : Int) (a11 a12 : Bool) (a13 a14 a15 a16 : LL) (a17 : Int) : Bool := (bif (qco_v a0 a1 a2 a3 a4 a5 a6 a7 a8) then (bif (qco_v a9 a10 a11 a12 a13 a14 a15 a16 a17) then true else (bif (!(a0 == a9)) then false else (bif (a0 == (5 : Int)) then (bif (a8 == a17) then (qby_rv ((nth (row a7 (0 : Int)) 0).int) ((nth (row a7 (0 : Int)) 1).int) ((nth (row a7 (0 : Int)) 2).bool) ((nth (row a7 (0 : Int)) 3).bool) ((nth (row a7 (0 : Int)) 4).list) ((nth (row a7 (0 : Int)) 5).list) ((nth (row a7 (0 : Int)) 6).list) ((nth (row a7 (0 : Int)) 7).list) ((nth (row a7 (0 : Int)) 8).int) ((nth (row a16 (0 : Int)) 0).int) ((nth (row a16 (0 : Int)) 1).int) ((nth (row a16 (0 : Int)) 2).bool) ((nth (row a16 (0 : Int)) 3).bool) ((nth (row a16 (0 : Int)) 4).list) ((nth (row a16 (0 : Int)) 5).list) ((nth (row a16 (0 : Int)) 6).list) ((nth (row a16 (0 : Int)) 7).list) ((nth (row a16 (0 : Int)) 8).int)) else false) else (!(qbi_v a15 [TC.i a0, TC.i a1, TC.b a2, TC.b a3, TC.l a4, TC.l a5, TC.l a6, TC.l a7, TC.i a8]))))) else (bif (!(a0 == a9)) then false else (bif (a0 == (5 : Int)) then (bif (a8 == a17) then (qby_rv ((nth (row a7 (0 : Int)) 0).int) ((nth (row a7 (0 : Int)) 1).int) ((nth (row a7 (0 : Int)) 2).bool) ((nth (row a7 (0 : Int)) 3).bool) ((nth (row a7 (0 : Int)) 4).list) ((nth (row a7 (0 : Int)) 5).list) ((nth (row a7 (0 : Int)) 6).list) ((nth (row a7 (0 : Int)) 7).list) ((nth (row a7 (0 : Int)) 8).int) ((nth (row a16 (0 : Int)) 0).int) ((nth (row a16 (0 : Int)) 1).int) ((nth (row a16 (0 : Int)) 2).bool) ((nth (row a16 (0 : Int)) 3).bool) ((nth (row a16 (0 : Int)) 4).list) ((nth (row a16 (0 : Int)) 5).list) ((nth (row a16 (0 : Int)) 6).list) ((nth (row a16 (0 : Int)) 7).list) ((nth (row a16 (0 : Int)) 8).int)) else false) else (!(qbi_v a15 [TC.i a0, TC.i a1, TC.b a2, TC.b a3, TC.l a4, TC.l a5, TC.l a6, TC.l a7, TC.i a8])))))
theorem qcz_l (a0 a1 : Int) (a2 a3 : Bool) (a4 a5 a6 a7 : LL) (a8 a9 a10 : Int) (a11 a12 : Bool) (a13 a14 a15 a16 : LL) (a17 : Int) : (qcz_c a0 a1 a2 a3 a4 a5 a6 a7 a8 a9 a10 a11 a12 a13 a14 a15 a16 a17) = true → (qcz_t a0 a1 a2 a3 a4 a5 a6 a7 a8 a9 a10 a11 a12 a13 a14 a15 a16 a17).val = some (qcz_v a0 a1 a2 a3 a4 a5 a6 a7 a8 a9 a10 a11 a12 a13 a14 a15 a16 a17) := by
  unfold qcz_t qcz_v qcz_c
  intro h
  repeat' first | refine Tr.gb h fun h => ?_ | refine Tr.gs h fun h => ?_ | refine Tr.ss h (fun h => ?_) fun h => ?_ | exact rfl
def qcz_S : List Arg → Option (Bool × Res) := fun xs => match xs with
  | [(true, [(.int .i64, TC.i a0), (.int .i64, TC.i a1), (.bool, TC.b a2), (.bool, TC.b a3), (.slice 9, TC.l a4), (.slice 2, TC.l a5), (.slice 71, TC.l a6), (.slice 32, TC.l a7), (.int .i64, TC.i a8)]), (true, [(.int .i64, TC.i a9), (.int .i64, TC.i a10), (.bool, TC.b a11), (.bool, TC.b a12), (.slice 9, TC.l a13), (.slice 2, TC.l a14), (.slice 71, TC.l a15), (.slice 32, TC.l a16), (.int .i64, TC.i a17)]), (false, [(.func, TC.f 59 [])])] => some ((qcz_c a0 a1 a2 a3 a4 a5 a6 a7 a8 a9 a10 a11 a12 a13 a14 a15 a16 a17), qcz_mk (qcz_v a0 a1 a2 a3 a4 a5 a6 a7 a8 a9 a10 a11 a12 a13 a14 a15 a16 a17))
  | _ => .none
theorem qcz_e (a0 a1 : Int) (a2 a3 : Bool) (a4 a5 a6 a7 : LL) (a8 a9 a10 : Int) (a11 a12 : Bool) (a13 a14 a15 a16 : LL) (a17 : Int) : runF tab FT D79 live 80 noLoops [(true, [(.int .i64, TC.i a0), (.int .i64, TC.i a1), (.bool, TC.b a2), (.bool, TC.b a3), (.slice 9, TC.l a4), (.slice 2, TC.l a5), (.slice 71, TC.l a6), (.slice 32, TC.l a7), (.int .i64, TC.i a8)]), (true, [(.int .i64, TC.i a9), (.int .i64, TC.i a10), (.bool, TC.b a11), (.bool, TC.b a12), (.slice 9, TC.l a13), (.slice 2, TC.l a14), (.slice 71, TC.l a15), (.slice 32, TC.l a16), (.int .i64, TC.i a17)]), (false, [(.func, TC.f 59 [])])] = (qcz_t a0 a1 a2 a3 a4 a5 a6 a7 a8 a9 a10 a11 a12 a13 a14 a15 a16 a17).run fun p => some (qcz_mk p) := by kernel_rfl
theorem qcz_s : ∀ xs r, qcz_S xs = some (true, r) → runF tab FT D79 live 80 noLoops xs = some r := by
  intro xs r h
  unfold qcz_S at h
  split at h
  · obtain ⟨h1, rfl⟩ := sp h
    exact fun_told (qcz_e ..) (qcz_l _ _ _ _ _ _ _ _ _ _ _ _ _ _ _ _ _ _) h1
  · cases h
def D80 : Dt := also D79 80 qcz_S
theorem d80 : DOk Go.Proofs.Try.prog tab D80 := d79.also mixed_ok tab_ok names_ok noLoops_ok qcz_s
def qby_t (k s : Int) (sg bg : Bool) (NA NU ME BA : LL) (ct k2 s2 : Int) (sg2 bg2 : Bool) (NA2 NU2 ME2 BA2 : LL) (ct2 : Int) : Tr (Bool) := (.ite ((qco_v k s sg bg NA NU ME BA ct) = true) (.ite ((qco_v k2 s2 sg2 bg2 NA2 NU2 ME2 BA2 ct2) = true) (.ite ((qx_c k s sg bg NA NU ME BA ct k2 s2 sg2 bg2 NA2 NU2 ME2 BA2 ct2) = true) (.ok (qx_v k s sg bg NA NU ME BA ct k2 s2 sg2 bg2 NA2 NU2 ME2 BA2 ct2))
    .no)
   (.ite ((k == (2 : Int)) = true) (.ite ((k2 == (2 : Int)) = true) (.ok (decide (s ≤ s2)))
     (.ite ((qcz_c k s sg bg NA NU ME BA ct k2 s2 sg2 bg2 NA2 NU2 ME2 BA2 ct2) = true) (.ok (qcz_v k s sg bg NA NU ME BA ct k2 s2 sg2 bg2 NA2 NU2 ME2 BA2 ct2))
      .no))
    (.ite ((qcz_c k s sg bg NA NU ME BA ct k2 s2 sg2 bg2 NA2 NU2 ME2 BA2 ct2) = true) (.ok (qcz_v k s sg bg NA NU ME BA ct k2 s2 sg2 bg2 NA2 NU2 ME2 BA2 ct2))
     .no)))
  (.ite ((k == (2 : Int)) = true) (.ite ((k2 == (2 : Int)) = true) (.ok (decide (s ≤ s2)))
    (.ite ((qcz_c k s sg bg NA NU ME BA ct k2 s2 sg2 bg2 NA2 NU2 ME2 BA2 ct2) = true) (.ok (qcz_v k s sg bg NA NU ME BA ct k2 s2 sg2 bg2 NA2 NU2 ME2 BA2 ct2))
     .no))
   (.ite ((qcz_c k s sg bg NA NU ME BA ct k2 s2 sg2 bg2 NA2 NU2 ME2 BA2 ct2) = true) (.ok (qcz_v k s sg bg NA NU ME BA ct k2 s2 sg2 bg2 NA2 NU2 ME2 BA2 ct2))
    .no)))
def qby_mk (p : Bool) : Res := [(false, [⟨.bool, .sh, TC.b p⟩])]
def qby_c (k s : Int) (sg bg : Bool) (NA NU ME BA : LL) (ct k2 s2 : Int) (sg2 bg2 : Bool) (NA2 NU2 ME2 BA2 : LL) (ct2 : Int) : Bool := (bif (qco_v k s sg bg NA NU ME BA ct) then (bif (qco_v k2 s2 sg2 bg2 NA2 NU2 ME2 BA2 ct2) then ((qx_c k s sg bg NA NU ME BA ct k2 s2 sg2 bg2 NA2 NU2 ME2 BA2 ct2) && true) else (bif (k == (2 : Int)) then (bif (k2 == (2 : Int)) then true else ((qcz_c k s sg bg NA NU ME BA ct k2 s2 sg2 bg2 NA2 NU2 ME2 BA2 ct2) && true)) else ((qcz_c k s sg bg NA NU ME BA ct k2 s2 sg2 bg2 NA2 NU2 ME2 BA2 ct2) && true))) else (bif (k == (2 : Int)) then (bif (k2 == (2 : Int)) then true else ((qcz_c k s sg bg NA NU ME BA ct k2 s2 sg2 bg2 NA2 NU2 ME2 BA2 ct2) && true)) else ((qcz_c k s sg bg NA NU ME BA ct k2 s2 sg2 bg2 NA2 NU2 ME2 BA2 ct2) && true)))
def qby_v (k s : Int) (sg bg : Bool) (NA NU ME BA : LL) (ct k2 s2 : Int) (sg2 bg2 : Bool) (NA2 NU2 ME2 BA2 : LL) (ct2 : Int) : Bool := (bif (qco_v k s sg bg NA NU ME BA ct) then (bif (qco_v k2 s2 sg2 bg2 NA2 NU2 ME2 BA2 ct2) then (qx_v k s sg bg NA NU ME BA ct k2 s2 sg2 bg2 NA2 NU2 ME2 BA2 ct2) else (bif (k == (2 : Int)) then (bif (k2 == (2 : Int)) then (decide (s ≤ s2)) else (qcz_v k s sg bg NA NU ME BA ct k2 s2 sg2 bg2 NA2 NU2 ME2 BA2 ct2)) else (qcz_v k s sg bg NA NU ME BA ct k2 s2 sg2 bg2 NA2 NU2 ME2 BA2 ct2))) else (bif (k == (2 : Int)) then (bif (k2 == (2 : Int)) then (decide (s ≤ s2)) else (qcz_v k s sg bg NA NU ME BA ct k2 s2 sg2 bg2 NA2 NU2 ME2 BA2 ct2)) else (qcz_v k s sg bg NA NU ME BA ct k2 s2 sg2 bg2 NA2 NU2 ME2 BA2 ct2)))
theorem qby_l (k s : Int) (sg bg : Bool) (NA NU ME BA : LL) (ct k2 s2 : Int) (sg2 bg2 : Bool) (NA2 NU2 ME2 BA2 : LL) (ct2 : Int) : (qby_c k s sg bg NA NU ME BA ct k2 s2 sg2 bg2 NA2 NU2 ME2 BA2 ct2) = true → (qby_t k s sg bg NA NU ME BA ct k2 s2 sg2 bg2 NA2 NU2 ME2 BA2 ct2).val = some (qby_v k s sg bg NA NU ME BA ct k2 s2 sg2 bg2 NA2 NU2 ME2 BA2 ct2) := by
  unfold qby_t qby_v qby_c
  intro h
  repeat' first | refine Tr.gb h fun h => ?_ | refine Tr.gs h fun h => ?_ | refine Tr.ss h (fun h => ?_) fun h => ?_ | exact rfl
theorem qby_e (k s : Int) (sg bg : Bool) (NA NU ME BA : LL) (ct k2 s2 : Int) (sg2 bg2 : Bool) (NA2 NU2 ME2 BA2 : LL) (ct2 : Int) : runF tab FT D80 live 59 noLoops [(true, [(.int .i64, TC.i k), (.int .i64, TC.i s), (.bool, TC.b sg), (.bool, TC.b bg), (.slice 9, TC.l NA), (.slice 2, TC.l NU), (.slice 71, TC.l ME), (.slice 32, TC.l BA), (.int .i64, TC.i ct)]), (true, [(.int .i64, TC.i k2), (.int .i64, TC.i s2), (.bool, TC.b sg2), (.bool, TC.b bg2), (.slice 9, TC.l NA2), (.slice 2, TC.l NU2), (.slice 71, TC.l ME2), (.slice 32, TC.l BA2), (.int .i64, TC.i ct2)])] = (qby_t k s sg bg NA NU ME BA ct k2 s2 sg2 bg2 NA2 NU2 ME2 BA2 ct2).run fun p => some (qby_mk p) := by kernel_rfl
theorem qby_nx (k s : Int) (sg bg : Bool) (NA NU ME BA : LL) (ct k2 s2 : Int) (sg2 bg2 : Bool) (NA2 NU2 ME2 BA2 : LL) (ct2 : Int) : is (max (rowsDep ME2) (rowsDep BA2) < qby_O.n + 1 ∧ okV k s sg bg NA NU ME BA ct = true ∧ okV k2 s2 sg2 bg2 NA2 NU2 ME2 BA2 ct2 = true ∧ canV k ME BA ct k2 ME2 BA2 ct2 = true ∧ Typed tab (.slice 9) (.l NA) ∧ Typed tab (.slice 2) (.l NU) ∧ Typed tab (.slice 71) (.l ME) ∧ Typed tab (.slice 32) (.l BA) ∧ Typed tab (.slice 9) (.l NA2) ∧ Typed tab (.slice 2) (.l NU2) ∧ Typed tab (.slice 71) (.l ME2) ∧ Typed tab (.slice 32) (.l BA2)) = true → (qby_c k s sg bg NA NU ME BA ct k2 s2 sg2 bg2 NA2 NU2 ME2 BA2 ct2) = true ∧ (qby_v k s sg bg NA NU ME BA ct k2 s2 sg2 bg2 NA2 NU2 ME2 BA2 ct2) = alwV k s sg NA NU ME BA k2 s2 sg2 NA2 NU2 ME2 BA2 := by
  intro h
  obtain ⟨hM, hk, hk2, hcan, tN, tU, tM, tB, tN2, tU2, tM2, tB2⟩ := is_iff.1 h
  obtain ⟨hl1, hm1⟩ := okV_me hk
  obtain ⟨hl2, hm2⟩ := okV_me hk2
  have hn := can_num hcan
  have hr : numE k = false → (k == 5) = false → ∀ y : List TC, y ∈ ME2 → memNo ME (nth y 0).str = false → qby_rc (nth (row ME ((memIx ME (nth y 0).str : Nat) : Int)) 2).int (nth (row ME ((memIx ME (nth y 0).str : Nat) : Int)) 3).int (nth (row ME ((memIx ME (nth y 0).str : Nat) : Int)) 4).bool (nth (row ME ((memIx ME (nth y 0).str : Nat) : Int)) 5).bool (nth (row ME ((memIx ME (nth y 0).str : Nat) : Int)) 6).list (nth (row ME ((memIx ME (nth y 0).str : Nat) : Int)) 7).list (nth (row ME ((memIx ME (nth y 0).str : Nat) : Int)) 8).list (nth (row ME ((memIx ME (nth y 0).str : Nat) : Int)) 9).list (nth (row ME ((memIx ME (nth y 0).str : Nat) : Int)) 10).int (nth y 2).int (nth y 3).int (nth y 4).bool (nth y 5).bool (nth y 6).list (nth y 7).list (nth y 8).list (nth y 9).list (nth y 10).int = true := fun e e5 y hy hn => by
    have hx : (row ME ((memIx ME (nth y 0).str : Nat) : Int)) ∈ ME := by rw [row_nat]; exact mem_getD (memIx_lt hn)
    exact is_true ⟨by have := dep_max (BA := BA2) hy 8 9; omega, hm1 _ hx, hm2 y hy, can_mem hcan e e5 y hy hn, typed_list ((typed_elem tM hx).2 6 (by decide)), typed_list ((typed_elem tM hx).2 7 (by decide)), typed_list ((typed_elem tM hx).2 8 (by decide)), typed_list ((typed_elem tM hx).2 9 (by decide)), typed_list ((typed_elem tM2 hy).2 6 (by decide)), typed_list ((typed_elem tM2 hy).2 7 (by decide)), typed_list ((typed_elem tM2 hy).2 8 (by decide)), typed_list ((typed_elem tM2 hy).2 9 (by decide))⟩
  have hc : numE k = false → (k == 5) = false → ∀ y : List TC, y ∈ ME2 → qcq_c (nth y 0).str (nth y 1).int (nth y 2).int (nth y 3).int (nth y 4).bool (nth y 5).bool (nth y 6).list (nth y 7).list (nth y 8).list (nth y 9).list (nth y 10).int [TC.i k, TC.i s, TC.b sg, TC.b bg, TC.l NA, TC.l NU, TC.l ME, TC.l BA, TC.i ct] = true := fun e e5 y hy => by
    unfold qcq_c
    rw [show (nth [TC.i k, TC.i s, TC.b sg, TC.b bg, TC.l NA, TC.l NU, TC.l ME, TC.l BA, TC.i ct] 0).int = k from rfl, show (nth [TC.i k, TC.i s, TC.b sg, TC.b bg, TC.l NA, TC.l NU, TC.l ME, TC.l BA, TC.i ct] 1).int = s from rfl, show (nth [TC.i k, TC.i s, TC.b sg, TC.b bg, TC.l NA, TC.l NU, TC.l ME, TC.l BA, TC.i ct] 2).bool = sg from rfl, show (nth [TC.i k, TC.i s, TC.b sg, TC.b bg, TC.l NA, TC.l NU, TC.l ME, TC.l BA, TC.i ct] 3).bool = bg from rfl, show (nth [TC.i k, TC.i s, TC.b sg, TC.b bg, TC.l NA, TC.l NU, TC.l ME, TC.l BA, TC.i ct] 4).list = NA from rfl, show (nth [TC.i k, TC.i s, TC.b sg, TC.b bg, TC.l NA, TC.l NU, TC.l ME, TC.l BA, TC.i ct] 5).list = NU from rfl, show (nth [TC.i k, TC.i s, TC.b sg, TC.b bg, TC.l NA, TC.l NU, TC.l ME, TC.l BA, TC.i ct] 6).list = ME from rfl, show (nth [TC.i k, TC.i s, TC.b sg, TC.b bg, TC.l NA, TC.l NU, TC.l ME, TC.l BA, TC.i ct] 7).list = BA from rfl, show (nth [TC.i k, TC.i s, TC.b sg, TC.b bg, TC.l NA, TC.l NU, TC.l ME, TC.l BA, TC.i ct] 8).int = ct from rfl, qs_cc tM]
    cases hm : memNo ME (nth y 0).str with
    | true => rw [member_no hm]; rfl
    | false => rw [member_yes hm]; exact andT rfl (andT (hr e e5 y hy hm) rfl)
  have hv : ∀ y : List TC, (!(qcq_v (nth y 0).str (nth y 1).int (nth y 2).int (nth y 3).int (nth y 4).bool (nth y 5).bool (nth y 6).list (nth y 7).list (nth y 8).list (nth y 9).list (nth y 10).int [TC.i k, TC.i s, TC.b sg, TC.b bg, TC.l NA, TC.l NU, TC.l ME, TC.l BA, TC.i ct])) = (memNo ME (nth y 0).str || alwV (nth (row ME ((memIx ME (nth y 0).str : Nat) : Int)) 2).int (nth (row ME ((memIx ME (nth y 0).str : Nat) : Int)) 3).int (nth (row ME ((memIx ME (nth y 0).str : Nat) : Int)) 4).bool (nth (row ME ((memIx ME (nth y 0).str : Nat) : Int)) 6).list (nth (row ME ((memIx ME (nth y 0).str : Nat) : Int)) 7).list (nth (row ME ((memIx ME (nth y 0).str : Nat) : Int)) 8).list (nth (row ME ((memIx ME (nth y 0).str : Nat) : Int)) 9).list (nth y 2).int (nth y 3).int (nth y 4).bool (nth y 6).list (nth y 7).list (nth y 8).list (nth y 9).list) := fun y => by
    unfold qcq_v
    rw [show (nth [TC.i k, TC.i s, TC.b sg, TC.b bg, TC.l NA, TC.l NU, TC.l ME, TC.l BA, TC.i ct] 0).int = k from rfl, show (nth [TC.i k, TC.i s, TC.b sg, TC.b bg, TC.l NA, TC.l NU, TC.l ME, TC.l BA, TC.i ct] 1).int = s from rfl, show (nth [TC.i k, TC.i s, TC.b sg, TC.b bg, TC.l NA, TC.l NU, TC.l ME, TC.l BA, TC.i ct] 2).bool = sg from rfl, show (nth [TC.i k, TC.i s, TC.b sg, TC.b bg, TC.l NA, TC.l NU, TC.l ME, TC.l BA, TC.i ct] 3).bool = bg from rfl, show (nth [TC.i k, TC.i s, TC.b sg, TC.b bg, TC.l NA, TC.l NU, TC.l ME, TC.l BA, TC.i ct] 4).list = NA from rfl, show (nth [TC.i k, TC.i s, TC.b sg, TC.b bg, TC.l NA, TC.l NU, TC.l ME, TC.l BA, TC.i ct] 5).list = NU from rfl, show (nth [TC.i k, TC.i s, TC.b sg, TC.b bg, TC.l NA, TC.l NU, TC.l ME, TC.l BA, TC.i ct] 6).list = ME from rfl, show (nth [TC.i k, TC.i s, TC.b sg, TC.b bg, TC.l NA, TC.l NU, TC.l ME, TC.l BA, TC.i ct] 7).list = BA from rfl, show (nth [TC.i k, TC.i s, TC.b sg, TC.b bg, TC.l NA, TC.l NU, TC.l ME, TC.l BA, TC.i ct] 8).int = ct from rfl]
    cases hm : memNo ME (nth y 0).str with
    | true => rw [member_no hm]; rfl
    | false => rw [member_yes hm]; exact Bool.not_not _
  have cc : numE k = false → (k == 5) = false → qbi_c ME2 [TC.i k, TC.i s, TC.b sg, TC.b bg, TC.l NA, TC.l NU, TC.l ME, TC.l BA, TC.i ct] = true := fun e e5 => is_true ⟨tM2, hc e e5⟩
  have cv : qbi_v ME2 [TC.i k, TC.i s, TC.b sg, TC.b bg, TC.l NA, TC.l NU, TC.l ME, TC.l BA, TC.i ct] = !(ME2.all fun y => memNo ME (nth y 0).str || alwV (nth (row ME ((memIx ME (nth y 0).str : Nat) : Int)) 2).int (nth (row ME ((memIx ME (nth y 0).str : Nat) : Int)) 3).int (nth (row ME ((memIx ME (nth y 0).str : Nat) : Int)) 4).bool (nth (row ME ((memIx ME (nth y 0).str : Nat) : Int)) 6).list (nth (row ME ((memIx ME (nth y 0).str : Nat) : Int)) 7).list (nth (row ME ((memIx ME (nth y 0).str : Nat) : Int)) 8).list (nth (row ME ((memIx ME (nth y 0).str : Nat) : Int)) 9).list (nth y 2).int (nth y 3).int (nth y 4).bool (nth y 6).list (nth y 7).list (nth y 8).list (nth y 9).list) := by
    unfold qbi_v
    rw [show (fun x : List TC => !(qcq_v (nth x 0).str (nth x 1).int (nth x 2).int (nth x 3).int (nth x 4).bool (nth x 5).bool (nth x 6).list (nth x 7).list (nth x 8).list (nth x 9).list (nth x 10).int [TC.i k, TC.i s, TC.b sg, TC.b bg, TC.l NA, TC.l NU, TC.l ME, TC.l BA, TC.i ct])) = (fun y : List TC => memNo ME (nth y 0).str || alwV (nth (row ME ((memIx ME (nth y 0).str : Nat) : Int)) 2).int (nth (row ME ((memIx ME (nth y 0).str : Nat) : Int)) 3).int (nth (row ME ((memIx ME (nth y 0).str : Nat) : Int)) 4).bool (nth (row ME ((memIx ME (nth y 0).str : Nat) : Int)) 6).list (nth (row ME ((memIx ME (nth y 0).str : Nat) : Int)) 7).list (nth (row ME ((memIx ME (nth y 0).str : Nat) : Int)) 8).list (nth (row ME ((memIx ME (nth y 0).str : Nat) : Int)) 9).list (nth y 2).int (nth y 3).int (nth y 4).bool (nth y 6).list (nth y 7).list (nth y 8).list (nth y 9).list) from funext hv]
  unfold qby_c qby_v qcz_c qcz_v
  rw [alwV, attach_alw, show qco_v k s sg bg NA NU ME BA ct = numE k from rfl, show qco_v k2 s2 sg2 bg2 NA2 NU2 ME2 BA2 ct2 = numE k2 from rfl, cv, hn]
  cases h1 : numE k with
  | true =>
    obtain ⟨a, b⟩ := alw_nums hk hk2 h1 (hn.trans h1) tN tU tN2
    rw [a, b]
    exact ⟨rfl, rfl⟩
  | false =>
    have hkk := can_kind hcan h1
    subst hkk
    rw [show (k == k) = true from beq_self_eq_true k]
    cases h2 : (k == 2) with
    | true => exact ⟨rfl, rfl⟩
    | false =>
      cases h5 : (k == 5) with
      | true =>
        have h5 := eq_of_beq h5
        subst h5
        obtain ⟨hb, ho⟩ := okV_base hk
        obtain ⟨hb2, ho2⟩ := okV_base hk2
        obtain ⟨hct, hcb⟩ := can_base hcan
        have hrb : qby_rc (nth (row BA (0 : Int)) 0).int (nth (row BA (0 : Int)) 1).int (nth (row BA (0 : Int)) 2).bool (nth (row BA (0 : Int)) 3).bool (nth (row BA (0 : Int)) 4).list (nth (row BA (0 : Int)) 5).list (nth (row BA (0 : Int)) 6).list (nth (row BA (0 : Int)) 7).list (nth (row BA (0 : Int)) 8).int (nth (row BA2 (0 : Int)) 0).int (nth (row BA2 (0 : Int)) 1).int (nth (row BA2 (0 : Int)) 2).bool (nth (row BA2 (0 : Int)) 3).bool (nth (row BA2 (0 : Int)) 4).list (nth (row BA2 (0 : Int)) 5).list (nth (row BA2 (0 : Int)) 6).list (nth (row BA2 (0 : Int)) 7).list (nth (row BA2 (0 : Int)) 8).int = true := is_true ⟨by have := dep_base (ME := ME2) hb2 6 7; omega, ho, ho2, hcb, typed_list ((typed_elem tB (mem_getD (i := 0) hb)).2 4 (by decide)), typed_list ((typed_elem tB (mem_getD (i := 0) hb)).2 5 (by decide)), typed_list ((typed_elem tB (mem_getD (i := 0) hb)).2 6 (by decide)), typed_list ((typed_elem tB (mem_getD (i := 0) hb)).2 7 (by decide)), typed_list ((typed_elem tB2 (mem_getD (i := 0) hb2)).2 4 (by decide)), typed_list ((typed_elem tB2 (mem_getD (i := 0) hb2)).2 5 (by decide)), typed_list ((typed_elem tB2 (mem_getD (i := 0) hb2)).2 6 (by decide)), typed_list ((typed_elem tB2 (mem_getD (i := 0) hb2)).2 7 (by decide))⟩
        rw [dif_pos hb2, hct, show (ct2 == ct2) = true from beq_self_eq_true ct2]
        exact ⟨andT (andT (is_true (by constructor <;> omega)) (andT (is_true (by constructor <;> omega)) (andT hrb rfl))) rfl, rfl⟩
      | false =>
        rw [cc h1 h5]
        cases ME2.all (fun y => memNo ME (nth y 0).str || alwV (nth (row ME ((memIx ME (nth y 0).str : Nat) : Int)) 2).int (nth (row ME ((memIx ME (nth y 0).str : Nat) : Int)) 3).int (nth (row ME ((memIx ME (nth y 0).str : Nat) : Int)) 4).bool (nth (row ME ((memIx ME (nth y 0).str : Nat) : Int)) 6).list (nth (row ME ((memIx ME (nth y 0).str : Nat) : Int)) 7).list (nth (row ME ((memIx ME (nth y 0).str : Nat) : Int)) 8).list (nth (row ME ((memIx ME (nth y 0).str : Nat) : Int)) 9).list (nth y 2).int (nth y 3).int (nth y 4).bool (nth y 6).list (nth y 7).list (nth y 8).list (nth y 9).list) <;> exact ⟨rfl, rfl⟩
theorem qby_nxr (k s : Int) (sg bg : Bool) (NA NU ME BA : LL) (ct k2 s2 : Int) (sg2 bg2 : Bool) (NA2 NU2 ME2 BA2 : LL) (ct2 : Int) : qby_rc (i_impl_always := ⟨qby_O.n + 1⟩) k s sg bg NA NU ME BA ct k2 s2 sg2 bg2 NA2 NU2 ME2 BA2 ct2 = true → (qby_c k s sg bg NA NU ME BA ct k2 s2 sg2 bg2 NA2 NU2 ME2 BA2 ct2) = true ∧ (qby_v k s sg bg NA NU ME BA ct k2 s2 sg2 bg2 NA2 NU2 ME2 BA2 ct2) = (qby_rv k s sg bg NA NU ME BA ct k2 s2 sg2 bg2 NA2 NU2 ME2 BA2 ct2) := fun h => qby_nx k s sg bg NA NU ME BA ct k2 s2 sg2 bg2 NA2 NU2 ME2 BA2 ct2 h
theorem qby_rs : ∀ xs r, qby_rS (i_impl_always := ⟨qby_O.n + 1⟩) xs = some (true, r) → runF tab FT D80 live 59 noLoops xs = some r := by
  intro xs r h
  unfold qby_rS at h
  split at h
  · obtain ⟨h1, rfl⟩ := sp h
    have hx := qby_nxr _ _ _ _ _ _ _ _ _ _ _ _ _ _ _ _ _ _ h1
    have ht := fun_told (qby_e ..) (qby_l _ _ _ _ _ _ _ _ _ _ _ _ _ _ _ _ _ _) hx.1
    rw [hx.2] at ht
    exact ht
  · cases h
theorem qby_step : qby_G (i_impl_always := ⟨qby_O.n + 1⟩) := by
  have h := DOk.also2 (S := qby_rS (i_impl_always := ⟨qby_O.n + 1⟩)) mixed_ok tab_ok names_ok d75 d80 noLoops_ok qby_rs
  refine qby_G.mk (i_impl_always := ⟨qby_O.n + 1⟩) ?_
  exact h
def qcr_t (k s : Int) (sg bg : Bool) (NA NU ME BA : LL) (ct k2 s2 : Int) (sg2 bg2 : Bool) (NA2 NU2 ME2 BA2 : LL) (ct2 : Int) : Tr (Bool) := (.ite ((qcv_c k s sg bg NA NU ME BA ct k2 s2 sg2 bg2 NA2 NU2 ME2 BA2 ct2) = true) (.ite ((qcv_v k s sg bg NA NU ME BA ct k2 s2 sg2 bg2 NA2 NU2 ME2 BA2 ct2) = true) (.ite ((qby_rc k s sg bg NA NU ME BA ct k2 s2 sg2 bg2 NA2 NU2 ME2 BA2 ct2) = true) (.ok (qby_rv k s sg bg NA NU ME BA ct k2 s2 sg2 bg2 NA2 NU2 ME2 BA2 ct2))
    .no)
   (.ok false))
  .no)
def qcr_mk (p : Bool) : Res := [(false, [⟨.bool, .sh, TC.b p⟩])]
def qcr_c (k s : Int) (sg bg : Bool) (NA NU ME BA : LL) (ct k2 s2 : Int) (sg2 bg2 : Bool) (NA2 NU2 ME2 BA2 : LL) (ct2 : Int) : Bool := ((qcv_c k s sg bg NA NU ME BA ct k2 s2 sg2 bg2 NA2 NU2 ME2 BA2 ct2) && (bif (qcv_v k s sg bg NA NU ME BA ct k2 s2 sg2 bg2 NA2 NU2 ME2 BA2 ct2) then ((qby_rc k s sg bg NA NU ME BA ct k2 s2 sg2 bg2 NA2 NU2 ME2 BA2 ct2) && true) else true))
def qcr_v (k s : Int) (sg bg : Bool) (NA NU ME BA : LL) (ct k2 s2 : Int) (sg2 bg2 : Bool) (NA2 NU2 ME2 BA2 : LL) (ct2 : Int) : Bool := (bif (qcv_v k s sg bg NA NU ME BA ct k2 s2 sg2 bg2 NA2 NU2 ME2 BA2 ct2) then (qby_rv k s sg bg NA NU ME BA ct k2 s2 sg2 bg2 NA2 NU2 ME2 BA2 ct2) else false)
theorem qcr_l (k s : Int) (sg bg : Bool) (NA NU ME BA : LL) (ct k2 s2 : Int) (sg2 bg2 : Bool) (NA2 NU2 ME2 BA2 : LL) (ct2 : Int) : (qcr_c k s sg bg NA NU ME BA ct k2 s2 sg2 bg2 NA2 NU2 ME2 BA2 ct2) = true → (qcr_t k s sg bg NA NU ME BA ct k2 s2 sg2 bg2 NA2 NU2 ME2 BA2 ct2).val = some (qcr_v k s sg bg NA NU ME BA ct k2 s2 sg2 bg2 NA2 NU2 ME2 BA2 ct2) := by
  unfold qcr_t qcr_v qcr_c
  exact fun h => (Tr.gb h fun h => (Tr.ss h (fun h => (Tr.gb h fun h => rfl)) (fun h => rfl)))
def qcr_S : List Arg → Option (Bool × Res) := fun xs => match xs with
  | [(true, [(.int .i64, TC.i k), (.int .i64, TC.i s), (.bool, TC.b sg), (.bool, TC.b bg), (.slice 9, TC.l NA), (.slice 2, TC.l NU), (.slice 71, TC.l ME), (.slice 32, TC.l BA), (.int .i64, TC.i ct)]), (true, [(.int .i64, TC.i k2), (.int .i64, TC.i s2), (.bool, TC.b sg2), (.bool, TC.b bg2), (.slice 9, TC.l NA2), (.slice 2, TC.l NU2), (.slice 71, TC.l ME2), (.slice 32, TC.l BA2), (.int .i64, TC.i ct2)])] => some ((qcr_c k s sg bg NA NU ME BA ct k2 s2 sg2 bg2 NA2 NU2 ME2 BA2 ct2), qcr_mk (qcr_v k s sg bg NA NU ME BA ct k2 s2 sg2 bg2 NA2 NU2 ME2 BA2 ct2))
  | _ => .none
theorem qcr_e (k s : Int) (sg bg : Bool) (NA NU ME BA : LL) (ct k2 s2 : Int) (sg2 bg2 : Bool) (NA2 NU2 ME2 BA2 : LL) (ct2 : Int) : runF tab FT D80 live 23 noLoops [(true, [(.int .i64, TC.i k), (.int .i64, TC.i s), (.bool, TC.b sg), (.bool, TC.b bg), (.slice 9, TC.l NA), (.slice 2, TC.l NU), (.slice 71, TC.l ME), (.slice 32, TC.l BA), (.int .i64, TC.i ct)]), (true, [(.int .i64, TC.i k2), (.int .i64, TC.i s2), (.bool, TC.b sg2), (.bool, TC.b bg2), (.slice 9, TC.l NA2), (.slice 2, TC.l NU2), (.slice 71, TC.l ME2), (.slice 32, TC.l BA2), (.int .i64, TC.i ct2)])] = (qcr_t k s sg bg NA NU ME BA ct k2 s2 sg2 bg2 NA2 NU2 ME2 BA2 ct2).run fun p => some (qcr_mk p) := by kernel_rfl
theorem qcr_s : ∀ xs r, qcr_S xs = some (true, r) → runF tab FT D80 live 23 noLoops xs = some r := by
  intro xs r h
  unfold qcr_S at h
  split at h
  · obtain ⟨h1, rfl⟩ := sp h
    exact fun_told (qcr_e ..) (qcr_l _ _ _ _ _ _ _ _ _ _ _ _ _ _ _ _ _ _) h1
  · cases h
def D81 : Dt := also D80 23 qcr_S
theorem d81 : DOk Go.Proofs.Try.prog tab D81 := d80.also mixed_ok tab_ok names_ok noLoops_ok qcr_s
theorem qcr_cc {k : Int} {s : Int} {sg : Bool} {bg : Bool} {NA : LL} {NU : LL} {ME : LL} {BA : LL} {ct : Int} {k2 : Int} {s2 : Int} {sg2 : Bool} {bg2 : Bool} {NA2 : LL} {NU2 : LL} {ME2 : LL} {BA2 : LL} {ct2 : Int} (hc : qcv_c k s sg bg NA NU ME BA ct k2 s2 sg2 bg2 NA2 NU2 ME2 BA2 ct2 = true) (alw : okV k s sg bg NA NU ME BA ct = true → okV k2 s2 sg2 bg2 NA2 NU2 ME2 BA2 ct2 = true → canV k ME BA ct k2 ME2 BA2 ct2 = true → qby_rc k s sg bg NA NU ME BA ct k2 s2 sg2 bg2 NA2 NU2 ME2 BA2 ct2 = true) : (qcr_c k s sg bg NA NU ME BA ct k2 s2 sg2 bg2 NA2 NU2 ME2 BA2 ct2) = true := by
  unfold qcr_c
  refine andT (by exact hc) ?_
  refine bifT (fun b1 => ?_) (fun b1 => ?_)
  · skip
    refine andT (by obtain ⟨p1, p2, p3⟩ := can_parts ((qcv_vv k s sg bg NA NU ME BA ct k2 s2 sg2 bg2 NA2 NU2 ME2 BA2 ct2).symm.trans b1); exact alw p1 p2 p3) ?_
    rfl
  · skip
    rfl
theorem qcr_vv (k s : Int) (sg bg : Bool) (NA NU ME BA : LL) (ct : Int) (k2 s2 : Int) (sg2 bg2 : Bool) (NA2 NU2 ME2 BA2 : LL) (ct2 : Int) : qcr_v k s sg bg NA NU ME BA ct k2 s2 sg2 bg2 NA2 NU2 ME2 BA2 ct2 = bif bif okV k s sg bg NA NU ME BA ct then (bif okV k2 s2 sg2 bg2 NA2 NU2 ME2 BA2 ct2 then canV k ME BA ct k2 ME2 BA2 ct2 else false) else false then alwV k s sg NA NU ME BA k2 s2 sg2 NA2 NU2 ME2 BA2 else false := by
  unfold qcr_v
  rw [qcv_vv]; rfl
abbrev qbx_4_σ := LL × LL × Int
abbrev qbx_4_ω := (Unit) ⊕ (Unit)
def qbx_4_step (A C : LL) (i : Int) : Tr (qbx_4_σ ⊕ qbx_4_ω) := (.ite ((decide (i < (A.length : Int))) = true) (.ite ((0 : Int) ≤ i ∧ i < (A.length : Int)) (.ite ((0 : Int) ≤ i ∧ i < (C.length : Int)) (.ite ((!((nth (row A i) 0).str == (nth (row C i) 0).str)) = true) (.ok (.inr (.inl ())))
     (.ok (.inl (A, C, (IntKind.wrap .i64 (i + (1 : Int)))))))
    .no)
   .no)
  (.ok (.inr (.inr ()))))
def qbx_4_st : qbx_4_σ → Tr (qbx_4_σ ⊕ qbx_4_ω) := fun x => (qbx_4_step (x.1) (x.2.1) (x.2.2))
def qbx_o4_1 (A C : LL) (i : Int) : Bool := is (A = C ∧ Typed tab (.slice 9) (.l A) ∧ i = 0)
def qbx_4_fin (A C : LL) (i : Int) : Told qbx_4_ω := (.leaf (qbx_o4_1 A C i) (.inr ()))
def qbx_4_sl (x : qbx_4_σ) : List Slot := [⟨.val false [⟨.slice 9, .sh, TC.l (x.1)⟩], ⟨0, 0⟩⟩, ⟨.val false [⟨.slice 9, .sh, TC.l (x.2.1)⟩], ⟨0, 0⟩⟩, ⟨.val false [⟨.int .i64, .sh, TC.i (x.2.2)⟩], ⟨0, 0⟩⟩]
def qbx_4_out : qbx_4_ω → Ex × List Slot := (Sum.elim (fun x => (.ret, [⟨.val false [⟨.bool, .sh, TC.b false⟩], ⟨0, 0⟩⟩])) (fun x => (.exit 0, [Slot.none])))
def qbx_lo4 : List Slot → Option (Told (Ex × List Slot)) := fun s => match s with
  | [⟨.val false [⟨.slice 9, .sh, TC.l A⟩], ⟨0, 0⟩⟩, ⟨.val false [⟨.slice 9, .sh, TC.l C⟩], ⟨0, 0⟩⟩, ⟨.val false [⟨.int .i64, .sh, TC.i i⟩], ⟨0, 0⟩⟩] => some (((qbx_4_fin A C i)).map qbx_4_out)
  | _ => .none
def qbx_lo : LoopTeller := fun r s => bif Nat.beq r 4 then qbx_lo4 s else .none
theorem qbx_4_r (A C : LL) (i : Int) (fuel : Nat) : rounds (rnd tab FT D81 live 38 qbx_lo 0 4) leave (fuel + 1) (qbx_4_sl (A, C, i)) = ((qbx_4_step A C i)).run (goOn (fun s => rounds (rnd tab FT D81 live 38 qbx_lo 0 4) leave fuel (qbx_4_sl s)) fun w => some (qbx_4_out w)) := by kernel_rfl
theorem qbx_4_h (A C : LL) (i : Int) (ow : qbx_4_ω) : ((qbx_4_fin A C i)).val = some ow → ∃ fuel, loopN qbx_4_st fuel (A, C, i) = some ow := by
  intro h
  refine auto_leaf (R := Sum.inr ()) (fun ho => ?_) h
  obtain ⟨rfl, ht, rfl⟩ := is_iff.1 ho
  have hlen : A.length ≤ 140737488351232 := by have := typed_room ht; simp only [show (tab 9).bytes = 16 from rfl] at this; omega
  refine ⟨_, loopN_run (N := A.length) (fun i => (A, A, (i : Int))) (fun i hi => ?_) ?_ A.length 0 (by omega)⟩
  · have c0 : Typed tab (.str) (.s (nth (A.getD i []) 0).str) := typed_s (typed_cell ht (A.getD i []) (mem_getD hi) 0 (by decide))
    show (qbx_4_step A A (i : Int)).val = _
    unfold qbx_4_step
    refine Tr.t (by simp; omega) ?_
    refine Tr.t (by first | omega | (constructor <;> omega)) ?_
    refine Tr.t (by first | omega | (constructor <;> omega)) ?_
    refine Tr.n (by simp [qbm_rv, qbh_rv, qbd_rv, qby_rv, qbg_rv, qbp_rv, qj_rv, qh_rv, qbs_rv, qu_rv, qi_rv, qbc_rv]) ?_
    rw [Tr.val_ok, wrap64 (i := (i : Int) + 1) (by omega) (by omega)]; rfl
  · show (qbx_4_step A A (A.length : Int)).val = _
    refine Tr.n (by simp) ?_
    rfl
theorem qbx_is4 : LoopIs tab FT D81 live 38 qbx_lo 0 4 := by
  refine loop_told (sl := qbx_4_sl) (step := qbx_4_st) (out := qbx_4_out) (lor := qbx_lo4) (fin := fun x => (qbx_4_fin (x.1) (x.2.1) (x.2.2))) (fun _ => rfl) ?_ (fun x n => qbx_4_r x.1 x.2.1 x.2.2 n) (fun x ow => qbx_4_h x.1 x.2.1 x.2.2 ow)
  intro s t h
  unfold qbx_lo4 at h
  split at h
  · cases h; exact ⟨(_, _, _), rfl, rfl⟩
  · cases h
def qbx_t (A C : LL) : Tr (Bool) := (.ite ((!((A.length : Int) == (C.length : Int))) = true) (.ok false)
  (.ite ((qbx_o4_1 A C (0 : Int)) = true) (.ok true)
   .no))
def qbx_mk (p : Bool) : Res := [(false, [⟨.bool, .sh, TC.b p⟩])]
def qbx_c (A C : LL) : Bool := is (A = C ∧ Typed tab (.slice 9) (.l A))
def qbx_v (A C : LL) : Bool := true
theorem qbx_l (A C : LL) : (qbx_c A C) = true → (qbx_t A C).val = some (qbx_v A C) := by
  intro h
  obtain ⟨rfl, ht⟩ := is_iff.1 h
  unfold qbx_t
  refine Tr.n (by simp) ?_
  refine Tr.t (is_true ⟨rfl, ht, rfl⟩) ?_
  rfl
def qbx_S : List Arg → Option (Bool × Res) := fun xs => match xs with
  | [(false, [(.slice 9, TC.l A)]), (false, [(.slice 9, TC.l C)])] => some ((qbx_c A C), qbx_mk (qbx_v A C))
  | _ => .none
theorem qbx_e (A C : LL) : runF tab FT D81 live 38 qbx_lo [(false, [(.slice 9, TC.l A)]), (false, [(.slice 9, TC.l C)])] = (qbx_t A C).run fun p => some (qbx_mk p) := by kernel_rfl
theorem qbx_s : ∀ xs r, qbx_S xs = some (true, r) → runF tab FT D81 live 38 qbx_lo xs = some r := by
  intro xs r h
  unfold qbx_S at h
  split at h
  · obtain ⟨h1, rfl⟩ := sp h
    exact fun_told (qbx_e ..) (qbx_l _ _) h1
  · cases h
def D82 : Dt := also D81 38 qbx_S
theorem d82 : DOk Go.Proofs.Try.prog tab D82 := d81.also mixed_ok tab_ok names_ok (fnLoops_one (by kernel_rfl) qbx_is4) qbx_s
abbrev qca_4_σ := LL × LL × Int
abbrev qca_4_ω := (Unit) ⊕ (Unit)
def qca_4_step (A C : LL) (i : Int) : Tr (qca_4_σ ⊕ qca_4_ω) := (.ite ((decide (i < (A.length : Int))) = true) (.ite ((0 : Int) ≤ i ∧ i < (A.length : Int)) (.ite ((0 : Int) ≤ i ∧ i < (C.length : Int)) (.ite ((!((nth (row A i) 0).int == (nth (row C i) 0).int)) = true) (.ok (.inr (.inl ())))
     (.ok (.inl (A, C, (IntKind.wrap .i64 (i + (1 : Int)))))))
    .no)
   .no)
  (.ok (.inr (.inr ()))))
def qca_4_st : qca_4_σ → Tr (qca_4_σ ⊕ qca_4_ω) := fun x => (qca_4_step (x.1) (x.2.1) (x.2.2))
def qca_o4_1 (A C : LL) (i : Int) : Bool := is (A = C ∧ Typed tab (.slice 2) (.l A) ∧ i = 0)
def qca_4_fin (A C : LL) (i : Int) : Told qca_4_ω := (.leaf (qca_o4_1 A C i) (.inr ()))
def qca_4_sl (x : qca_4_σ) : List Slot := [⟨.val false [⟨.slice 2, .sh, TC.l (x.1)⟩], ⟨0, 0⟩⟩, ⟨.val false [⟨.slice 2, .sh, TC.l (x.2.1)⟩], ⟨0, 0⟩⟩, ⟨.val false [⟨.int .i64, .sh, TC.i (x.2.2)⟩], ⟨0, 0⟩⟩]
def qca_4_out : qca_4_ω → Ex × List Slot := (Sum.elim (fun x => (.ret, [⟨.val false [⟨.bool, .sh, TC.b false⟩], ⟨0, 0⟩⟩])) (fun x => (.exit 0, [Slot.none])))
def qca_lo4 : List Slot → Option (Told (Ex × List Slot)) := fun s => match s with
  | [⟨.val false [⟨.slice 2, .sh, TC.l A⟩], ⟨0, 0⟩⟩, ⟨.val false [⟨.slice 2, .sh, TC.l C⟩], ⟨0, 0⟩⟩, ⟨.val false [⟨.int .i64, .sh, TC.i i⟩], ⟨0, 0⟩⟩] => some (((qca_4_fin A C i)).map qca_4_out)
  | _ => .none
def qca_lo : LoopTeller := fun r s => bif Nat.beq r 4 then qca_lo4 s else .none
theorem qca_4_r (A C : LL) (i : Int) (fuel : Nat) : rounds (rnd tab FT D82 live 39 qca_lo 0 4) leave (fuel + 1) (qca_4_sl (A, C, i)) = ((qca_4_step A C i)).run (goOn (fun s => rounds (rnd tab FT D82 live 39 qca_lo 0 4) leave fuel (qca_4_sl s)) fun w => some (qca_4_out w)) := by kernel_rfl
theorem qca_4_h (A C : LL) (i : Int) (ow : qca_4_ω) : ((qca_4_fin A C i)).val = some ow → ∃ fuel, loopN qca_4_st fuel (A, C, i) = some ow := by
  intro h
  refine auto_leaf (R := Sum.inr ()) (fun ho => ?_) h
  obtain ⟨rfl, ht, rfl⟩ := is_iff.1 ho
  have hlen : A.length ≤ 140737488351232 := by have := typed_room ht; simp only [show (tab 2).bytes = 8 from rfl] at this; omega
  refine ⟨_, loopN_run (N := A.length) (fun i => (A, A, (i : Int))) (fun i hi => ?_) ?_ A.length 0 (by omega)⟩
  · skip
    show (qca_4_step A A (i : Int)).val = _
    unfold qca_4_step
    refine Tr.t (by simp; omega) ?_
    refine Tr.t (by first | omega | (constructor <;> omega)) ?_
    refine Tr.t (by first | omega | (constructor <;> omega)) ?_
    refine Tr.n (by simp [qbm_rv, qbh_rv, qbd_rv, qby_rv, qbg_rv, qbp_rv, qj_rv, qh_rv, qbs_rv, qu_rv, qi_rv, qbc_rv]) ?_
    rw [Tr.val_ok, wrap64 (i := (i : Int) + 1) (by omega) (by omega)]; rfl
  · show (qca_4_step A A (A.length : Int)).val = _
    refine Tr.n (by simp) ?_
    rfl
theorem qca_is4 : LoopIs tab FT D82 live 39 qca_lo 0 4 := by
  refine loop_told (sl := qca_4_sl) (step := qca_4_st) (out := qca_4_out) (lor := qca_lo4) (fin := fun x => (qca_4_fin (x.1) (x.2.1) (x.2.2))) (fun _ => rfl) ?_ (fun x n => qca_4_r x.1 x.2.1 x.2.2 n) (fun x ow => qca_4_h x.1 x.2.1 x.2.2 ow)
  intro s t h
  unfold qca_lo4 at h
  split at h
  · cases h; exact ⟨(_, _, _), rfl, rfl⟩
  · cases h
def qca_t (A C : LL) : Tr (Bool) := (.ite ((!((A.length : Int) == (C.length : Int))) = true) (.ok false)
  (.ite ((qca_o4_1 A C (0 : Int)) = true) (.ok true)
   .no))
def qca_mk (p : Bool) : Res := [(false, [⟨.bool, .sh, TC.b p⟩])]
def qca_c (A C : LL) : Bool := is (A = C ∧ Typed tab (.slice 2) (.l A))
def qca_v (A C : LL) : Bool := true
theorem qca_l (A C : LL) : (qca_c A C) = true → (qca_t A C).val = some (qca_v A C) := by
  intro h
  obtain ⟨rfl, ht⟩ := is_iff.1 h
  unfold qca_t
  refine Tr.n (by simp) ?_
  refine Tr.t (is_true ⟨rfl, ht, rfl⟩) ?_
  rfl
def qca_S : List Arg → Option (Bool × Res) := fun xs => match xs with
  | [(false, [(.slice 2, TC.l A)]), (false, [(.slice 2, TC.l C)])] => some ((qca_c A C), qca_mk (qca_v A C))
  | _ => .none
theorem qca_e (A C : LL) : runF tab FT D82 live 39 qca_lo [(false, [(.slice 2, TC.l A)]), (false, [(.slice 2, TC.l C)])] = (qca_t A C).run fun p => some (qca_mk p) := by kernel_rfl
theorem qca_s : ∀ xs r, qca_S xs = some (true, r) → runF tab FT D82 live 39 qca_lo xs = some r := by
  intro xs r h
  unfold qca_S at h
  split at h
  · obtain ⟨h1, rfl⟩ := sp h
    exact fun_told (qca_e ..) (qca_l _ _) h1
  · cases h
def D83 : Dt := also D82 39 qca_S
theorem d83 : DOk Go.Proofs.Try.prog tab D83 := d82.also mixed_ok tab_ok names_ok (fnLoops_one (by kernel_rfl) qca_is4) qca_s
section
class qcd_O where n : Nat
variable [i_laws_eqType : qcd_O]
def qcd_rc (x0 x1 : Int) (x2 x3 : Bool) (x4 x5 x6 x7 : LL) (x8 y0 y1 : Int) (y2 y3 : Bool) (y4 y5 y6 y7 : LL) (y8 : Int) : Bool := is (max (rowsDep x6) (rowsDep x7) < qcd_O.n ∧ x0 = y0 ∧ x1 = y1 ∧ x2 = y2 ∧ x3 = y3 ∧ x4 = y4 ∧ x5 = y5 ∧ x6 = y6 ∧ x7 = y7 ∧ x8 = y8 ∧ Typed tab (.slice 9) (.l x4) ∧ Typed tab (.slice 2) (.l x5) ∧ Typed tab (.slice 71) (.l x6) ∧ Typed tab (.slice 32) (.l x7))
def qcd_rv (x0 x1 : Int) (x2 x3 : Bool) (x4 x5 x6 x7 : LL) (x8 y0 y1 : Int) (y2 y3 : Bool) (y4 y5 y6 y7 : LL) (y8 : Int) : Bool := true
def qcd_rmk (p : Bool) : Res := [(false, [⟨.bool, .sh, TC.b p⟩])]
def qcd_rS : List Arg → Option (Bool × Res) := fun xs => match xs with
  | [(true, [(.int .i64, TC.i x0), (.int .i64, TC.i x1), (.bool, TC.b x2), (.bool, TC.b x3), (.slice 9, TC.l x4), (.slice 2, TC.l x5), (.slice 71, TC.l x6), (.slice 32, TC.l x7), (.int .i64, TC.i x8)]), (true, [(.int .i64, TC.i y0), (.int .i64, TC.i y1), (.bool, TC.b y2), (.bool, TC.b y3), (.slice 9, TC.l y4), (.slice 2, TC.l y5), (.slice 71, TC.l y6), (.slice 32, TC.l y7), (.int .i64, TC.i y8)])] => some ((qcd_rc x0 x1 x2 x3 x4 x5 x6 x7 x8 y0 y1 y2 y3 y4 y5 y6 y7 y8), qcd_rmk (qcd_rv x0 x1 x2 x3 x4 x5 x6 x7 x8 y0 y1 y2 y3 y4 y5 y6 y7 y8))
  | _ => .none
def D84 : Dt := also D83 13 qcd_rS
class qcd_G : Prop where ok : DOk Go.Proofs.Try.prog tab D84
variable [g_laws_eqType : qcd_G]
theorem d84 : DOk Go.Proofs.Try.prog tab D84 := qcd_G.ok
def qde_t (x0 : BS) (x1 x2 x3 : Int) (x4 x5 : Bool) (x6 x7 x8 x9 : LL) (x10 : Int) (y0 : BS) (y1 y2 y3 : Int) (y4 y5 : Bool) (y6 y7 y8 y9 : LL) (y10 : Int) : Tr (Bool) := (.ite ((!(x0 == y0)) = true) (.ok false)
  (.ite ((!(x1 == y1)) = true) (.ok false)
   (.ite ((qcd_rc x2 x3 x4 x5 x6 x7 x8 x9 x10 y2 y3 y4 y5 y6 y7 y8 y9 y10) = true) (.ite ((!(qcd_rv x2 x3 x4 x5 x6 x7 x8 x9 x10 y2 y3 y4 y5 y6 y7 y8 y9 y10)) = true) (.ok false)
     (.ok true))
    .no)))
def qde_mk (p : Bool) : Res := [(false, [⟨.bool, .sh, TC.b p⟩])]
def qde_c (x0 : BS) (x1 x2 x3 : Int) (x4 x5 : Bool) (x6 x7 x8 x9 : LL) (x10 : Int) (y0 : BS) (y1 y2 y3 : Int) (y4 y5 : Bool) (y6 y7 y8 y9 : LL) (y10 : Int) : Bool := (bif (!(x0 == y0)) then true else (bif (!(x1 == y1)) then true else ((qcd_rc x2 x3 x4 x5 x6 x7 x8 x9 x10 y2 y3 y4 y5 y6 y7 y8 y9 y10) && (bif (!(qcd_rv x2 x3 x4 x5 x6 x7 x8 x9 x10 y2 y3 y4 y5 y6 y7 y8 y9 y10)) then true else true))))
def qde_v (x0 : BS) (x1 x2 x3 : Int) (x4 x5 : Bool) (x6 x7 x8 x9 : LL) (x10 : Int) (y0 : BS) (y1 y2 y3 : Int) (y4 y5 : Bool) (y6 y7 y8 y9 : LL) (y10 : Int) : Bool := (bif (!(x0 == y0)) then false else (bif (!(x1 == y1)) then false else (bif (!(qcd_rv x2 x3 x4 x5 x6 x7 x8 x9 x10 y2 y3 y4 y5 y6 y7 y8 y9 y10)) then false else true)))
theorem qde_l (x0 : BS) (x1 x2 x3 : Int) (x4 x5 : Bool) (x6 x7 x8 x9 : LL) (x10 : Int) (y0 : BS) (y1 y2 y3 : Int) (y4 y5 : Bool) (y6 y7 y8 y9 : LL) (y10 : Int) : (qde_c x0 x1 x2 x3 x4 x5 x6 x7 x8 x9 x10 y0 y1 y2 y3 y4 y5 y6 y7 y8 y9 y10) = true → (qde_t x0 x1 x2 x3 x4 x5 x6 x7 x8 x9 x10 y0 y1 y2 y3 y4 y5 y6 y7 y8 y9 y10).val = some (qde_v x0 x1 x2 x3 x4 x5 x6 x7 x8 x9 x10 y0 y1 y2 y3 y4 y5 y6 y7 y8 y9 y10) := by
  unfold qde_t qde_v qde_c
  exact fun h => (Tr.ss h (fun h => rfl) (fun h => (Tr.ss h (fun h => rfl) (fun h => (Tr.gb h fun h => (Tr.ss h (fun h => rfl) (fun h => rfl)))))))
def qde_S : List Arg → Option (Bool × Res) := fun xs => match xs with
  | [(true, [(.str, TC.s x0), (.int .i64, TC.i x1), (.int .i64, TC.i x2), (.int .i64, TC.i x3), (.bool, TC.b x4), (.bool, TC.b x5), (.slice 9, TC.l x6), (.slice 2, TC.l x7), (.slice 71, TC.l x8), (.slice 32, TC.l x9), (.int .i64, TC.i x10)]), (true, [(.str, TC.s y0), (.int .i64, TC.i y1), (.int .i64, TC.i y2), (.int .i64, TC.i y3), (.bool, TC.b y4), (.bool, TC.b y5), (.slice 9, TC.l y6), (.slice 2, TC.l y7), (.slice 71, TC.l y8), (.slice 32, TC.l y9), (.int .i64, TC.i y10)])] => some ((qde_c x0 x1 x2 x3 x4 x5 x6 x7 x8 x9 x10 y0 y1 y2 y3 y4 y5 y6 y7 y8 y9 y10), qde_mk (qde_v x0 x1 x2 x3 x4 x5 x6 x7 x8 x9 x10 y0 y1 y2 y3 y4 y5 y6 y7 y8 y9 y10))
  | _ => .none
theorem qde_e (x0 : BS) (x1 x2 x3 : Int) (x4 x5 : Bool) (x6 x7 x8 x9 : LL) (x10 : Int) (y0 : BS) (y1 y2 y3 : Int) (y4 y5 : Bool) (y6 y7 y8 y9 : LL) (y10 : Int) : runF tab FT D84 live 76 noLoops [(true, [(.str, TC.s x0), (.int .i64, TC.i x1), (.int .i64, TC.i x2), (.int .i64, TC.i x3), (.bool, TC.b x4), (.bool, TC.b x5), (.slice 9, TC.l x6), (.slice 2, TC.l x7), (.slice 71, TC.l x8), (.slice 32, TC.l x9), (.int .i64, TC.i x10)]), (true, [(.str, TC.s y0), (.int .i64, TC.i y1), (.int .i64, TC.i y2), (.int .i64, TC.i y3), (.bool, TC.b y4), (.bool, TC.b y5), (.slice 9, TC.l y6), (.slice 2, TC.l y7), (.slice 71, TC.l y8), (.slice 32, TC.l y9), (.int .i64, TC.i y10)])] = (qde_t x0 x1 x2 x3 x4 x5 x6 x7 x8 x9 x10 y0 y1 y2 y3 y4 y5 y6 y7 y8 y9 y10).run fun p => some (qde_mk p) := by kernel_rfl
theorem qde_s : ∀ xs r, qde_S xs = some (true, r) → runF tab FT D84 live 76 noLoops xs = some r := by
  intro xs r h
  unfold qde_S at h
  split at h
  · obtain ⟨h1, rfl⟩ := sp h
    exact fun_told (qde_e ..) (qde_l _ _ _ _ _ _ _ _ _ _ _ _ _ _ _ _ _ _ _ _ _ _) h1
  · cases h
def D85 : Dt := also D84 76 qde_S
theorem d85 : DOk Go.Proofs.Try.prog tab D85 := d84.also mixed_ok tab_ok names_ok noLoops_ok qde_s
theorem qde_cc {x0 : BS} {x1 : Int} {x2 : Int} {x3 : Int} {x4 : Bool} {x5 : Bool} {x6 : LL} {x7 : LL} {x8 : LL} {x9 : LL} {x10 : Int} (h0 : (qcd_rc x2 x3 x4 x5 x6 x7 x8 x9 x10 x2 x3 x4 x5 x6 x7 x8 x9 x10) = true) : (qde_c x0 x1 x2 x3 x4 x5 x6 x7 x8 x9 x10 x0 x1 x2 x3 x4 x5 x6 x7 x8 x9 x10) = true := by
  unfold qde_c
  simp [h0, qbp_rv, qj_rv, qu_rv, qh_rv, qbs_rv, qbc_rv, qi_rv, qbh_rv, qbm_rv, qbd_rv, qbg_rv, qby_rv, qcd_rv]
abbrev qbw_4_σ := LL × LL × Int
abbrev qbw_4_ω := (Unit) ⊕ (Unit)
def qbw_4_step (A C : LL) (i : Int) : Tr (qbw_4_σ ⊕ qbw_4_ω) := (.ite ((decide (i < (A.length : Int))) = true) (.ite ((0 : Int) ≤ i ∧ i < (A.length : Int)) (.ite ((0 : Int) ≤ i ∧ i < (C.length : Int)) (.ite ((qde_c ((nth (row A i) 0).str) ((nth (row A i) 1).int) ((nth (row A i) 2).int) ((nth (row A i) 3).int) ((nth (row A i) 4).bool) ((nth (row A i) 5).bool) ((nth (row A i) 6).list) ((nth (row A i) 7).list) ((nth (row A i) 8).list) ((nth (row A i) 9).list) ((nth (row A i) 10).int) ((nth (row C i) 0).str) ((nth (row C i) 1).int) ((nth (row C i) 2).int) ((nth (row C i) 3).int) ((nth (row C i) 4).bool) ((nth (row C i) 5).bool) ((nth (row C i) 6).list) ((nth (row C i) 7).list) ((nth (row C i) 8).list) ((nth (row C i) 9).list) ((nth (row C i) 10).int)) = true) (.ite ((!(qde_v ((nth (row A i) 0).str) ((nth (row A i) 1).int) ((nth (row A i) 2).int) ((nth (row A i) 3).int) ((nth (row A i) 4).bool) ((nth (row A i) 5).bool) ((nth (row A i) 6).list) ((nth (row A i) 7).list) ((nth (row A i) 8).list) ((nth (row A i) 9).list) ((nth (row A i) 10).int) ((nth (row C i) 0).str) ((nth (row C i) 1).int) ((nth (row C i) 2).int) ((nth (row C i) 3).int) ((nth (row C i) 4).bool) ((nth (row C i) 5).bool) ((nth (row C i) 6).list) ((nth (row C i) 7).list) ((nth (row C i) 8).list) ((nth (row C i) 9).list) ((nth (row C i) 10).int))) = true) (.ok (.inr (.inl ())))
      (.ok (.inl (A, C, (IntKind.wrap .i64 (i + (1 : Int)))))))
     .no)
    .no)
   .no)
  (.ok (.inr (.inr ()))))
def qbw_4_st : qbw_4_σ → Tr (qbw_4_σ ⊕ qbw_4_ω) := fun x => (qbw_4_step (x.1) (x.2.1) (x.2.2))
def qbw_o4_1 (A C : LL) (i : Int) : Bool := is (A = C ∧ Typed tab (.slice 71) (.l A) ∧ (∀ x : List TC, x ∈ A → (qde_c ((nth x 0).str) ((nth x 1).int) ((nth x 2).int) ((nth x 3).int) ((nth x 4).bool) ((nth x 5).bool) ((nth x 6).list) ((nth x 7).list) ((nth x 8).list) ((nth x 9).list) ((nth x 10).int) ((nth x 0).str) ((nth x 1).int) ((nth x 2).int) ((nth x 3).int) ((nth x 4).bool) ((nth x 5).bool) ((nth x 6).list) ((nth x 7).list) ((nth x 8).list) ((nth x 9).list) ((nth x 10).int)) = true) ∧ i = 0)
def qbw_4_fin (A C : LL) (i : Int) : Told qbw_4_ω := (.leaf (qbw_o4_1 A C i) (.inr ()))
def qbw_4_sl (x : qbw_4_σ) : List Slot := [⟨.val false [⟨.slice 71, .sh, TC.l (x.1)⟩], ⟨0, 0⟩⟩, ⟨.val false [⟨.slice 71, .sh, TC.l (x.2.1)⟩], ⟨0, 0⟩⟩, ⟨.val false [⟨.int .i64, .sh, TC.i (x.2.2)⟩], ⟨0, 0⟩⟩]
def qbw_4_out : qbw_4_ω → Ex × List Slot := (Sum.elim (fun x => (.ret, [⟨.val false [⟨.bool, .sh, TC.b false⟩], ⟨0, 0⟩⟩])) (fun x => (.exit 0, [Slot.none])))
def qbw_lo4 : List Slot → Option (Told (Ex × List Slot)) := fun s => match s with
  | [⟨.val false [⟨.slice 71, .sh, TC.l A⟩], ⟨0, 0⟩⟩, ⟨.val false [⟨.slice 71, .sh, TC.l C⟩], ⟨0, 0⟩⟩, ⟨.val false [⟨.int .i64, .sh, TC.i i⟩], ⟨0, 0⟩⟩] => some (((qbw_4_fin A C i)).map qbw_4_out)
  | _ => .none
def qbw_lo : LoopTeller := fun r s => bif Nat.beq r 4 then qbw_lo4 s else .none
theorem qbw_4_r (A C : LL) (i : Int) (fuel : Nat) : rounds (rnd tab FT D85 live 40 qbw_lo 0 4) leave (fuel + 1) (qbw_4_sl (A, C, i)) = ((qbw_4_step A C i)).run (goOn (fun s => rounds (rnd tab FT D85 live 40 qbw_lo 0 4) leave fuel (qbw_4_sl s)) fun w => some (qbw_4_out w)) := by kernel_rfl
theorem qbw_4_h (A C : LL) (i : Int) (ow : qbw_4_ω) : ((qbw_4_fin A C i)).val = some ow → ∃ fuel, loopN qbw_4_st fuel (A, C, i) = some ow := by
  intro h
  refine auto_leaf (R := Sum.inr ()) (fun ho => ?_) h
  obtain ⟨rfl, ht, hr0, rfl⟩ := is_iff.1 ho
  have hlen : A.length ≤ 140737488351232 := by have := typed_room ht; simp only [show (tab 71).bytes = 152 from rfl] at this; omega
  refine ⟨_, loopN_run (N := A.length) (fun i => (A, A, (i : Int))) (fun i hi => ?_) ?_ A.length 0 (by omega)⟩
  · have c0 : Typed tab (.str) (.s (nth (A.getD i []) 0).str) := typed_s (typed_cell ht (A.getD i []) (mem_getD hi) 0 (by decide))
    have c6 : Typed tab (.slice 9) (.l (nth (A.getD i []) 6).list) := typed_list (typed_cell ht (A.getD i []) (mem_getD hi) 6 (by decide))
    have c7 : Typed tab (.slice 2) (.l (nth (A.getD i []) 7).list) := typed_list (typed_cell ht (A.getD i []) (mem_getD hi) 7 (by decide))
    have c8 : Typed tab (.slice 71) (.l (nth (A.getD i []) 8).list) := typed_list (typed_cell ht (A.getD i []) (mem_getD hi) 8 (by decide))
    have c9 : Typed tab (.slice 32) (.l (nth (A.getD i []) 9).list) := typed_list (typed_cell ht (A.getD i []) (mem_getD hi) 9 (by decide))
    show (qbw_4_step A A (i : Int)).val = _
    unfold qbw_4_step
    refine Tr.t (by simp; omega) ?_
    refine Tr.t (by first | omega | (constructor <;> omega)) ?_
    refine Tr.t (by first | omega | (constructor <;> omega)) ?_
    refine Tr.t (hr0 (A.getD i []) (mem_getD hi)) ?_
    refine Tr.n (by simp [qbm_rv, qbh_rv, qbd_rv, qby_rv, qbg_rv, qde_v, qcd_rv, qbp_rv, qj_rv, qh_rv, qbs_rv, qu_rv, qi_rv, qbc_rv]) ?_
    rw [Tr.val_ok, wrap64 (i := (i : Int) + 1) (by omega) (by omega)]; rfl
  · show (qbw_4_step A A (A.length : Int)).val = _
    refine Tr.n (by simp) ?_
    rfl
theorem qbw_is4 : LoopIs tab FT D85 live 40 qbw_lo 0 4 := by
  refine loop_told (sl := qbw_4_sl) (step := qbw_4_st) (out := qbw_4_out) (lor := qbw_lo4) (fin := fun x => (qbw_4_fin (x.1) (x.2.1) (x.2.2))) (fun _ => rfl) ?_ (fun x n => qbw_4_r x.1 x.2.1 x.2.2 n) (fun x ow => qbw_4_h x.1 x.2.1 x.2.2 ow)
  intro s t h
  unfold qbw_lo4 at h
  split at h
  · cases h; exact ⟨(_, _, _), rfl, rfl⟩
  · cases h
def qbw_t (A C : LL) : Tr (Bool) := (.ite ((!((A.length : Int) == (C.length : Int))) = true) (.ok false)
  (.ite ((qbw_o4_1 A C (0 : Int)) = true) (.ok true)
   .no))
def qbw_mk (p : Bool) : Res := [(false, [⟨.bool, .sh, TC.b p⟩])]
def qbw_c (A C : LL) : Bool := is (A = C ∧ Typed tab (.slice 71) (.l A) ∧ (∀ x : List TC, x ∈ A → (qde_c ((nth x 0).str) ((nth x 1).int) ((nth x 2).int) ((nth x 3).int) ((nth x 4).bool) ((nth x 5).bool) ((nth x 6).list) ((nth x 7).list) ((nth x 8).list) ((nth x 9).list) ((nth x 10).int) ((nth x 0).str) ((nth x 1).int) ((nth x 2).int) ((nth x 3).int) ((nth x 4).bool) ((nth x 5).bool) ((nth x 6).list) ((nth x 7).list) ((nth x 8).list) ((nth x 9).list) ((nth x 10).int)) = true))
def qbw_v (A C : LL) : Bool := true
theorem qbw_l (A C : LL) : (qbw_c A C) = true → (qbw_t A C).val = some (qbw_v A C) := by
  intro h
  obtain ⟨rfl, ht, hr0⟩ := is_iff.1 h
  unfold qbw_t
  refine Tr.n (by simp) ?_
  refine Tr.t (is_true ⟨rfl, ht, hr0, rfl⟩) ?_
  rfl
def qbw_S : List Arg → Option (Bool × Res) := fun xs => match xs with
  | [(false, [(.slice 71, TC.l A)]), (false, [(.slice 71, TC.l C)])] => some ((qbw_c A C), qbw_mk (qbw_v A C))
  | _ => .none
theorem qbw_e (A C : LL) : runF tab FT D85 live 40 qbw_lo [(false, [(.slice 71, TC.l A)]), (false, [(.slice 71, TC.l C)])] = (qbw_t A C).run fun p => some (qbw_mk p) := by kernel_rfl
theorem qbw_s : ∀ xs r, qbw_S xs = some (true, r) → runF tab FT D85 live 40 qbw_lo xs = some r := by
  intro xs r h
  unfold qbw_S at h
  split at h
  · obtain ⟨h1, rfl⟩ := sp h
    exact fun_told (qbw_e ..) (qbw_l _ _) h1
  · cases h
def D86 : Dt := also D85 40 qbw_S
theorem d86 : DOk Go.Proofs.Try.prog tab D86 := d85.also mixed_ok tab_ok names_ok (fnLoops_one (by kernel_rfl) qbw_is4) qbw_s
abbrev qci_4_σ := LL × LL × Int
abbrev qci_4_ω := (Unit) ⊕ (Unit)
def qci_4_step (A C : LL) (i : Int) : Tr (qci_4_σ ⊕ qci_4_ω) := (.ite ((decide (i < (A.length : Int))) = true) (.ite ((0 : Int) ≤ i ∧ i < (A.length : Int)) (.ite ((0 : Int) ≤ i ∧ i < (C.length : Int)) (.ite ((qcd_rc ((nth (row A i) 0).int) ((nth (row A i) 1).int) ((nth (row A i) 2).bool) ((nth (row A i) 3).bool) ((nth (row A i) 4).list) ((nth (row A i) 5).list) ((nth (row A i) 6).list) ((nth (row A i) 7).list) ((nth (row A i) 8).int) ((nth (row C i) 0).int) ((nth (row C i) 1).int) ((nth (row C i) 2).bool) ((nth (row C i) 3).bool) ((nth (row C i) 4).list) ((nth (row C i) 5).list) ((nth (row C i) 6).list) ((nth (row C i) 7).list) ((nth (row C i) 8).int)) = true) (.ite ((!(qcd_rv ((nth (row A i) 0).int) ((nth (row A i) 1).int) ((nth (row A i) 2).bool) ((nth (row A i) 3).bool) ((nth (row A i) 4).list) ((nth (row A i) 5).list) ((nth (row A i) 6).list) ((nth (row A i) 7).list) ((nth (row A i) 8).int) ((nth (row C i) 0).int) ((nth (row C i) 1).int) ((nth (row C i) 2).bool) ((nth (row C i) 3).bool) ((nth (row C i) 4).list) ((nth (row C i) 5).list) ((nth (row C i) 6).list) ((nth (row C i) 7).list) ((nth (row C i) 8).int))) = true) (.ok (.inr (.inl ())))
      (.ok (.inl (A, C, (IntKind.wrap .i64 (i + (1 : Int)))))))
     .no)
    .no)
   .no)
  (.ok (.inr (.inr ()))))
def qci_4_st : qci_4_σ → Tr (qci_4_σ ⊕ qci_4_ω) := fun x => (qci_4_step (x.1) (x.2.1) (x.2.2))
def qci_o4_1 (A C : LL) (i : Int) : Bool := is (A = C ∧ Typed tab (.slice 32) (.l A) ∧ (∀ x : List TC, x ∈ A → (qcd_rc ((nth x 0).int) ((nth x 1).int) ((nth x 2).bool) ((nth x 3).bool) ((nth x 4).list) ((nth x 5).list) ((nth x 6).list) ((nth x 7).list) ((nth x 8).int) ((nth x 0).int) ((nth x 1).int) ((nth x 2).bool) ((nth x 3).bool) ((nth x 4).list) ((nth x 5).list) ((nth x 6).list) ((nth x 7).list) ((nth x 8).int)) = true) ∧ i = 0)
def qci_4_fin (A C : LL) (i : Int) : Told qci_4_ω := (.leaf (qci_o4_1 A C i) (.inr ()))
def qci_4_sl (x : qci_4_σ) : List Slot := [⟨.val false [⟨.slice 32, .sh, TC.l (x.1)⟩], ⟨0, 0⟩⟩, ⟨.val false [⟨.slice 32, .sh, TC.l (x.2.1)⟩], ⟨0, 0⟩⟩, ⟨.val false [⟨.int .i64, .sh, TC.i (x.2.2)⟩], ⟨0, 0⟩⟩]
def qci_4_out : qci_4_ω → Ex × List Slot := (Sum.elim (fun x => (.ret, [⟨.val false [⟨.bool, .sh, TC.b false⟩], ⟨0, 0⟩⟩])) (fun x => (.exit 0, [Slot.none])))
def qci_lo4 : List Slot → Option (Told (Ex × List Slot)) := fun s => match s with
  | [⟨.val false [⟨.slice 32, .sh, TC.l A⟩], ⟨0, 0⟩⟩, ⟨.val false [⟨.slice 32, .sh, TC.l C⟩], ⟨0, 0⟩⟩, ⟨.val false [⟨.int .i64, .sh, TC.i i⟩], ⟨0, 0⟩⟩] => some (((qci_4_fin A C i)).map qci_4_out)
  | _ => .none
def qci_lo : LoopTeller := fun r s => bif Nat.beq r 4 then qci_lo4 s else .none
theorem qci_4_r (A C : LL) (i : Int) (fuel : Nat) : rounds (rnd tab FT D86 live 41 qci_lo 0 4) leave (fuel + 1) (qci_4_sl (A, C, i)) = ((qci_4_step A C i)).run (goOn (fun s => rounds (rnd tab FT D86 live 41 qci_lo 0 4) leave fuel (qci_4_sl s)) fun w => some (qci_4_out w)) := by kernel_rfl
theorem qci_4_h (A C : LL) (i : Int) (ow : qci_4_ω) : ((qci_4_fin A C i)).val = some ow → ∃ fuel, loopN qci_4_st fuel (A, C, i) = some ow := by
  intro h
  refine auto_leaf (R := Sum.inr ()) (fun ho => ?_) h
  obtain ⟨rfl, ht, hr0, rfl⟩ := is_iff.1 ho
  have hlen : A.length ≤ 140737488351232 := by have := typed_room ht; simp only [show (tab 32).bytes = 128 from rfl] at this; omega
  refine ⟨_, loopN_run (N := A.length) (fun i => (A, A, (i : Int))) (fun i hi => ?_) ?_ A.length 0 (by omega)⟩
  · have c4 : Typed tab (.slice 9) (.l (nth (A.getD i []) 4).list) := typed_list (typed_cell ht (A.getD i []) (mem_getD hi) 4 (by decide))
    have c5 : Typed tab (.slice 2) (.l (nth (A.getD i []) 5).list) := typed_list (typed_cell ht (A.getD i []) (mem_getD hi) 5 (by decide))
    have c6 : Typed tab (.slice 71) (.l (nth (A.getD i []) 6).list) := typed_list (typed_cell ht (A.getD i []) (mem_getD hi) 6 (by decide))
    have c7 : Typed tab (.slice 32) (.l (nth (A.getD i []) 7).list) := typed_list (typed_cell ht (A.getD i []) (mem_getD hi) 7 (by decide))
    show (qci_4_step A A (i : Int)).val = _
    unfold qci_4_step
    refine Tr.t (by simp; omega) ?_
    refine Tr.t (by first | omega | (constructor <;> omega)) ?_
    refine Tr.t (by first | omega | (constructor <;> omega)) ?_
    refine Tr.t (hr0 (A.getD i []) (mem_getD hi)) ?_
    refine Tr.n (by simp [qbm_rv, qbh_rv, qbd_rv, qby_rv, qbg_rv, qcd_rv, qbp_rv, qj_rv, qh_rv, qbs_rv, qu_rv, qi_rv, qbc_rv]) ?_
    rw [Tr.val_ok, wrap64 (i := (i : Int) + 1) (by omega) (by omega)]; rfl
  · show (qci_4_step A A (A.length : Int)).val = _
    refine Tr.n (by simp) ?_
    rfl
theorem qci_is4 : LoopIs tab FT D86 live 41 qci_lo 0 4 := by
  refine loop_told (sl := qci_4_sl) (step := qci_4_st) (out := qci_4_out) (lor := qci_lo4) (fin := fun x => (qci_4_fin (x.1) (x.2.1) (x.2.2))) (fun _ => rfl) ?_ (fun x n => qci_4_r x.1 x.2.1 x.2.2 n) (fun x ow => qci_4_h x.1 x.2.1 x.2.2 ow)
  intro s t h
  unfold qci_lo4 at h
  split at h
  · cases h; exact ⟨(_, _, _), rfl, rfl⟩
  · cases h
def qci_t (A C : LL) : Tr (Bool) := (.ite ((!((A.length : Int) == (C.length : Int))) = true) (.ok false)
  (.ite ((qci_o4_1 A C (0 : Int)) = true) (.ok true)
   .no))
def qci_mk (p : Bool) : Res := [(false, [⟨.bool, .sh, TC.b p⟩])]
def qci_c (A C : LL) : Bool := is (A = C ∧ Typed tab (.slice 32) (.l A) ∧ (∀ x : List TC, x ∈ A → (qcd_rc ((nth x 0).int) ((nth x 1).int) ((nth x 2).bool) ((nth x 3).bool) ((nth x 4).list) ((nth x 5).list) ((nth x 6).list) ((nth x 7).list) ((nth x 8).int) ((nth x 0).int) ((nth x 1).int) ((nth x 2).bool) ((nth x 3).bool) ((nth x 4).list) ((nth x 5).list) ((nth x 6).list) ((nth x 7).list) ((nth x 8).int)) = true))
def qci_v (A C : LL) : Bool := true
theorem qci_l (A C : LL) : (qci_c A C) = true → (qci_t A C).val = some (qci_v A C) := by
  intro h
  obtain ⟨rfl, ht, hr0⟩ := is_iff.1 h
  unfold qci_t
  refine Tr.n (by simp) ?_
  refine Tr.t (is_true ⟨rfl, ht, hr0, rfl⟩) ?_
  rfl
def qci_S : List Arg → Option (Bool × Res) := fun xs => match xs with
  | [(false, [(.slice 32, TC.l A)]), (false, [(.slice 32, TC.l C)])] => some ((qci_c A C), qci_mk (qci_v A C))
  | _ => .none
theorem qci_e (A C : LL) : runF tab FT D86 live 41 qci_lo [(false, [(.slice 32, TC.l A)]), (false, [(.slice 32, TC.l C)])] = (qci_t A C).run fun p => some (qci_mk p) := by kernel_rfl
theorem qci_s : ∀ xs r, qci_S xs = some (true, r) → runF tab FT D86 live 41 qci_lo xs = some r := by
  intro xs r h
  unfold qci_S at h
  split at h
  · obtain ⟨h1, rfl⟩ := sp h
    exact fun_told (qci_e ..) (qci_l _ _) h1
  · cases h
def D87 : Dt := also D86 41 qci_S
theorem d87 : DOk Go.Proofs.Try.prog tab D87 := d86.also mixed_ok tab_ok names_ok (fnLoops_one (by kernel_rfl) qci_is4) qci_s
def qcd_t (x0 x1 : Int) (x2 x3 : Bool) (x4 x5 x6 x7 : LL) (x8 y0 y1 : Int) (y2 y3 : Bool) (y4 y5 y6 y7 : LL) (y8 : Int) : Tr (Bool) := (.ite ((!(x0 == y0)) = true) (.ok false)
  (.ite ((!(x1 == y1)) = true) (.ok false)
   (.ite ((!(x2 == y2)) = true) (.ok false)
    (.ite ((!(x3 == y3)) = true) (.ok false)
     (.ite ((qbx_c x4 y4) = true) (.ite ((!(qbx_v x4 y4)) = true) (.ok false)
       (.ite ((qca_c x5 y5) = true) (.ite ((!(qca_v x5 y5)) = true) (.ok false)
         (.ite ((qbw_c x6 y6) = true) (.ite ((!(qbw_v x6 y6)) = true) (.ok false)
           (.ite ((qci_c x7 y7) = true) (.ite ((!(qci_v x7 y7)) = true) (.ok false)
             (.ite ((!(x8 == y8)) = true) (.ok false)
              (.ok true)))
            .no))
          .no))
        .no))
      .no)))))
def qcd_mk (p : Bool) : Res := [(false, [⟨.bool, .sh, TC.b p⟩])]
def qcd_c (x0 x1 : Int) (x2 x3 : Bool) (x4 x5 x6 x7 : LL) (x8 y0 y1 : Int) (y2 y3 : Bool) (y4 y5 y6 y7 : LL) (y8 : Int) : Bool := (bif (!(x0 == y0)) then true else (bif (!(x1 == y1)) then true else (bif (!(x2 == y2)) then true else (bif (!(x3 == y3)) then true else ((qbx_c x4 y4) && (bif (!(qbx_v x4 y4)) then true else ((qca_c x5 y5) && (bif (!(qca_v x5 y5)) then true else ((qbw_c x6 y6) && (bif (!(qbw_v x6 y6)) then true else ((qci_c x7 y7) && (bif (!(qci_v x7 y7)) then true else (bif (!(x8 == y8)) then true else true)))))))))))))
def qcd_v (x0 x1 : Int) (x2 x3 : Bool) (x4 x5 x6 x7 : LL) (x8 y0 y1 : Int) (y2 y3 : Bool) (y4 y5 y6 y7 : LL) (y8 : Int) : Bool := (bif (!(x0 == y0)) then false else (bif (!(x1 == y1)) then false else (bif (!(x2 == y2)) then false else (bif (!(x3 == y3)) then false else (bif (!(qbx_v x4 y4)) then false else (bif (!(qca_v x5 y5)) then false else (bif (!(qbw_v x6 y6)) then false else (bif (!(qci_v x7 y7)) then false else (bif (!(x8 == y8)) then false else true)))))))))
theorem qcd_l (x0 x1 : Int) (x2 x3 : Bool) (x4 x5 x6 x7 : LL) (x8 y0 y1 : Int) (y2 y3 : Bool) (y4 y5 y6 y7 : LL) (y8 : Int) : (qcd_c x0 x1 x2 x3 x4 x5 x6 x7 x8 y0 y1 y2 y3 y4 y5 y6 y7 y8) = true → (qcd_t x0 x1 x2 x3 x4 x5 x6 x7 x8 y0 y1 y2 y3 y4 y5 y6 y7 y8).val = some (qcd_v x0 x1 x2 x3 x4 x5 x6 x7 x8 y0 y1 y2 y3 y4 y5 y6 y7 y8) := by
  unfold qcd_t qcd_v qcd_c
  intro h
  repeat' first | refine Tr.gb h fun h => ?_ | refine Tr.gs h fun h => ?_ | refine Tr.ss h (fun h => ?_) fun h => ?_ | exact rfl
theorem qcd_e (x0 x1 : Int) (x2 x3 : Bool) (x4 x5 x6 x7 : LL) (x8 y0 y1 : Int) (y2 y3 : Bool) (y4 y5 y6 y7 : LL) (y8 : Int) : runF tab FT D87 live 13 noLoops [(true, [(.int .i64, TC.i x0), (.int .i64, TC.i x1), (.bool, TC.b x2), (.bool, TC.b x3), (.slice 9, TC.l x4), (.slice 2, TC.l x5), (.slice 71, TC.l x6), (.slice 32, TC.l x7), (.int .i64, TC.i x8)]), (true, [(.int .i64, TC.i y0), (.int .i64, TC.i y1), (.bool, TC.b y2), (.bool, TC.b y3), (.slice 9, TC.l y4), (.slice 2, TC.l y5), (.slice 71, TC.l y6), (.slice 32, TC.l y7), (.int .i64, TC.i y8)])] = (qcd_t x0 x1 x2 x3 x4 x5 x6 x7 x8 y0 y1 y2 y3 y4 y5 y6 y7 y8).run fun p => some (qcd_mk p) := by kernel_rfl
theorem qcd_nx (x0 x1 : Int) (x2 x3 : Bool) (x4 x5 x6 x7 : LL) (x8 y0 y1 : Int) (y2 y3 : Bool) (y4 y5 y6 y7 : LL) (y8 : Int) : is (max (rowsDep x6) (rowsDep x7) < qcd_O.n + 1 ∧ x0 = y0 ∧ x1 = y1 ∧ x2 = y2 ∧ x3 = y3 ∧ x4 = y4 ∧ x5 = y5 ∧ x6 = y6 ∧ x7 = y7 ∧ x8 = y8 ∧ Typed tab (.slice 9) (.l x4) ∧ Typed tab (.slice 2) (.l x5) ∧ Typed tab (.slice 71) (.l x6) ∧ Typed tab (.slice 32) (.l x7)) = true → (qcd_c x0 x1 x2 x3 x4 x5 x6 x7 x8 y0 y1 y2 y3 y4 y5 y6 y7 y8) = true ∧ (qcd_v x0 x1 x2 x3 x4 x5 x6 x7 x8 y0 y1 y2 y3 y4 y5 y6 y7 y8) = true := by
  intro h
  obtain ⟨hM, rfl, rfl, rfl, rfl, rfl, rfl, rfl, rfl, rfl, t4, t5, t6, t7⟩ := is_iff.1 h
  have c4 : qbx_c x4 x4 = true := is_true ⟨rfl, t4⟩
  have c5 : qca_c x5 x5 = true := is_true ⟨rfl, t5⟩
  have c6 : qbw_c x6 x6 = true := is_true ⟨rfl, t6, fun x hx => qde_cc (is_true ⟨by have a := dep_cell hx 8; have b := dep_cell hx 9; omega, rfl, rfl, rfl, rfl, rfl, rfl, rfl, rfl, rfl, typed_list ((typed_elem t6 hx).2 6 (by decide)), typed_list ((typed_elem t6 hx).2 7 (by decide)), typed_list ((typed_elem t6 hx).2 8 (by decide)), typed_list ((typed_elem t6 hx).2 9 (by decide))⟩)⟩
  have c7 : qci_c x7 x7 = true := is_true ⟨rfl, t7, fun x hx => is_true ⟨by have a := dep_cell hx 6; have b := dep_cell hx 7; omega, rfl, rfl, rfl, rfl, rfl, rfl, rfl, rfl, rfl, typed_list ((typed_elem t7 hx).2 4 (by decide)), typed_list ((typed_elem t7 hx).2 5 (by decide)), typed_list ((typed_elem t7 hx).2 6 (by decide)), typed_list ((typed_elem t7 hx).2 7 (by decide))⟩⟩
  constructor
  · unfold qcd_c
    simp only [c4, c5, c6, c7, qbx_v, qca_v, qbw_v, qci_v, beq_self_eq_true, Bool.not_true, cond_false, Bool.and_self]
  · unfold qcd_v
    simp only [qbx_v, qca_v, qbw_v, qci_v, beq_self_eq_true, Bool.not_true, cond_false]
theorem qcd_nxr (x0 x1 : Int) (x2 x3 : Bool) (x4 x5 x6 x7 : LL) (x8 y0 y1 : Int) (y2 y3 : Bool) (y4 y5 y6 y7 : LL) (y8 : Int) : qcd_rc (i_laws_eqType := ⟨qcd_O.n + 1⟩) x0 x1 x2 x3 x4 x5 x6 x7 x8 y0 y1 y2 y3 y4 y5 y6 y7 y8 = true → (qcd_c x0 x1 x2 x3 x4 x5 x6 x7 x8 y0 y1 y2 y3 y4 y5 y6 y7 y8) = true ∧ (qcd_v x0 x1 x2 x3 x4 x5 x6 x7 x8 y0 y1 y2 y3 y4 y5 y6 y7 y8) = (qcd_rv x0 x1 x2 x3 x4 x5 x6 x7 x8 y0 y1 y2 y3 y4 y5 y6 y7 y8) := fun h => qcd_nx x0 x1 x2 x3 x4 x5 x6 x7 x8 y0 y1 y2 y3 y4 y5 y6 y7 y8 h
theorem qcd_rs : ∀ xs r, qcd_rS (i_laws_eqType := ⟨qcd_O.n + 1⟩) xs = some (true, r) → runF tab FT D87 live 13 noLoops xs = some r := by
  intro xs r h
  unfold qcd_rS at h
  split at h
  · obtain ⟨h1, rfl⟩ := sp h
    have hx := qcd_nxr _ _ _ _ _ _ _ _ _ _ _ _ _ _ _ _ _ _ h1
    have ht := fun_told (qcd_e ..) (qcd_l _ _ _ _ _ _ _ _ _ _ _ _ _ _ _ _ _ _) hx.1
    rw [hx.2] at ht
    exact ht
  · cases h
theorem qcd_step : qcd_G (i_laws_eqType := ⟨qcd_O.n + 1⟩) := by
  have h := DOk.also2 (S := qcd_rS (i_laws_eqType := ⟨qcd_O.n + 1⟩)) mixed_ok tab_ok names_ok d83 d87 noLoops_ok qcd_rs
  refine qcd_G.mk (i_laws_eqType := ⟨qcd_O.n + 1⟩) ?_
  exact h
def laws_FnExactAlwaysConverts_t (x0 x1 : Int) (x2 x3 : Bool) (x4 x5 x6 x7 : LL) (x8 x9 x10 : Int) (x11 x12 : Bool) (x13 x14 x15 x16 : LL) (x17 : Int) : Tr Bool := (.ite ((qbp_rc x0 x1 x2 x3 x4 x5 x6 x7 x8 (1048576 : Int)) = true) (.ite ((decide ((qbp_rv x0 x1 x2 x3 x4 x5 x6 x7 x8 (1048576 : Int)) < (0 : Int))) = true) (.ok true)
   (.ite ((qbp_rc x9 x10 x11 x12 x13 x14 x15 x16 x17 (qbp_rv x0 x1 x2 x3 x4 x5 x6 x7 x8 (1048576 : Int))) = true) (.ite ((decide ((qbp_rv x9 x10 x11 x12 x13 x14 x15 x16 x17 (qbp_rv x0 x1 x2 x3 x4 x5 x6 x7 x8 (1048576 : Int))) < (0 : Int))) = true) (.ok true)
     (.ite ((qj_rc x0 x1 x2 x3 x4 x5 x6 x7 x8) = true) (.ite ((qj_rc x9 x10 x11 x12 x13 x14 x15 x16 x17) = true) (.ite ((qcn_c ((qj_rv x0 x1 x2 x3 x4 x5 x6 x7 x8).1) ((qj_rv x0 x1 x2 x3 x4 x5 x6 x7 x8).2.1) ((qj_rv x0 x1 x2 x3 x4 x5 x6 x7 x8).2.2.1) ((qj_rv x0 x1 x2 x3 x4 x5 x6 x7 x8).2.2.2.1) ((qj_rv x0 x1 x2 x3 x4 x5 x6 x7 x8).2.2.2.2.1) ((qj_rv x0 x1 x2 x3 x4 x5 x6 x7 x8).2.2.2.2.2.1) ((qj_rv x0 x1 x2 x3 x4 x5 x6 x7 x8).2.2.2.2.2.2.1) ((qj_rv x0 x1 x2 x3 x4 x5 x6 x7 x8).2.2.2.2.2.2.2.1) ((qj_rv x0 x1 x2 x3 x4 x5 x6 x7 x8).2.2.2.2.2.2.2.2) ((qj_rv x9 x10 x11 x12 x13 x14 x15 x16 x17).1) ((qj_rv x9 x10 x11 x12 x13 x14 x15 x16 x17).2.1) ((qj_rv x9 x10 x11 x12 x13 x14 x15 x16 x17).2.2.1) ((qj_rv x9 x10 x11 x12 x13 x14 x15 x16 x17).2.2.2.1) ((qj_rv x9 x10 x11 x12 x13 x14 x15 x16 x17).2.2.2.2.1) ((qj_rv x9 x10 x11 x12 x13 x14 x15 x16 x17).2.2.2.2.2.1) ((qj_rv x9 x10 x11 x12 x13 x14 x15 x16 x17).2.2.2.2.2.2.1) ((qj_rv x9 x10 x11 x12 x13 x14 x15 x16 x17).2.2.2.2.2.2.2.1) ((qj_rv x9 x10 x11 x12 x13 x14 x15 x16 x17).2.2.2.2.2.2.2.2)) = true) (.ite ((qj_rc x0 x1 x2 x3 x4 x5 x6 x7 x8) = true) (.ite ((qj_rc x9 x10 x11 x12 x13 x14 x15 x16 x17) = true) (.ite ((qcr_c ((qj_rv x0 x1 x2 x3 x4 x5 x6 x7 x8).1) ((qj_rv x0 x1 x2 x3 x4 x5 x6 x7 x8).2.1) ((qj_rv x0 x1 x2 x3 x4 x5 x6 x7 x8).2.2.1) ((qj_rv x0 x1 x2 x3 x4 x5 x6 x7 x8).2.2.2.1) ((qj_rv x0 x1 x2 x3 x4 x5 x6 x7 x8).2.2.2.2.1) ((qj_rv x0 x1 x2 x3 x4 x5 x6 x7 x8).2.2.2.2.2.1) ((qj_rv x0 x1 x2 x3 x4 x5 x6 x7 x8).2.2.2.2.2.2.1) ((qj_rv x0 x1 x2 x3 x4 x5 x6 x7 x8).2.2.2.2.2.2.2.1) ((qj_rv x0 x1 x2 x3 x4 x5 x6 x7 x8).2.2.2.2.2.2.2.2) ((qj_rv x9 x10 x11 x12 x13 x14 x15 x16 x17).1) ((qj_rv x9 x10 x11 x12 x13 x14 x15 x16 x17).2.1) ((qj_rv x9 x10 x11 x12 x13 x14 x15 x16 x17).2.2.1) ((qj_rv x9 x10 x11 x12 x13 x14 x15 x16 x17).2.2.2.1) ((qj_rv x9 x10 x11 x12 x13 x14 x15 x16 x17).2.2.2.2.1) ((qj_rv x9 x10 x11 x12 x13 x14 x15 x16 x17).2.2.2.2.2.1) ((qj_rv x9 x10 x11 x12 x13 x14 x15 x16 x17).2.2.2.2.2.2.1) ((qj_rv x9 x10 x11 x12 x13 x14 x15 x16 x17).2.2.2.2.2.2.2.1) ((qj_rv x9 x10 x11 x12 x13 x14 x15 x16 x17).2.2.2.2.2.2.2.2)) = true) (.ite ((!((qcr_v ((qj_rv x0 x1 x2 x3 x4 x5 x6 x7 x8).1) ((qj_rv x0 x1 x2 x3 x4 x5 x6 x7 x8).2.1) ((qj_rv x0 x1 x2 x3 x4 x5 x6 x7 x8).2.2.1) ((qj_rv x0 x1 x2 x3 x4 x5 x6 x7 x8).2.2.2.1) ((qj_rv x0 x1 x2 x3 x4 x5 x6 x7 x8).2.2.2.2.1) ((qj_rv x0 x1 x2 x3 x4 x5 x6 x7 x8).2.2.2.2.2.1) ((qj_rv x0 x1 x2 x3 x4 x5 x6 x7 x8).2.2.2.2.2.2.1) ((qj_rv x0 x1 x2 x3 x4 x5 x6 x7 x8).2.2.2.2.2.2.2.1) ((qj_rv x0 x1 x2 x3 x4 x5 x6 x7 x8).2.2.2.2.2.2.2.2) ((qj_rv x9 x10 x11 x12 x13 x14 x15 x16 x17).1) ((qj_rv x9 x10 x11 x12 x13 x14 x15 x16 x17).2.1) ((qj_rv x9 x10 x11 x12 x13 x14 x15 x16 x17).2.2.1) ((qj_rv x9 x10 x11 x12 x13 x14 x15 x16 x17).2.2.2.1) ((qj_rv x9 x10 x11 x12 x13 x14 x15 x16 x17).2.2.2.2.1) ((qj_rv x9 x10 x11 x12 x13 x14 x15 x16 x17).2.2.2.2.2.1) ((qj_rv x9 x10 x11 x12 x13 x14 x15 x16 x17).2.2.2.2.2.2.1) ((qj_rv x9 x10 x11 x12 x13 x14 x15 x16 x17).2.2.2.2.2.2.2.1) ((qj_rv x9 x10 x11 x12 x13 x14 x15 x16 x17).2.2.2.2.2.2.2.2)) == (qcn_v ((qj_rv x0 x1 x2 x3 x4 x5 x6 x7 x8).1) ((qj_rv x0 x1 x2 x3 x4 x5 x6 x7 x8).2.1) ((qj_rv x0 x1 x2 x3 x4 x5 x6 x7 x8).2.2.1) ((qj_rv x0 x1 x2 x3 x4 x5 x6 x7 x8).2.2.2.1) ((qj_rv x0 x1 x2 x3 x4 x5 x6 x7 x8).2.2.2.2.1) ((qj_rv x0 x1 x2 x3 x4 x5 x6 x7 x8).2.2.2.2.2.1) ((qj_rv x0 x1 x2 x3 x4 x5 x6 x7 x8).2.2.2.2.2.2.1) ((qj_rv x0 x1 x2 x3 x4 x5 x6 x7 x8).2.2.2.2.2.2.2.1) ((qj_rv x0 x1 x2 x3 x4 x5 x6 x7 x8).2.2.2.2.2.2.2.2) ((qj_rv x9 x10 x11 x12 x13 x14 x15 x16 x17).1) ((qj_rv x9 x10 x11 x12 x13 x14 x15 x16 x17).2.1) ((qj_rv x9 x10 x11 x12 x13 x14 x15 x16 x17).2.2.1) ((qj_rv x9 x10 x11 x12 x13 x14 x15 x16 x17).2.2.2.1) ((qj_rv x9 x10 x11 x12 x13 x14 x15 x16 x17).2.2.2.2.1) ((qj_rv x9 x10 x11 x12 x13 x14 x15 x16 x17).2.2.2.2.2.1) ((qj_rv x9 x10 x11 x12 x13 x14 x15 x16 x17).2.2.2.2.2.2.1) ((qj_rv x9 x10 x11 x12 x13 x14 x15 x16 x17).2.2.2.2.2.2.2.1) ((qj_rv x9 x10 x11 x12 x13 x14 x15 x16 x17).2.2.2.2.2.2.2.2)))) = true) (.ok false)
            (.ite ((qj_rc x0 x1 x2 x3 x4 x5 x6 x7 x8) = true) (.ite ((qcd_rc ((qj_rv x0 x1 x2 x3 x4 x5 x6 x7 x8).1) ((qj_rv x0 x1 x2 x3 x4 x5 x6 x7 x8).2.1) ((qj_rv x0 x1 x2 x3 x4 x5 x6 x7 x8).2.2.1) ((qj_rv x0 x1 x2 x3 x4 x5 x6 x7 x8).2.2.2.1) ((qj_rv x0 x1 x2 x3 x4 x5 x6 x7 x8).2.2.2.2.1) ((qj_rv x0 x1 x2 x3 x4 x5 x6 x7 x8).2.2.2.2.2.1) ((qj_rv x0 x1 x2 x3 x4 x5 x6 x7 x8).2.2.2.2.2.2.1) ((qj_rv x0 x1 x2 x3 x4 x5 x6 x7 x8).2.2.2.2.2.2.2.1) ((qj_rv x0 x1 x2 x3 x4 x5 x6 x7 x8).2.2.2.2.2.2.2.2) ((qj_rv x0 x1 x2 x3 x4 x5 x6 x7 x8).1) ((qj_rv x0 x1 x2 x3 x4 x5 x6 x7 x8).2.1) ((qj_rv x0 x1 x2 x3 x4 x5 x6 x7 x8).2.2.1) ((qj_rv x0 x1 x2 x3 x4 x5 x6 x7 x8).2.2.2.1) ((qj_rv x0 x1 x2 x3 x4 x5 x6 x7 x8).2.2.2.2.1) ((qj_rv x0 x1 x2 x3 x4 x5 x6 x7 x8).2.2.2.2.2.1) ((qj_rv x0 x1 x2 x3 x4 x5 x6 x7 x8).2.2.2.2.2.2.1) ((qj_rv x0 x1 x2 x3 x4 x5 x6 x7 x8).2.2.2.2.2.2.2.1) ((qj_rv x0 x1 x2 x3 x4 x5 x6 x7 x8).2.2.2.2.2.2.2.2)) = true) (.ite ((!(qcd_rv ((qj_rv x0 x1 x2 x3 x4 x5 x6 x7 x8).1) ((qj_rv x0 x1 x2 x3 x4 x5 x6 x7 x8).2.1) ((qj_rv x0 x1 x2 x3 x4 x5 x6 x7 x8).2.2.1) ((qj_rv x0 x1 x2 x3 x4 x5 x6 x7 x8).2.2.2.1) ((qj_rv x0 x1 x2 x3 x4 x5 x6 x7 x8).2.2.2.2.1) ((qj_rv x0 x1 x2 x3 x4 x5 x6 x7 x8).2.2.2.2.2.1) ((qj_rv x0 x1 x2 x3 x4 x5 x6 x7 x8).2.2.2.2.2.2.1) ((qj_rv x0 x1 x2 x3 x4 x5 x6 x7 x8).2.2.2.2.2.2.2.1) ((qj_rv x0 x1 x2 x3 x4 x5 x6 x7 x8).2.2.2.2.2.2.2.2) ((qj_rv x0 x1 x2 x3 x4 x5 x6 x7 x8).1) ((qj_rv x0 x1 x2 x3 x4 x5 x6 x7 x8).2.1) ((qj_rv x0 x1 x2 x3 x4 x5 x6 x7 x8).2.2.1) ((qj_rv x0 x1 x2 x3 x4 x5 x6 x7 x8).2.2.2.1) ((qj_rv x0 x1 x2 x3 x4 x5 x6 x7 x8).2.2.2.2.1) ((qj_rv x0 x1 x2 x3 x4 x5 x6 x7 x8).2.2.2.2.2.1) ((qj_rv x0 x1 x2 x3 x4 x5 x6 x7 x8).2.2.2.2.2.2.1) ((qj_rv x0 x1 x2 x3 x4 x5 x6 x7 x8).2.2.2.2.2.2.2.1) ((qj_rv x0 x1 x2 x3 x4 x5 x6 x7 x8).2.2.2.2.2.2.2.2))) = true) (.ok false)
               (.ite ((qj_rc x9 x10 x11 x12 x13 x14 x15 x16 x17) = true) (.ite ((qcd_rc ((qj_rv x9 x10 x11 x12 x13 x14 x15 x16 x17).1) ((qj_rv x9 x10 x11 x12 x13 x14 x15 x16 x17).2.1) ((qj_rv x9 x10 x11 x12 x13 x14 x15 x16 x17).2.2.1) ((qj_rv x9 x10 x11 x12 x13 x14 x15 x16 x17).2.2.2.1) ((qj_rv x9 x10 x11 x12 x13 x14 x15 x16 x17).2.2.2.2.1) ((qj_rv x9 x10 x11 x12 x13 x14 x15 x16 x17).2.2.2.2.2.1) ((qj_rv x9 x10 x11 x12 x13 x14 x15 x16 x17).2.2.2.2.2.2.1) ((qj_rv x9 x10 x11 x12 x13 x14 x15 x16 x17).2.2.2.2.2.2.2.1) ((qj_rv x9 x10 x11 x12 x13 x14 x15 x16 x17).2.2.2.2.2.2.2.2) ((qj_rv x9 x10 x11 x12 x13 x14 x15 x16 x17).1) ((qj_rv x9 x10 x11 x12 x13 x14 x15 x16 x17).2.1) ((qj_rv x9 x10 x11 x12 x13 x14 x15 x16 x17).2.2.1) ((qj_rv x9 x10 x11 x12 x13 x14 x15 x16 x17).2.2.2.1) ((qj_rv x9 x10 x11 x12 x13 x14 x15 x16 x17).2.2.2.2.1) ((qj_rv x9 x10 x11 x12 x13 x14 x15 x16 x17).2.2.2.2.2.1) ((qj_rv x9 x10 x11 x12 x13 x14 x15 x16 x17).2.2.2.2.2.2.1) ((qj_rv x9 x10 x11 x12 x13 x14 x15 x16 x17).2.2.2.2.2.2.2.1) ((qj_rv x9 x10 x11 x12 x13 x14 x15 x16 x17).2.2.2.2.2.2.2.2)) = true) (.ite ((!(qcd_rv ((qj_rv x9 x10 x11 x12 x13 x14 x15 x16 x17).1) ((qj_rv x9 x10 x11 x12 x13 x14 x15 x16 x17).2.1) ((qj_rv x9 x10 x11 x12 x13 x14 x15 x16 x17).2.2.1) ((qj_rv x9 x10 x11 x12 x13 x14 x15 x16 x17).2.2.2.1) ((qj_rv x9 x10 x11 x12 x13 x14 x15 x16 x17).2.2.2.2.1) ((qj_rv x9 x10 x11 x12 x13 x14 x15 x16 x17).2.2.2.2.2.1) ((qj_rv x9 x10 x11 x12 x13 x14 x15 x16 x17).2.2.2.2.2.2.1) ((qj_rv x9 x10 x11 x12 x13 x14 x15 x16 x17).2.2.2.2.2.2.2.1) ((qj_rv x9 x10 x11 x12 x13 x14 x15 x16 x17).2.2.2.2.2.2.2.2) ((qj_rv x9 x10 x11 x12 x13 x14 x15 x16 x17).1) ((qj_rv x9 x10 x11 x12 x13 x14 x15 x16 x17).2.1) ((qj_rv x9 x10 x11 x12 x13 x14 x15 x16 x17).2.2.1) ((qj_rv x9 x10 x11 x12 x13 x14 x15 x16 x17).2.2.2.1) ((qj_rv x9 x10 x11 x12 x13 x14 x15 x16 x17).2.2.2.2.1) ((qj_rv x9 x10 x11 x12 x13 x14 x15 x16 x17).2.2.2.2.2.1) ((qj_rv x9 x10 x11 x12 x13 x14 x15 x16 x17).2.2.2.2.2.2.1) ((qj_rv x9 x10 x11 x12 x13 x14 x15 x16 x17).2.2.2.2.2.2.2.1) ((qj_rv x9 x10 x11 x12 x13 x14 x15 x16 x17).2.2.2.2.2.2.2.2))) = true) (.ok false)
                  (.ok true))
                 .no)
                .no))
              .no)
             .no))
           .no)
          .no)
         .no)
        .no)
       .no)
      .no))
    .no))
  .no)
theorem laws_FnExactAlwaysConverts_e (x0 x1 : Int) (x2 x3 : Bool) (x4 x5 x6 x7 : LL) (x8 x9 x10 : Int) (x11 x12 : Bool) (x13 x14 x15 x16 : LL) (x17 : Int) : runF tab FT D87 live 7 noLoops [(true, [(.int .i64, TC.i x0), (.int .i64, TC.i x1), (.bool, TC.b x2), (.bool, TC.b x3), (.slice 9, TC.l x4), (.slice 2, TC.l x5), (.slice 67, TC.l x6), (.slice 27, TC.l x7), (.int .i64, TC.i x8)]), (true, [(.int .i64, TC.i x9), (.int .i64, TC.i x10), (.bool, TC.b x11), (.bool, TC.b x12), (.slice 9, TC.l x13), (.slice 2, TC.l x14), (.slice 67, TC.l x15), (.slice 27, TC.l x16), (.int .i64, TC.i x17)])] = (laws_FnExactAlwaysConverts_t x0 x1 x2 x3 x4 x5 x6 x7 x8 x9 x10 x11 x12 x13 x14 x15 x16 x17).run fun p => some [(false, [⟨.bool, .sh, .b p⟩])] := by kernel_rfl
theorem tyArgsType {A B C E : LL} (a4 : Typed tab (.slice 9) (.l A)) (a5 : Typed tab (.slice 2) (.l B)) (a6 : Typed tab (.slice 67) (.l C)) (a7 : Typed tab (.slice 27) (.l E)) : Typed tab (.slice 9) (.l A) ∧ Typed tab (.slice 2) (.l B) ∧ Typed tab (.slice 71) (.l C) ∧ Typed tab (.slice 32) (.l E) :=
  ⟨typed_iso iso_ok a4 (by decide), typed_iso iso_ok a5 (by decide), typed_iso iso_ok a6 (by decide), typed_iso iso_ok a7 (by decide)⟩
theorem eqType_rv {x0 : Int} {x1 : Int} {x2 : Bool} {x3 : Bool} {x4 : LL} {x5 : LL} {x6 : LL} {x7 : LL} {x8 : Int} {y0 : Int} {y1 : Int} {y2 : Bool} {y3 : Bool} {y4 : LL} {y5 : LL} {y6 : LL} {y7 : LL} {y8 : Int} : ¬(!(qcd_rv x0 x1 x2 x3 x4 x5 x6 x7 x8 y0 y1 y2 y3 y4 y5 y6 y7 y8)) = true := by
  show ¬(!true) = true
  decide
theorem laws_FnExactAlwaysConverts_p (x0 x1 : Int) (x2 x3 : Bool) (x4 x5 x6 x7 : LL) (x8 x9 x10 : Int) (x11 x12 : Bool) (x13 x14 x15 x16 : LL) (x17 : Int) (h0 : Typed tab (.int .i64) (.i x0)) (h1 : Typed tab (.int .i64) (.i x1)) (h2 : Typed tab (.bool) (.b x2)) (h3 : Typed tab (.bool) (.b x3)) (h4 : Typed tab (.slice 9) (.l x4)) (h5 : Typed tab (.slice 2) (.l x5)) (h6 : Typed tab (.slice 67) (.l x6)) (h7 : Typed tab (.slice 27) (.l x7)) (h8 : Typed tab (.int .i64) (.i x8)) (h9 : Typed tab (.int .i64) (.i x9)) (h10 : Typed tab (.int .i64) (.i x10)) (h11 : Typed tab (.bool) (.b x11)) (h12 : Typed tab (.bool) (.b x12)) (h13 : Typed tab (.slice 9) (.l x13)) (h14 : Typed tab (.slice 2) (.l x14)) (h15 : Typed tab (.slice 67) (.l x15)) (h16 : Typed tab (.slice 27) (.l x16)) (h17 : Typed tab (.int .i64) (.i x17)) (NN : Nat) (eN : NN = rowsDep x4 + rowsDep x5 + rowsDep x6 + rowsDep x7 + rowsDep x13 + rowsDep x14 + rowsDep x15 + rowsDep x16 + 1) (r_laws_szType : ∀ (x0 x1 : Int) (x2 x3 : Bool) (x4 x5 x6 x7 : LL) (x8 x9 : Int), max (rowsDep x6) (rowsDep x7) < NN ∧ Typed tab (.slice 9) (.l x4) ∧ Typed tab (.slice 2) (.l x5) ∧ Typed tab (.slice 67) (.l x6) ∧ Typed tab (.slice 27) (.l x7) → (qbp_rc x0 x1 x2 x3 x4 x5 x6 x7 x8 x9) = true) (n_laws_toType : NN ≤ qj_O.n) (n_spec_l02Size : NN ≤ qu_O.n) (n_spec_l02Depth : NN ≤ qh_O.n) (n_spec_l02Ok : NN ≤ qbs_O.n) (n_spec_l04Can : NN ≤ qbc_O.n) (n_spec_l04Always : NN ≤ qi_O.n) (n_impl_Type_size : NN ≤ qbh_O.n) (n_impl_SameType : NN ≤ qbm_O.n) (n_impl_Type_valid : NN ≤ qbd_O.n) (n_impl_convertible : NN ≤ qbg_O.n) (n_impl_always : NN ≤ qby_O.n) (n_laws_eqType : NN ≤ qcd_O.n) : (laws_FnExactAlwaysConverts_t x0 x1 x2 x3 x4 x5 x6 x7 x8 x9 x10 x11 x12 x13 x14 x15 x16 x17).val = some true := by
  have t4_9 := qbr_ty h4
  have t5_2 := qbu_ty h5
  have t6_71 := qbq_ty h6
  have t7_32 := qbz_ty h7
  have t13_9 := qbr_ty h13
  have t14_2 := qbu_ty h14
  have t15_71 := qbq_ty h15
  have t16_32 := qbz_ty h16
  obtain ⟨i4, i5, i6, i7⟩ := tyArgsType h4 h5 h6 h7
  obtain ⟨i13, i14, i15, i16⟩ := tyArgsType h13 h14 h15 h16
  have szc0 : okV x0 x1 x2 x3 x4 x5 x6 x7 x8 = true → qu_rc x0 x1 x2 x3 x4 x5 x6 x7 x8 = true := fun h => is_true ⟨by omega, okV_size h⟩
  have szc9 : okV x9 x10 x11 x12 x13 x14 x15 x16 x17 = true → qu_rc x9 x10 x11 x12 x13 x14 x15 x16 x17 = true := fun h => is_true ⟨by omega, okV_size h⟩
  have dpc0 : okV x0 x1 x2 x3 x4 x5 x6 x7 x8 = true → qh_rc x0 x1 x2 x3 x4 x5 x6 x7 x8 = true := fun h => is_true ⟨by omega, okV_depth h, i6, i7⟩
  have dpc9 : okV x9 x10 x11 x12 x13 x14 x15 x16 x17 = true → qh_rc x9 x10 x11 x12 x13 x14 x15 x16 x17 = true := fun h => is_true ⟨by omega, okV_depth h, i15, i16⟩
  have okc0 : qbs_rc x0 x1 x2 x3 x4 x5 x6 x7 x8 = true := is_true ⟨by omega, by omega, by omega, i4, i5, i6, i7⟩
  have okc9 : qbs_rc x9 x10 x11 x12 x13 x14 x15 x16 x17 = true := is_true ⟨by omega, by omega, by omega, i13, i14, i15, i16⟩
  have isc0 : okV x0 x1 x2 x3 x4 x5 x6 x7 x8 = true → qbh_rc x0 x1 x2 x3 x4 x5 x6 x7 x8 = true := fun h => is_true ⟨by omega, (okV_isize h).2⟩
  have isc9 : okV x9 x10 x11 x12 x13 x14 x15 x16 x17 = true → qbh_rc x9 x10 x11 x12 x13 x14 x15 x16 x17 = true := fun h => is_true ⟨by omega, (okV_isize h).2⟩
  have vac0 : qbd_rc x0 x1 x2 x3 x4 x5 x6 x7 x8 3 = true := is_true ⟨by omega, by omega, by omega, by omega, i4, i5, i6, i7⟩
  have vac9 : qbd_rc x9 x10 x11 x12 x13 x14 x15 x16 x17 3 = true := is_true ⟨by omega, by omega, by omega, by omega, i13, i14, i15, i16⟩
  unfold laws_FnExactAlwaysConverts_t
  simp only [show qj_rv x0 x1 x2 x3 x4 x5 x6 x7 x8 = (x0, x1, x2, x3, x4, x5, x6, x7, x8) from rfl, show qj_rv x9 x10 x11 x12 x13 x14 x15 x16 x17 = (x9, x10, x11, x12, x13, x14, x15, x16, x17) from rfl]
  refine Tr.t (by first | (exact r_laws_szType _ _ _ _ _ _ _ _ _ _ ⟨by omega, h4, h5, h6, h7⟩) | (exact r_laws_szType _ _ _ _ _ _ _ _ _ _ ⟨by omega, h13, h14, h15, h16⟩)) ?_
  refine Tr.y ?_
  refine Tr.t (by first | (exact r_laws_szType _ _ _ _ _ _ _ _ _ _ ⟨by omega, h4, h5, h6, h7⟩) | (exact r_laws_szType _ _ _ _ _ _ _ _ _ _ ⟨by omega, h13, h14, h15, h16⟩)) ?_
  refine Tr.y ?_
  refine Tr.t (by first | (exact is_true ⟨by omega, h4, h5, h6, h7⟩) | (exact is_true ⟨by omega, h13, h14, h15, h16⟩)) ?_
  refine Tr.t (by first | (exact is_true ⟨by omega, h4, h5, h6, h7⟩) | (exact is_true ⟨by omega, h13, h14, h15, h16⟩)) ?_
  refine Tr.t (by first | (exact qcn_cc (qcp_cc okc0 okc9 (fun a b => is_true ⟨by omega, a, b⟩)) (fun a b c => is_true ⟨by omega, a, b, c⟩)) | (exact qcn_cc (qcp_cc okc0 okc9 (fun a b => is_true ⟨by omega, a, b⟩)) (fun a b c => is_true ⟨by omega, a, b, c⟩))) ?_
  refine Tr.t (by first | (exact is_true ⟨by omega, h4, h5, h6, h7⟩) | (exact is_true ⟨by omega, h13, h14, h15, h16⟩)) ?_
  refine Tr.t (by first | (exact is_true ⟨by omega, h4, h5, h6, h7⟩) | (exact is_true ⟨by omega, h13, h14, h15, h16⟩)) ?_
  refine Tr.t (by first | (exact qcr_cc (qcv_cc vac0 vac9 (fun a b => is_true ⟨by omega, a, b, i6, i7, i15, i16⟩)) (fun a b c => is_true ⟨by omega, a, b, c, i4, i5, i6, i7, i13, i14, i15, i16⟩)) | (exact qcr_cc (qcv_cc vac0 vac9 (fun a b => is_true ⟨by omega, a, b, i6, i7, i15, i16⟩)) (fun a b c => is_true ⟨by omega, a, b, c, i4, i5, i6, i7, i13, i14, i15, i16⟩))) ?_
  refine Tr.n (by first | (exact eqType_rv) | (rw [qcn_vv, qcr_vv]; simp)) ?_
  refine Tr.t (by first | (exact is_true ⟨by omega, h4, h5, h6, h7⟩) | (exact is_true ⟨by omega, h13, h14, h15, h16⟩)) ?_
  refine Tr.t (by first | (exact is_true ⟨by omega, rfl, rfl, rfl, rfl, rfl, rfl, rfl, rfl, rfl, i4, i5, i6, i7⟩) | (exact is_true ⟨by omega, rfl, rfl, rfl, rfl, rfl, rfl, rfl, rfl, rfl, i13, i14, i15, i16⟩)) ?_
  refine Tr.n (by first | (exact eqType_rv) | (rw [qcn_vv, qcr_vv]; simp)) ?_
  refine Tr.t (by first | (exact is_true ⟨by omega, h4, h5, h6, h7⟩) | (exact is_true ⟨by omega, h13, h14, h15, h16⟩)) ?_
  refine Tr.t (by first | (exact is_true ⟨by omega, rfl, rfl, rfl, rfl, rfl, rfl, rfl, rfl, rfl, i4, i5, i6, i7⟩) | (exact is_true ⟨by omega, rfl, rfl, rfl, rfl, rfl, rfl, rfl, rfl, rfl, i13, i14, i15, i16⟩)) ?_
  refine Tr.n (by first | (exact eqType_rv) | (rw [qcn_vv, qcr_vv]; simp)) ?_
  rfl
end
theorem qcd_none : ∀ xs r, qcd_rS (i_laws_eqType := ⟨0⟩) xs ≠ some (true, r) := by
  intro xs r h
  unfold qcd_rS at h
  split at h
  · simp only [Option.some.injEq, Prod.mk.injEq] at h
    have h1 := is_iff.1 h.1
    exact absurd h1.1 (Nat.not_lt_zero _)
  · cases h
theorem qcd_good : ∀ n : Nat, qcd_G (i_laws_eqType := ⟨n⟩) := by
  intro n
  induction n with
  | zero => exact qcd_G.mk (i_laws_eqType := ⟨0⟩) (DOk.also0 d83 qcd_none)
  | succ n ih => exact qcd_step (i_laws_eqType := ⟨n⟩) (g_laws_eqType := ih)
end
theorem qby_none : ∀ xs r, qby_rS (i_impl_always := ⟨0⟩) xs ≠ some (true, r) := by
  intro xs r h
  unfold qby_rS at h
  split at h
  · simp only [Option.some.injEq, Prod.mk.injEq] at h
    have h1 := is_iff.1 h.1
    exact absurd h1.1 (Nat.not_lt_zero _)
  · cases h
theorem qby_good : ∀ n : Nat, qby_G (i_impl_always := ⟨n⟩) := by
  intro n
  induction n with
  | zero => exact qby_G.mk (i_impl_always := ⟨0⟩) (DOk.also0 d75 qby_none)
  | succ n ih => exact qby_step (i_impl_always := ⟨n⟩) (g_impl_always := ih)
end
theorem qbg_none : ∀ xs r, qbg_rS (i_impl_convertible := ⟨0⟩) xs ≠ some (true, r) := by
  intro xs r h
  unfold qbg_rS at h
  split at h
  · simp only [Option.some.injEq, Prod.mk.injEq] at h
    have h1 := is_iff.1 h.1
    exact absurd h1.1 (Nat.not_lt_zero _)
  · cases h
theorem qbg_good : ∀ n : Nat, qbg_G (i_impl_convertible := ⟨n⟩) := by
  intro n
  induction n with
  | zero => exact qbg_G.mk (i_impl_convertible := ⟨0⟩) (DOk.also0 d58 qbg_none)
  | succ n ih => exact qbg_step (i_impl_convertible := ⟨n⟩) (g_impl_convertible := ih)
end
theorem qbd_none : ∀ xs r, qbd_rS (i_impl_Type_valid := ⟨0⟩) xs ≠ some (true, r) := by
  intro xs r h
  unfold qbd_rS at h
  split at h
  · simp only [Option.some.injEq, Prod.mk.injEq] at h
    have h1 := is_iff.1 h.1
    exact absurd h1.1 (Nat.not_lt_zero _)
  · cases h
theorem qbd_good : ∀ n : Nat, qbd_G (i_impl_Type_valid := ⟨n⟩) := by
  intro n
  induction n with
  | zero => exact qbd_G.mk (i_impl_Type_valid := ⟨0⟩) (DOk.also0 d48 qbd_none)
  | succ n ih => exact qbd_step (i_impl_Type_valid := ⟨n⟩) (g_impl_Type_valid := ih)
end
theorem qbm_none : ∀ xs r, qbm_rS (i_impl_SameType := ⟨0⟩) xs ≠ some (true, r) := by
  intro xs r h
  unfold qbm_rS at h
  split at h
  · simp only [Option.some.injEq, Prod.mk.injEq] at h
    have h1 := is_iff.1 h.1
    exact absurd h1.1 (Nat.not_lt_zero _)
  · cases h
theorem qbm_good : ∀ n : Nat, qbm_G (i_impl_SameType := ⟨n⟩) := by
  intro n
  induction n with
  | zero => exact qbm_G.mk (i_impl_SameType := ⟨0⟩) (DOk.also0 d40 qbm_none)
  | succ n ih => exact qbm_step (i_impl_SameType := ⟨n⟩) (g_impl_SameType := ih)
end
theorem qbh_none : ∀ xs r, qbh_rS (i_impl_Type_size := ⟨0⟩) xs ≠ some (true, r) := by
  intro xs r h
  unfold qbh_rS at h
  split at h
  · simp only [Option.some.injEq, Prod.mk.injEq] at h
    have h1 := is_iff.1 h.1
    exact absurd h1.1 (Nat.not_lt_zero _)
  · cases h
theorem qbh_good : ∀ n : Nat, qbh_G (i_impl_Type_size := ⟨n⟩) := by
  intro n
  induction n with
  | zero => exact qbh_G.mk (i_impl_Type_size := ⟨0⟩) (DOk.also0 d36 qbh_none)
  | succ n ih => exact qbh_step (i_impl_Type_size := ⟨n⟩) (g_impl_Type_size := ih)
end
theorem qi_none : ∀ xs r, qi_rS (i_spec_l04Always := ⟨0⟩) xs ≠ some (true, r) := by
  intro xs r h
  unfold qi_rS at h
  split at h
  · simp only [Option.some.injEq, Prod.mk.injEq] at h
    have h1 := is_iff.1 h.1
    exact absurd h1.1 (Nat.not_lt_zero _)
  · cases h
theorem qi_good : ∀ n : Nat, qi_G (i_spec_l04Always := ⟨n⟩) := by
  intro n
  induction n with
  | zero => exact qi_G.mk (i_spec_l04Always := ⟨0⟩) (DOk.also0 d34 qi_none)
  | succ n ih => exact qi_step (i_spec_l04Always := ⟨n⟩) (g_spec_l04Always := ih)
end
theorem qbc_none : ∀ xs r, qbc_rS (i_spec_l04Can := ⟨0⟩) xs ≠ some (true, r) := by
  intro xs r h
  unfold qbc_rS at h
  split at h
  · simp only [Option.some.injEq, Prod.mk.injEq] at h
    have h1 := is_iff.1 h.1
    exact absurd h1.1 (Nat.not_lt_zero _)
  · cases h
theorem qbc_good : ∀ n : Nat, qbc_G (i_spec_l04Can := ⟨n⟩) := by
  intro n
  induction n with
  | zero => exact qbc_G.mk (i_spec_l04Can := ⟨0⟩) (DOk.also0 d27 qbc_none)
  | succ n ih => exact qbc_step (i_spec_l04Can := ⟨n⟩) (g_spec_l04Can := ih)
end
theorem qbs_none : ∀ xs r, qbs_rS (i_spec_l02Ok := ⟨0⟩) xs ≠ some (true, r) := by
  intro xs r h
  unfold qbs_rS at h
  split at h
  · simp only [Option.some.injEq, Prod.mk.injEq] at h
    have h1 := is_iff.1 h.1
    exact absurd h1.1 (Nat.not_lt_zero _)
  · cases h
theorem qbs_good : ∀ n : Nat, qbs_G (i_spec_l02Ok := ⟨n⟩) := by
  intro n
  induction n with
  | zero => exact qbs_G.mk (i_spec_l02Ok := ⟨0⟩) (DOk.also0 d23 qbs_none)
  | succ n ih => exact qbs_step (i_spec_l02Ok := ⟨n⟩) (g_spec_l02Ok := ih)
end
theorem qh_none : ∀ xs r, qh_rS (i_spec_l02Depth := ⟨0⟩) xs ≠ some (true, r) := by
  intro xs r h
  unfold qh_rS at h
  split at h
  · simp only [Option.some.injEq, Prod.mk.injEq] at h
    have h1 := is_iff.1 h.1
    exact absurd h1.1 (Nat.not_lt_zero _)
  · cases h
theorem qh_good : ∀ n : Nat, qh_G (i_spec_l02Depth := ⟨n⟩) := by
  intro n
  induction n with
  | zero => exact qh_G.mk (i_spec_l02Depth := ⟨0⟩) (DOk.also0 d13 qh_none)
  | succ n ih => exact qh_step (i_spec_l02Depth := ⟨n⟩) (g_spec_l02Depth := ih)
end
theorem qu_none : ∀ xs r, qu_rS (i_spec_l02Size := ⟨0⟩) xs ≠ some (true, r) := by
  intro xs r h
  unfold qu_rS at h
  split at h
  · simp only [Option.some.injEq, Prod.mk.injEq] at h
    have h1 := is_iff.1 h.1
    exact absurd h1.1 (Nat.not_lt_zero _)
  · cases h
theorem qu_good : ∀ n : Nat, qu_G (i_spec_l02Size := ⟨n⟩) := by
  intro n
  induction n with
  | zero => exact qu_G.mk (i_spec_l02Size := ⟨0⟩) (DOk.also0 d12 qu_none)
  | succ n ih => exact qu_step (i_spec_l02Size := ⟨n⟩) (g_spec_l02Size := ih)
end
theorem qj_none : ∀ xs r, qj_rS (i_laws_toType := ⟨0⟩) xs ≠ some (true, r) := by
  intro xs r h
  unfold qj_rS at h
  split at h
  · simp only [Option.some.injEq, Prod.mk.injEq] at h
    have h1 := is_iff.1 h.1
    exact absurd h1.1 (Nat.not_lt_zero _)
  · cases h
theorem qj_good : ∀ n : Nat, qj_G (i_laws_toType := ⟨n⟩) := by
  intro n
  induction n with
  | zero => exact qj_G.mk (i_laws_toType := ⟨0⟩) (DOk.also0 d8 qj_none)
  | succ n ih => exact qj_step (i_laws_toType := ⟨n⟩) (g_laws_toType := ih)
end
@[reducible] noncomputable def qbp_orc : Nat → qbp_O
  | 0 => ⟨fun _ _ _ _ _ _ _ _ _ _ => (false, default)⟩
  | n + 1 => ⟨qbp_next (i_laws_szType := qbp_orc n)⟩
theorem qbp_none : ∀ xs r, qbp_rS (i_laws_szType := qbp_orc 0) xs ≠ some (true, r) := by
  intro xs r h
  unfold qbp_rS at h
  split at h
  · simp only [Option.some.injEq, Prod.mk.injEq] at h
    exact absurd h.1 (by show ¬(false = true); simp)
  · cases h
theorem qbp_good : ∀ n, qbp_G (i_laws_szType := qbp_orc n) := by
  intro n
  induction n with
  | zero => exact qbp_G.mk (i_laws_szType := qbp_orc 0) (DOk.also0 d2 qbp_none)
  | succ n ih => exact qbp_step (i_laws_szType := qbp_orc n) (g_laws_szType := ih)
theorem qbp_hr : ∀ (n : Nat) (x0 x1 : Int) (x2 x3 : Bool) (x4 x5 x6 x7 : LL) (x8 x9 : Int), max (rowsDep x6) (rowsDep x7) < n ∧ Typed tab (.slice 9) (.l x4) ∧ Typed tab (.slice 2) (.l x5) ∧ Typed tab (.slice 67) (.l x6) ∧ Typed tab (.slice 27) (.l x7) → qbp_rc (i_laws_szType := qbp_orc n) x0 x1 x2 x3 x4 x5 x6 x7 x8 x9 = true := by
  intro n
  induction n with
  | zero => intro x0 x1 x2 x3 x4 x5 x6 x7 x8 x9 h; exact absurd h.1 (Nat.not_lt_zero _)
  | succ n ih =>
    intro x0 x1 x2 x3 x4 x5 x6 x7 x8 x9 h
    exact qbp_nx (i_laws_szType := qbp_orc n) (g_laws_szType := qbp_good n) n ih x0 x1 x2 x3 x4 x5 x6 x7 x8 x9 h
theorem laws_FnExactAlwaysConverts_pure : ∀ xs, ArgsTyped tab [27, 27] xs → ∃ (D : Dt) (lo : LoopTeller), DOk Go.Proofs.Try.prog tab D ∧ FnLoops tab (fun f => Go.Proofs.Try.prog.funcs[f]?) D live 7 lo ∧ runF tab (fun f => Go.Proofs.Try.prog.funcs[f]?) D live 7 lo xs = yes := by
  intro xs h
  cases h with | cons l0 g0 h =>
  obtain ⟨z0_0, z0_1, z0_2, z0_3, z0_4, z0_5, z0_6, z0_7, z0_8, rfl⟩ := len_9 l0
  have q0 := g0 0 (by decide)
  have q0 : Typed tab (.int .i64) z0_0 := q0
  obtain ⟨y0, rfl⟩ := typed_int q0
  have q1 := g0 1 (by decide)
  have q1 : Typed tab (.int .i64) z0_1 := q1
  obtain ⟨y1, rfl⟩ := typed_int q1
  have q2 := g0 2 (by decide)
  have q2 : Typed tab (.bool) z0_2 := q2
  obtain ⟨y2, rfl⟩ := typed_bool q2
  have q3 := g0 3 (by decide)
  have q3 : Typed tab (.bool) z0_3 := q3
  obtain ⟨y3, rfl⟩ := typed_bool q3
  have q4 := g0 4 (by decide)
  have q4 : Typed tab (.slice 9) z0_4 := q4
  obtain ⟨y4, rfl⟩ := typed_slice q4
  have q5 := g0 5 (by decide)
  have q5 : Typed tab (.slice 2) z0_5 := q5
  obtain ⟨y5, rfl⟩ := typed_slice q5
  have q6 := g0 6 (by decide)
  have q6 : Typed tab (.slice 67) z0_6 := q6
  obtain ⟨y6, rfl⟩ := typed_slice q6
  have q7 := g0 7 (by decide)
  have q7 : Typed tab (.slice 27) z0_7 := q7
  obtain ⟨y7, rfl⟩ := typed_slice q7
  have q8 := g0 8 (by decide)
  have q8 : Typed tab (.int .i64) z0_8 := q8
  obtain ⟨y8, rfl⟩ := typed_int q8
  cases h with | cons l1 g1 h =>
  obtain ⟨z1_0, z1_1, z1_2, z1_3, z1_4, z1_5, z1_6, z1_7, z1_8, rfl⟩ := len_9 l1
  have q9 := g1 0 (by decide)
  have q9 : Typed tab (.int .i64) z1_0 := q9
  obtain ⟨y9, rfl⟩ := typed_int q9
  have q10 := g1 1 (by decide)
  have q10 : Typed tab (.int .i64) z1_1 := q10
  obtain ⟨y10, rfl⟩ := typed_int q10
  have q11 := g1 2 (by decide)
  have q11 : Typed tab (.bool) z1_2 := q11
  obtain ⟨y11, rfl⟩ := typed_bool q11
  have q12 := g1 3 (by decide)
  have q12 : Typed tab (.bool) z1_3 := q12
  obtain ⟨y12, rfl⟩ := typed_bool q12
  have q13 := g1 4 (by decide)
  have q13 : Typed tab (.slice 9) z1_4 := q13
  obtain ⟨y13, rfl⟩ := typed_slice q13
  have q14 := g1 5 (by decide)
  have q14 : Typed tab (.slice 2) z1_5 := q14
  obtain ⟨y14, rfl⟩ := typed_slice q14
  have q15 := g1 6 (by decide)
  have q15 : Typed tab (.slice 67) z1_6 := q15
  obtain ⟨y15, rfl⟩ := typed_slice q15
  have q16 := g1 7 (by decide)
  have q16 : Typed tab (.slice 27) z1_7 := q16
  obtain ⟨y16, rfl⟩ := typed_slice q16
  have q17 := g1 8 (by decide)
  have q17 : Typed tab (.int .i64) z1_8 := q17
  obtain ⟨y17, rfl⟩ := typed_int q17
  cases h
  letI i_laws_szType : qbp_O := qbp_orc (rowsDep y4 + rowsDep y5 + rowsDep y6 + rowsDep y7 + rowsDep y13 + rowsDep y14 + rowsDep y15 + rowsDep y16 + 1)
  letI g_laws_szType : qbp_G := qbp_good (rowsDep y4 + rowsDep y5 + rowsDep y6 + rowsDep y7 + rowsDep y13 + rowsDep y14 + rowsDep y15 + rowsDep y16 + 1)
  letI i_laws_toType : qj_O := ⟨rowsDep y4 + rowsDep y5 + rowsDep y6 + rowsDep y7 + rowsDep y13 + rowsDep y14 + rowsDep y15 + rowsDep y16 + 1⟩
  letI g_laws_toType : qj_G := qj_good (rowsDep y4 + rowsDep y5 + rowsDep y6 + rowsDep y7 + rowsDep y13 + rowsDep y14 + rowsDep y15 + rowsDep y16 + 1)
  letI i_spec_l02Size : qu_O := ⟨rowsDep y4 + rowsDep y5 + rowsDep y6 + rowsDep y7 + rowsDep y13 + rowsDep y14 + rowsDep y15 + rowsDep y16 + 1⟩
  letI g_spec_l02Size : qu_G := qu_good (rowsDep y4 + rowsDep y5 + rowsDep y6 + rowsDep y7 + rowsDep y13 + rowsDep y14 + rowsDep y15 + rowsDep y16 + 1)
  letI i_spec_l02Depth : qh_O := ⟨rowsDep y4 + rowsDep y5 + rowsDep y6 + rowsDep y7 + rowsDep y13 + rowsDep y14 + rowsDep y15 + rowsDep y16 + 1⟩
  letI g_spec_l02Depth : qh_G := qh_good (rowsDep y4 + rowsDep y5 + rowsDep y6 + rowsDep y7 + rowsDep y13 + rowsDep y14 + rowsDep y15 + rowsDep y16 + 1)
  letI i_spec_l02Ok : qbs_O := ⟨rowsDep y4 + rowsDep y5 + rowsDep y6 + rowsDep y7 + rowsDep y13 + rowsDep y14 + rowsDep y15 + rowsDep y16 + 1⟩
  letI g_spec_l02Ok : qbs_G := qbs_good (rowsDep y4 + rowsDep y5 + rowsDep y6 + rowsDep y7 + rowsDep y13 + rowsDep y14 + rowsDep y15 + rowsDep y16 + 1)
  letI i_spec_l04Can : qbc_O := ⟨rowsDep y4 + rowsDep y5 + rowsDep y6 + rowsDep y7 + rowsDep y13 + rowsDep y14 + rowsDep y15 + rowsDep y16 + 1⟩
  letI g_spec_l04Can : qbc_G := qbc_good (rowsDep y4 + rowsDep y5 + rowsDep y6 + rowsDep y7 + rowsDep y13 + rowsDep y14 + rowsDep y15 + rowsDep y16 + 1)
  letI i_spec_l04Always : qi_O := ⟨rowsDep y4 + rowsDep y5 + rowsDep y6 + rowsDep y7 + rowsDep y13 + rowsDep y14 + rowsDep y15 + rowsDep y16 + 1⟩
  letI g_spec_l04Always : qi_G := qi_good (rowsDep y4 + rowsDep y5 + rowsDep y6 + rowsDep y7 + rowsDep y13 + rowsDep y14 + rowsDep y15 + rowsDep y16 + 1)
  letI i_impl_Type_size : qbh_O := ⟨rowsDep y4 + rowsDep y5 + rowsDep y6 + rowsDep y7 + rowsDep y13 + rowsDep y14 + rowsDep y15 + rowsDep y16 + 1⟩
  letI g_impl_Type_size : qbh_G := qbh_good (rowsDep y4 + rowsDep y5 + rowsDep y6 + rowsDep y7 + rowsDep y13 + rowsDep y14 + rowsDep y15 + rowsDep y16 + 1)
  letI i_impl_SameType : qbm_O := ⟨rowsDep y4 + rowsDep y5 + rowsDep y6 + rowsDep y7 + rowsDep y13 + rowsDep y14 + rowsDep y15 + rowsDep y16 + 1⟩
  letI g_impl_SameType : qbm_G := qbm_good (rowsDep y4 + rowsDep y5 + rowsDep y6 + rowsDep y7 + rowsDep y13 + rowsDep y14 + rowsDep y15 + rowsDep y16 + 1)
  letI i_impl_Type_valid : qbd_O := ⟨rowsDep y4 + rowsDep y5 + rowsDep y6 + rowsDep y7 + rowsDep y13 + rowsDep y14 + rowsDep y15 + rowsDep y16 + 1⟩
  letI g_impl_Type_valid : qbd_G := qbd_good (rowsDep y4 + rowsDep y5 + rowsDep y6 + rowsDep y7 + rowsDep y13 + rowsDep y14 + rowsDep y15 + rowsDep y16 + 1)
  letI i_impl_convertible : qbg_O := ⟨rowsDep y4 + rowsDep y5 + rowsDep y6 + rowsDep y7 + rowsDep y13 + rowsDep y14 + rowsDep y15 + rowsDep y16 + 1⟩
  letI g_impl_convertible : qbg_G := qbg_good (rowsDep y4 + rowsDep y5 + rowsDep y6 + rowsDep y7 + rowsDep y13 + rowsDep y14 + rowsDep y15 + rowsDep y16 + 1)
  letI i_impl_always : qby_O := ⟨rowsDep y4 + rowsDep y5 + rowsDep y6 + rowsDep y7 + rowsDep y13 + rowsDep y14 + rowsDep y15 + rowsDep y16 + 1⟩
  letI g_impl_always : qby_G := qby_good (rowsDep y4 + rowsDep y5 + rowsDep y6 + rowsDep y7 + rowsDep y13 + rowsDep y14 + rowsDep y15 + rowsDep y16 + 1)
  letI i_laws_eqType : qcd_O := ⟨rowsDep y4 + rowsDep y5 + rowsDep y6 + rowsDep y7 + rowsDep y13 + rowsDep y14 + rowsDep y15 + rowsDep y16 + 1⟩
  letI g_laws_eqType : qcd_G := qcd_good (rowsDep y4 + rowsDep y5 + rowsDep y6 + rowsDep y7 + rowsDep y13 + rowsDep y14 + rowsDep y15 + rowsDep y16 + 1)
  refine ⟨D87, noLoops, d87, noLoops_ok, (laws_FnExactAlwaysConverts_e y0 y1 y2 y3 y4 y5 y6 y7 y8 y9 y10 y11 y12 y13 y14 y15 y16 y17).trans ?_⟩
  rw [Tr.run_eq, laws_FnExactAlwaysConverts_p y0 y1 y2 y3 y4 y5 y6 y7 y8 y9 y10 y11 y12 y13 y14 y15 y16 y17 q0 q1 q2 q3 q4 q5 q6 q7 q8 q9 q10 q11 q12 q13 q14 q15 q16 q17 (rowsDep y4 + rowsDep y5 + rowsDep y6 + rowsDep y7 + rowsDep y13 + rowsDep y14 + rowsDep y15 + rowsDep y16 + 1) rfl (qbp_hr (rowsDep y4 + rowsDep y5 + rowsDep y6 + rowsDep y7 + rowsDep y13 + rowsDep y14 + rowsDep y15 + rowsDep y16 + 1)) (Nat.le_refl _) (Nat.le_refl _) (Nat.le_refl _) (Nat.le_refl _) (Nat.le_refl _) (Nat.le_refl _) (Nat.le_refl _) (Nat.le_refl _) (Nat.le_refl _) (Nat.le_refl _) (Nat.le_refl _) (Nat.le_refl _)]
  rfl
end
end Go.Proofs.Ytdcafhfnkblfkaa.V
