/- What the functions of FnExactAlwaysConverts answer. No condition. -/
import Derived.Test.YtdcafhfnkblfkaaVFnExactAlwaysConvertsP4
namespace Go.Proofs.Ytdcafhfnkblfkaa.V
open Go
set_option maxRecDepth 100000
set_option linter.unusedVariables false
set_option linter.unusedSectionVars false
set_option linter.unusedSimpArgs false
set_option maxHeartbeats 2000000
noncomputable section
section
variable [i_laws_szType : qbp_O]
variable [g_laws_szType : qbp_G]
section
variable [i_laws_toType : qj_O]
variable [g_laws_toType : qj_G]
section
variable [i_spec_l02Size : qu_O]
variable [g_spec_l02Size : qu_G]
section
variable [i_spec_l02Depth : qh_O]
variable [g_spec_l02Depth : qh_G]
section
variable [i_spec_l02Ok : qbs_O]
variable [g_spec_l02Ok : qbs_G]
section
variable [i_spec_l04Can : qbc_O]
variable [g_spec_l04Can : qbc_G]
section
variable [i_spec_l04Always : qi_O]
variable [g_spec_l04Always : qi_G]
section
variable [i_impl_Type_size : qbh_O]
variable [g_impl_Type_size : qbh_G]
section
variable [i_impl_SameType : qbm_O]
variable [g_impl_SameType : qbm_G]
section
variable [i_impl_Type_valid : qbd_O]
variable [g_impl_Type_valid : qbd_G]
def qbd_v (k s : Int) (sg bg : Bool) (NA NU ME BA : LL) (ct d : Int) : Bool := (bif (decide (d < (1 : Int))) then false else (bif (!(qbm_rv k s sg bg NA NU ME BA ct ((qcb_v k s sg bg NA NU ME BA ct).1) ((qcb_v k s sg bg NA NU ME BA ct).2.1) ((qcb_v k s sg bg NA NU ME BA ct).2.2.1) ((qcb_v k s sg bg NA NU ME BA ct).2.2.2.1) ((qcb_v k s sg bg NA NU ME BA ct).2.2.2.2.1) ((qcb_v k s sg bg NA NU ME BA ct).2.2.2.2.2.1) ((qcb_v k s sg bg NA NU ME BA ct).2.2.2.2.2.2.1) ((qcb_v k s sg bg NA NU ME BA ct).2.2.2.2.2.2.2.1) ((qcb_v k s sg bg NA NU ME BA ct).2.2.2.2.2.2.2.2))) then false else (bif (k == (1 : Int)) then (qda_v k s sg bg NA NU ME BA ct) else (bif (k == (2 : Int)) then (qdb_v s (1 : Int) (16 : Int)) else (bif (k == (3 : Int)) then (qbb_v k s sg bg NA NU ME BA ct) else (bif (k == (4 : Int)) then (qg_v k s sg bg NA NU ME BA ct (IntKind.wrap .i64 (d - (1 : Int)))) else (bif (k == (5 : Int)) then (bif (qdb_v ct (1 : Int) (4 : Int)) then (bif ((BA.length : Int) == (1 : Int)) then (bif (qbd_rv ((nth (row BA (0 : Int)) 0).int) ((nth (row BA (0 : Int)) 1).int) ((nth (row BA (0 : Int)) 2).bool) ((nth (row BA (0 : Int)) 3).bool) ((nth (row BA (0 : Int)) 4).list) ((nth (row BA (0 : Int)) 5).list) ((nth (row BA (0 : Int)) 6).list) ((nth (row BA (0 : Int)) 7).list) ((nth (row BA (0 : Int)) 8).int) (IntKind.wrap .i64 (d - (1 : Int)))) then (decide ((qbh_rv k s sg bg NA NU ME BA ct) ≤ (24 : Int))) else false) else false) else false) else (bif (k == (6 : Int)) then (s == (2 : Int)) else false))))))))
theorem qbd_l (k s : Int) (sg bg : Bool) (NA NU ME BA : LL) (ct d : Int) : (qbd_c k s sg bg NA NU ME BA ct d) = true → (qbd_t k s sg bg NA NU ME BA ct d).val = some (qbd_v k s sg bg NA NU ME BA ct d) := by
  unfold qbd_t qbd_v qbd_c
  intro h
  repeat' first | refine Tr.gb h fun h => ?_ | refine Tr.gs h fun h => ?_ | refine Tr.ss h (fun h => ?_) fun h => ?_ | exact rfl
theorem qbd_e (k s : Int) (sg bg : Bool) (NA NU ME BA : LL) (ct d : Int) : runF tab FT D56 live 73 noLoops [(true, [(.int .i64, TC.i k), (.int .i64, TC.i s), (.bool, TC.b sg), (.bool, TC.b bg), (.slice 9, TC.l NA), (.slice 2, TC.l NU), (.slice 71, TC.l ME), (.slice 32, TC.l BA), (.int .i64, TC.i ct)]), (false, [(.int .i64, TC.i d)])] = (qbd_t k s sg bg NA NU ME BA ct d).run fun p => some (qbd_mk p) := by kernel_rfl
theorem qbd_nx (k s : Int) (sg bg : Bool) (NA NU ME BA : LL) (ct d : Int) : is (max (rowsDep ME) (rowsDep BA) < qbd_O.n + 1 ∧ d ≤ 3 ∧ max (rowsDep ME) (rowsDep BA) < qbm_O.n ∧ max (rowsDep ME) (rowsDep BA) < qbh_O.n ∧ Typed tab (.slice 9) (.l NA) ∧ Typed tab (.slice 2) (.l NU) ∧ Typed tab (.slice 71) (.l ME) ∧ Typed tab (.slice 32) (.l BA)) = true → (qbd_c k s sg bg NA NU ME BA ct d) = true ∧ (qbd_v k s sg bg NA NU ME BA ct d) = validV k s sg bg NA NU ME BA ct d := by
  intro h
  obtain ⟨hM, hd, hS, hZ, t4, t5, t6, t7⟩ := is_iff.1 h
  by_cases hd1 : d < 1
  · refine ⟨by unfold qbd_c; rw [decide_eq_true hd1]; rfl, ?_⟩
    unfold qbd_v validV
    rw [decide_eq_true hd1]
    show false = _
    cases hk : okV k s sg bg NA NU ME BA ct with
    | false => rfl
    | true => have := okV_pos hk; rw [decide_eq_false (by omega)]; rfl
  have hsame : ∀ (k' s' : Int) (sg' bg' : Bool) (A B C D : LL) (ct' : Int), Typed tab (.slice 9) (.l A) → Typed tab (.slice 2) (.l B) → Typed tab (.slice 71) (.l C) → Typed tab (.slice 32) (.l D) → qbm_rc k s sg bg NA NU ME BA ct k' s' sg' bg' A B C D ct' = true :=
    fun _ _ _ _ _ _ _ _ _ a b c e => is_true ⟨by omega, t4, t5, t6, t7, a, b, c, e⟩
  have hv : ∀ (k' s' : Int) (sg' bg' : Bool) (A B C D : LL) (ct' : Int), qbm_rv k s sg bg NA NU ME BA ct k' s' sg' bg' A B C D ct' = sameV k s sg bg NA NU ME BA ct k' s' sg' bg' A B C D ct' := fun _ _ _ _ _ _ _ _ _ => rfl
  have z4 : Typed tab (.slice 9) (.l []) := typed_none
  have z5 : Typed tab (.slice 2) (.l []) := typed_none
  have z6 : Typed tab (.slice 71) (.l []) := typed_none
  have z7 : Typed tab (.slice 32) (.l []) := typed_none
  have w1 : IntKind.wrap .i64 (d - 1) = d - 1 := wrap64 (by omega) (by omega)
  have e0 : decide (d < 1) = false := decide_eq_false hd1
  have hbase : ∀ d', d' ≤ 3 → 0 < BA.length → qbd_rc (nth (row BA (0 : Int)) 0).int (nth (row BA (0 : Int)) 1).int (nth (row BA (0 : Int)) 2).bool (nth (row BA (0 : Int)) 3).bool (nth (row BA (0 : Int)) 4).list (nth (row BA (0 : Int)) 5).list (nth (row BA (0 : Int)) 6).list (nth (row BA (0 : Int)) 7).list (nth (row BA (0 : Int)) 8).int d' = true := fun d' hd' hb => by
    have := dep_base (ME := ME) hb 6 7
    exact is_true ⟨by omega, hd', by omega, by omega, typed_list ((typed_elem t7 (mem_getD (i := 0) hb)).2 4 (by decide)), typed_list ((typed_elem t7 (mem_getD (i := 0) hb)).2 5 (by decide)), typed_list ((typed_elem t7 (mem_getD (i := 0) hb)).2 6 (by decide)), typed_list ((typed_elem t7 (mem_getD (i := 0) hb)).2 7 (by decide))⟩
  unfold qbd_c qbd_v
  rw [e0, w1]
  by_cases k1 : k = 1
  · subst k1
    rw [show qcb_v 1 s sg bg NA NU ME BA ct = (1, s, sg, bg, [], [], [], [], 0) from rfl]
    refine ⟨?_, ?_⟩
    · simp only [hsame _ _ _ _ _ _ _ _ _ z4 z5 z6 z7, qda_cc1, Int.reduceBEq, cond_true, cond_false, Bool.true_and, Bool.and_true, bif_same]
    · rw [← pure1 (by omega)]
      simp only [hv, qda_vv, Int.reduceBEq, cond_true, cond_false]
  by_cases k2 : k = 2
  · subst k2
    rw [show qcb_v 2 s sg bg NA NU ME BA ct = (2, s, false, false, [], [], [], [], 0) from rfl]
    refine ⟨?_, ?_⟩
    · simp only [hsame _ _ _ _ _ _ _ _ _ z4 z5 z6 z7, Int.reduceBEq, cond_true, cond_false, Bool.true_and, Bool.and_true, bif_same]
    · rw [valid_2 (by omega), ← pureB (k := 2) (s := s)]
      simp only [hv, Int.reduceBEq, cond_true, cond_false]
      rfl
  by_cases k6 : k = 6
  · subst k6
    rw [show qcb_v 6 s sg bg NA NU ME BA ct = (6, s, false, false, [], [], [], [], 0) from rfl]
    refine ⟨?_, ?_⟩
    · simp only [hsame _ _ _ _ _ _ _ _ _ z4 z5 z6 z7, Int.reduceBEq, cond_true, cond_false, Bool.true_and, Bool.and_true, bif_same]
    · rw [valid_6 (by omega), ← pureB (k := 6) (s := s)]
      simp only [hv, Int.reduceBEq, cond_true, cond_false]
  by_cases k3 : k = 3
  · subst k3
    rw [show qcb_v 3 s sg bg NA NU ME BA ct = (3, 0, false, false, NA, NU, [], BA, 0) from rfl]
    refine ⟨?_, ?_⟩
    · have hl : NU.length ≤ 140737488351232 := by have := typed_room t5; simp only [show (tab 2).bytes = 8 from rfl] at this; omega
      simp only [hsame _ _ _ _ _ _ _ _ _ t4 t5 z6 t7, qbb_cc (hbase 1 (by omega)) t4 hl, Int.reduceBEq, cond_true, cond_false, Bool.true_and, Bool.and_true, bif_same]
    · rw [← pure3 (by omega)]
      simp only [hv, qbb_vv, Int.reduceBEq, cond_true, cond_false]
  by_cases k4 : k = 4
  · subst k4
    rw [show qcb_v 4 s sg bg NA NU ME BA ct = (4, s, false, false, [], [], ME, [], 0) from rfl]
    refine ⟨?_, ?_⟩
    · have hr : ∀ x, x ∈ ME → qbd_rc (nth x 2).int (nth x 3).int (nth x 4).bool (nth x 5).bool (nth x 6).list (nth x 7).list (nth x 8).list (nth x 9).list (nth x 10).int (d - 1) = true := fun x hx => by
        have := dep_max (BA := BA) hx 8 9
        exact is_true ⟨by omega, by omega, by omega, by omega, typed_list ((typed_elem t6 hx).2 6 (by decide)), typed_list ((typed_elem t6 hx).2 7 (by decide)), typed_list ((typed_elem t6 hx).2 8 (by decide)), typed_list ((typed_elem t6 hx).2 9 (by decide))⟩
      have hz : ∀ x, x ∈ ME → (!(qbd_rv (nth x 2).int (nth x 3).int (nth x 4).bool (nth x 5).bool (nth x 6).list (nth x 7).list (nth x 8).list (nth x 9).list (nth x 10).int (d - 1))) = false → qbh_rc (nth x 2).int (nth x 3).int (nth x 4).bool (nth x 5).bool (nth x 6).list (nth x 7).list (nth x 8).list (nth x 9).list (nth x 10).int = true := fun x hx hk => by
        have := dep_max (BA := BA) hx 8 9
        have hk : qbd_rv (nth x 2).int (nth x 3).int (nth x 4).bool (nth x 5).bool (nth x 6).list (nth x 7).list (nth x 8).list (nth x 9).list (nth x 10).int (d - 1) = true := by simpa using hk
        have hk : (okV (nth x 2).int (nth x 3).int (nth x 4).bool (nth x 5).bool (nth x 6).list (nth x 7).list (nth x 8).list (nth x 9).list (nth x 10).int && decide (depthV (nth x 2).int (nth x 8).list (nth x 9).list ≤ d - 1)) = true := hk
        rw [Bool.and_eq_true] at hk
        exact is_true ⟨by omega, (okV_isize hk.1).2⟩
      simp only [hsame _ _ _ _ _ _ _ _ _ z4 z5 t6 z7, qg_cc t6 hr hz, Int.reduceBEq, cond_true, cond_false, Bool.true_and, Bool.and_true, bif_same]
    · rw [← pure4 (by omega) hd]
      simp only [hv, qg_vv, Int.reduceBEq, cond_true, cond_false]
  by_cases k5 : k = 5
  · subst k5
    rw [show qcb_v 5 s sg bg NA NU ME BA ct = (5, 0, false, false, [], [], [], BA, ct) from rfl]
    refine ⟨?_, ?_⟩
    · simp only [hsame _ _ _ _ _ _ _ _ _ z4 z5 z6 t7, Int.reduceBEq, cond_true, cond_false, Bool.true_and, Bool.and_true]
      cases hb : ((BA.length : Int) == 1) with
      | false => simp only [cond_false, bif_same]
      | true =>
        have hb0 : 0 < BA.length := by have := beq_iff_eq.1 hb; omega
        rw [hbase (d - 1) (by omega) hb0, show is ((0 : Int) ≤ (0 : Int) ∧ (0 : Int) < (BA.length : Int)) = true from is_true (by constructor <;> omega)]
        cases hk : qbd_rv (nth (row BA (0 : Int)) 0).int (nth (row BA (0 : Int)) 1).int (nth (row BA (0 : Int)) 2).bool (nth (row BA (0 : Int)) 3).bool (nth (row BA (0 : Int)) 4).list (nth (row BA (0 : Int)) 5).list (nth (row BA (0 : Int)) 6).list (nth (row BA (0 : Int)) 7).list (nth (row BA (0 : Int)) 8).int (d - 1) with
        | false => simp only [cond_true, cond_false, Bool.true_and, bif_same]
        | true =>
          have hk' : (okV (nth (row BA (0 : Int)) 0).int (nth (row BA (0 : Int)) 1).int (nth (row BA (0 : Int)) 2).bool (nth (row BA (0 : Int)) 3).bool (nth (row BA (0 : Int)) 4).list (nth (row BA (0 : Int)) 5).list (nth (row BA (0 : Int)) 6).list (nth (row BA (0 : Int)) 7).list (nth (row BA (0 : Int)) 8).int && decide (depthV (nth (row BA (0 : Int)) 0).int (nth (row BA (0 : Int)) 6).list (nth (row BA (0 : Int)) 7).list ≤ d - 1)) = true := hk
          rw [Bool.and_eq_true] at hk'
          have hsz : qbh_rc 5 s sg bg NA NU ME BA ct = true := is_true ⟨by omega, by
            rw [isizeC]
            show (if h : 0 < BA.length then isizeC (nth (row BA (0 : Int)) 0).int (nth (row BA (0 : Int)) 7).list else false) = true
            rw [dif_pos hb0]; exact (okV_isize hk'.1).2⟩
          simp only [hsz, cond_true, Bool.true_and, bif_same]
    · rw [← pure5 (by omega) hd]
      simp only [hv, Int.reduceBEq, cond_true, cond_false, show qdb_v ct 1 4 = inB ct 1 4 from rfl, show qbd_rv (nth (row BA (0 : Int)) 0).int (nth (row BA (0 : Int)) 1).int (nth (row BA (0 : Int)) 2).bool (nth (row BA (0 : Int)) 3).bool (nth (row BA (0 : Int)) 4).list (nth (row BA (0 : Int)) 5).list (nth (row BA (0 : Int)) 6).list (nth (row BA (0 : Int)) 7).list (nth (row BA (0 : Int)) 8).int (d - 1) = validV (nth (row BA (0 : Int)) 0).int (nth (row BA (0 : Int)) 1).int (nth (row BA (0 : Int)) 2).bool (nth (row BA (0 : Int)) 3).bool (nth (row BA (0 : Int)) 4).list (nth (row BA (0 : Int)) 5).list (nth (row BA (0 : Int)) 6).list (nth (row BA (0 : Int)) 7).list (nth (row BA (0 : Int)) 8).int (d - 1) from rfl, show qbh_rv 5 s sg bg NA NU ME BA ct = isizeV 5 s BA ct from rfl, bif_ft]
  have e1 : (k == 1) = false := by simpa using k1
  have e2 : (k == 2) = false := by simpa using k2
  have e3 : (k == 3) = false := by simpa using k3
  have e4 : (k == 4) = false := by simpa using k4
  have e5 : (k == 5) = false := by simpa using k5
  have e6 : (k == 6) = false := by simpa using k6
  have ho : qcb_v k s sg bg NA NU ME BA ct = (k, 0, false, false, [], [], [], [], 0) := by
    unfold qcb_v
    simp only [e1, e2, e3, e4, e5, e6, cond_false]
  have hn : validV k s sg bg NA NU ME BA ct d = false := by
    unfold validV
    cases hk : okV k s sg bg NA NU ME BA ct with
    | false => rfl
    | true => have := okV_kind hk; omega
  rw [ho, hn]
  simp only [e1, e2, e3, e4, e5, e6, hsame _ _ _ _ _ _ _ _ _ z4 z5 z6 z7, cond_false, Bool.true_and, bif_same, and_self]
theorem qbd_nxr (k s : Int) (sg bg : Bool) (NA NU ME BA : LL) (ct d : Int) : qbd_rc (i_impl_Type_valid := ⟨qbd_O.n + 1⟩) k s sg bg NA NU ME BA ct d = true → (qbd_c k s sg bg NA NU ME BA ct d) = true ∧ (qbd_v k s sg bg NA NU ME BA ct d) = (qbd_rv k s sg bg NA NU ME BA ct d) := fun h => qbd_nx k s sg bg NA NU ME BA ct d h
theorem qbd_rs : ∀ xs r, qbd_rS (i_impl_Type_valid := ⟨qbd_O.n + 1⟩) xs = some (true, r) → runF tab FT D56 live 73 noLoops xs = some r := by
  intro xs r h
  unfold qbd_rS at h
  split at h
  · obtain ⟨h1, rfl⟩ := sp h
    have hx := qbd_nxr _ _ _ _ _ _ _ _ _ _ h1
    have ht := fun_told (qbd_e ..) (qbd_l _ _ _ _ _ _ _ _ _ _) hx.1
    rw [hx.2] at ht
    exact ht
  · cases h
theorem qbd_step : qbd_G (i_impl_Type_valid := ⟨qbd_O.n + 1⟩) := by
  have h := DOk.also2 (S := qbd_rS (i_impl_Type_valid := ⟨qbd_O.n + 1⟩)) mixed_ok tab_ok names_ok d48 d56 noLoops_ok qbd_rs
  refine qbd_G.mk (i_impl_Type_valid := ⟨qbd_O.n + 1⟩) ?_
  exact h
def qcu_t (k s : Int) (sg bg : Bool) (NA NU ME BA : LL) (ct : Int) : Tr (Bool) := (.ite ((qbd_rc k s sg bg NA NU ME BA ct (3 : Int)) = true) (.ok (qbd_rv k s sg bg NA NU ME BA ct (3 : Int)))
  .no)
def qcu_mk (p : Bool) : Res := [(false, [⟨.bool, .sh, TC.b p⟩])]
def qcu_c (k s : Int) (sg bg : Bool) (NA NU ME BA : LL) (ct : Int) : Bool := ((qbd_rc k s sg bg NA NU ME BA ct (3 : Int)) && true)
def qcu_v (k s : Int) (sg bg : Bool) (NA NU ME BA : LL) (ct : Int) : Bool := (qbd_rv k s sg bg NA NU ME BA ct (3 : Int))
theorem qcu_l (k s : Int) (sg bg : Bool) (NA NU ME BA : LL) (ct : Int) : (qcu_c k s sg bg NA NU ME BA ct) = true → (qcu_t k s sg bg NA NU ME BA ct).val = some (qcu_v k s sg bg NA NU ME BA ct) := by
  unfold qcu_t qcu_v qcu_c
  exact fun h => (Tr.gb h fun h => rfl)
def qcu_S : List Arg → Option (Bool × Res) := fun xs => match xs with
  | [(true, [(.int .i64, TC.i k), (.int .i64, TC.i s), (.bool, TC.b sg), (.bool, TC.b bg), (.slice 9, TC.l NA), (.slice 2, TC.l NU), (.slice 71, TC.l ME), (.slice 32, TC.l BA), (.int .i64, TC.i ct)])] => some ((qcu_c k s sg bg NA NU ME BA ct), qcu_mk (qcu_v k s sg bg NA NU ME BA ct))
  | _ => .none
theorem qcu_e (k s : Int) (sg bg : Bool) (NA NU ME BA : LL) (ct : Int) : runF tab FT D56 live 36 noLoops [(true, [(.int .i64, TC.i k), (.int .i64, TC.i s), (.bool, TC.b sg), (.bool, TC.b bg), (.slice 9, TC.l NA), (.slice 2, TC.l NU), (.slice 71, TC.l ME), (.slice 32, TC.l BA), (.int .i64, TC.i ct)])] = (qcu_t k s sg bg NA NU ME BA ct).run fun p => some (qcu_mk p) := by kernel_rfl
theorem qcu_s : ∀ xs r, qcu_S xs = some (true, r) → runF tab FT D56 live 36 noLoops xs = some r := by
  intro xs r h
  unfold qcu_S at h
  split at h
  · obtain ⟨h1, rfl⟩ := sp h
    exact fun_told (qcu_e ..) (qcu_l _ _ _ _ _ _ _ _ _) h1
  · cases h
def D57 : Dt := also D56 36 qcu_S
theorem d57 : DOk Go.Proofs.Try.prog tab D57 := d56.also mixed_ok tab_ok names_ok noLoops_ok qcu_s
theorem qcu_cc {k : Int} {s : Int} {sg : Bool} {bg : Bool} {NA : LL} {NU : LL} {ME : LL} {BA : LL} {ct : Int} (h : qbd_rc k s sg bg NA NU ME BA ct 3 = true) : (qcu_c k s sg bg NA NU ME BA ct) = true := by
  unfold qcu_c
  refine andT (by exact h) ?_
  rfl
theorem qcu_vv (k s : Int) (sg bg : Bool) (NA NU ME BA : LL) (ct : Int) : qcu_v k s sg bg NA NU ME BA ct = okV k s sg bg NA NU ME BA ct := by
  show (okV k s sg bg NA NU ME BA ct && decide (depthV k ME BA ≤ 3)) = _
  cases h : okV k s sg bg NA NU ME BA ct with
  | false => rfl
  | true => rw [decide_eq_true (okV_top h).2]; rfl
def qco_t (a0 a1 : Int) (a2 a3 : Bool) (a4 a5 a6 a7 : LL) (a8 : Int) : Tr (Bool) := (.ite ((a0 == (1 : Int)) = true) (.ok true)
  (.ok (a0 == (3 : Int))))
def qco_mk (p : Bool) : Res := [(false, [⟨.bool, .sh, TC.b p⟩])]
def qco_c (a0 a1 : Int) (a2 a3 : Bool) (a4 a5 a6 a7 : LL) (a8 : Int) : Bool := true
def qco_v (a0 a1 : Int) (a2 a3 : Bool) (a4 a5 a6 a7 : LL) (a8 : Int) : Bool := (bif (a0 == (1 : Int)) then true else (a0 == (3 : Int)))
theorem qco_l (a0 a1 : Int) (a2 a3 : Bool) (a4 a5 a6 a7 : LL) (a8 : Int) : (qco_c a0 a1 a2 a3 a4 a5 a6 a7 a8) = true → (qco_t a0 a1 a2 a3 a4 a5 a6 a7 a8).val = some (qco_v a0 a1 a2 a3 a4 a5 a6 a7 a8) := by
  intro h
  skip
  unfold qco_t qco_v
  exact (Tr.s rfl rfl)
def qco_S : List Arg → Option (Bool × Res) := fun xs => match xs with
  | [(true, [(.int .i64, TC.i a0), (.int .i64, TC.i a1), (.bool, TC.b a2), (.bool, TC.b a3), (.slice 9, TC.l a4), (.slice 2, TC.l a5), (.slice 71, TC.l a6), (.slice 32, TC.l a7), (.int .i64, TC.i a8)])] => some (true, qco_mk (qco_v a0 a1 a2 a3 a4 a5 a6 a7 a8))
  | _ => .none
theorem qco_e (a0 a1 : Int) (a2 a3 : Bool) (a4 a5 a6 a7 : LL) (a8 : Int) : runF tab FT D57 live 92 noLoops [(true, [(.int .i64, TC.i a0), (.int .i64, TC.i a1), (.bool, TC.b a2), (.bool, TC.b a3), (.slice 9, TC.l a4), (.slice 2, TC.l a5), (.slice 71, TC.l a6), (.slice 32, TC.l a7), (.int .i64, TC.i a8)])] = (qco_t a0 a1 a2 a3 a4 a5 a6 a7 a8).run fun p => some (qco_mk p) := by kernel_rfl
theorem qco_s : ∀ xs r, qco_S xs = some (true, r) → runF tab FT D57 live 92 noLoops xs = some r := by
  intro xs r h
  unfold qco_S at h
  split at h
  · obtain ⟨h1, rfl⟩ := sp h
    exact fun_told (qco_e ..) (qco_l _ _ _ _ _ _ _ _ _) rfl
  · cases h
def D58 : Dt := also D57 92 qco_S
theorem d58 : DOk Go.Proofs.Try.prog tab D58 := d57.also mixed_ok tab_ok names_ok noLoops_ok qco_s
section
class qbg_O where n : Nat
variable [i_impl_convertible : qbg_O]
def qbg_rc (k s : Int) (sg bg : Bool) (NA NU ME BA : LL) (ct k2 s2 : Int) (sg2 bg2 : Bool) (NA2 NU2 ME2 BA2 : LL) (ct2 : Int) : Bool := is (max (rowsDep ME2) (rowsDep BA2) < qbg_O.n ∧ okV k s sg bg NA NU ME BA ct = true ∧ okV k2 s2 sg2 bg2 NA2 NU2 ME2 BA2 ct2 = true ∧ Typed tab (.slice 71) (.l ME) ∧ Typed tab (.slice 32) (.l BA) ∧ Typed tab (.slice 71) (.l ME2) ∧ Typed tab (.slice 32) (.l BA2))
def qbg_rv (k s : Int) (sg bg : Bool) (NA NU ME BA : LL) (ct k2 s2 : Int) (sg2 bg2 : Bool) (NA2 NU2 ME2 BA2 : LL) (ct2 : Int) : Bool := canV k ME BA ct k2 ME2 BA2 ct2
def qbg_rmk (p : Bool) : Res := [(false, [⟨.bool, .sh, TC.b p⟩])]
def qbg_rS : List Arg → Option (Bool × Res) := fun xs => match xs with
  | [(true, [(.int .i64, TC.i k), (.int .i64, TC.i s), (.bool, TC.b sg), (.bool, TC.b bg), (.slice 9, TC.l NA), (.slice 2, TC.l NU), (.slice 71, TC.l ME), (.slice 32, TC.l BA), (.int .i64, TC.i ct)]), (true, [(.int .i64, TC.i k2), (.int .i64, TC.i s2), (.bool, TC.b sg2), (.bool, TC.b bg2), (.slice 9, TC.l NA2), (.slice 2, TC.l NU2), (.slice 71, TC.l ME2), (.slice 32, TC.l BA2), (.int .i64, TC.i ct2)])] => some ((qbg_rc k s sg bg NA NU ME BA ct k2 s2 sg2 bg2 NA2 NU2 ME2 BA2 ct2), qbg_rmk (qbg_rv k s sg bg NA NU ME BA ct k2 s2 sg2 bg2 NA2 NU2 ME2 BA2 ct2))
  | _ => .none
def D59 : Dt := also D58 51 qbg_rS
class qbg_G : Prop where ok : DOk Go.Proofs.Try.prog tab D59
variable [g_impl_convertible : qbg_G]
theorem d59 : DOk Go.Proofs.Try.prog tab D59 := qbg_G.ok
def qcw_t (a0 : BS) (a1 a2 a3 : Int) (a4 a5 : Bool) (a6 a7 a8 a9 : LL) (a10 : Int) (a11 : List TC) : Tr (Bool) := .ok (a0 == (nth a11 0).str)
def qcw_mk (p : Bool) : Res := [(false, [⟨.bool, .sh, TC.b p⟩])]
def qcw_c (a0 : BS) (a1 a2 a3 : Int) (a4 a5 : Bool) (a6 a7 a8 a9 : LL) (a10 : Int) (a11 : List TC) : Bool := true
def qcw_v (a0 : BS) (a1 a2 a3 : Int) (a4 a5 : Bool) (a6 a7 a8 a9 : LL) (a10 : Int) (a11 : List TC) : Bool := (a0 == (nth a11 0).str)
theorem qcw_l (a0 : BS) (a1 a2 a3 : Int) (a4 a5 : Bool) (a6 a7 a8 a9 : LL) (a10 : Int) (a11 : List TC) : (qcw_c a0 a1 a2 a3 a4 a5 a6 a7 a8 a9 a10 a11) = true → (qcw_t a0 a1 a2 a3 a4 a5 a6 a7 a8 a9 a10 a11).val = some (qcw_v a0 a1 a2 a3 a4 a5 a6 a7 a8 a9 a10 a11) := by
  intro h
  skip
  unfold qcw_t qcw_v
  exact rfl
def qcw_S : List Arg → Option (Bool × Res) := fun xs => match xs with
  | [(true, [(.str, TC.s a0), (.int .i64, TC.i a1), (.int .i64, TC.i a2), (.int .i64, TC.i a3), (.bool, TC.b a4), (.bool, TC.b a5), (.slice 9, TC.l a6), (.slice 2, TC.l a7), (.slice 71, TC.l a8), (.slice 32, TC.l a9), (.int .i64, TC.i a10)]), (false, [(.ptr 9, TC.p a11)])] => some (true, qcw_mk (qcw_v a0 a1 a2 a3 a4 a5 a6 a7 a8 a9 a10 a11))
  | _ => .none
theorem qcw_e (a0 : BS) (a1 a2 a3 : Int) (a4 a5 : Bool) (a6 a7 a8 a9 : LL) (a10 : Int) (a11 : List TC) : runF tab FT D59 live 139 noLoops [(true, [(.str, TC.s a0), (.int .i64, TC.i a1), (.int .i64, TC.i a2), (.int .i64, TC.i a3), (.bool, TC.b a4), (.bool, TC.b a5), (.slice 9, TC.l a6), (.slice 2, TC.l a7), (.slice 71, TC.l a8), (.slice 32, TC.l a9), (.int .i64, TC.i a10)]), (false, [(.ptr 9, TC.p a11)])] = (qcw_t a0 a1 a2 a3 a4 a5 a6 a7 a8 a9 a10 a11).run fun p => some (qcw_mk p) := by kernel_rfl
theorem qcw_s : ∀ xs r, qcw_S xs = some (true, r) → runF tab FT D59 live 139 noLoops xs = some r := by
  intro xs r h
  unfold qcw_S at h
  split at h
  · obtain ⟨h1, rfl⟩ := sp h
    exact fun_told (qcw_e ..) (qcw_l _ _ _ _ _ _ _ _ _ _ _ _) rfl
  · cases h
def D60 : Dt := also D59 139 qcw_S
theorem d60 : DOk Go.Proofs.Try.prog tab D60 := d59.also mixed_ok tab_ok names_ok noLoops_ok qcw_s
abbrev qa_2_σ := LL × List TC × Int × Int
abbrev qa_2_ω := (Int) ⊕ (Unit)
def qa_2_step (A : LL) (cap0 : List TC) (m i : Int) : Tr (qa_2_σ ⊕ qa_2_ω) := (.ite ((decide (i < m)) = true) (.ite ((0 : Int) ≤ i ∧ i < (A.length : Int)) (.ite ((qcw_v ((nth (row A i) 0).str) ((nth (row A i) 1).int) ((nth (row A i) 2).int) ((nth (row A i) 3).int) ((nth (row A i) 4).bool) ((nth (row A i) 5).bool) ((nth (row A i) 6).list) ((nth (row A i) 7).list) ((nth (row A i) 8).list) ((nth (row A i) 9).list) ((nth (row A i) 10).int) cap0) = true) (.ok (.inr (.inl i)))
    (.ok (.inl (A, cap0, m, (IntKind.wrap .i64 (i + (1 : Int)))))))
   .no)
  (.ok (.inr (.inr ()))))
def qa_2_st : qa_2_σ → Tr (qa_2_σ ⊕ qa_2_ω) := fun x => (qa_2_step (x.1) (x.2.1) (x.2.2.1) (x.2.2.2))
def qa_k2_1 (A : LL) (cap0 : List TC) (m i : Int) : Bool := A.all (fun x => !(qcw_v ((nth x 0).str) ((nth x 1).int) ((nth x 2).int) ((nth x 3).int) ((nth x 4).bool) ((nth x 5).bool) ((nth x 6).list) ((nth x 7).list) ((nth x 8).list) ((nth x 9).list) ((nth x 10).int) cap0))
def qa_o2_2 (A : LL) (cap0 : List TC) (m i : Int) : Bool := is (i = 0 ∧ Typed tab (.slice 71) (.l A) ∧ m = (A.length : Int))
def qa_o2_3 (A : LL) (cap0 : List TC) (m i : Int) : Bool := is (i = 0 ∧ Typed tab (.slice 71) (.l A) ∧ m = (A.length : Int))
def qa_u2_3 (A : LL) (cap0 : List TC) (m i : Int) : Int := (Int.ofNat (A.findIdx fun x => !(fun x => !(qcw_v ((nth x 0).str) ((nth x 1).int) ((nth x 2).int) ((nth x 3).int) ((nth x 4).bool) ((nth x 5).bool) ((nth x 6).list) ((nth x 7).list) ((nth x 8).list) ((nth x 9).list) ((nth x 10).int) cap0)) x))
def qa_2_fin (A : LL) (cap0 : List TC) (m i : Int) : Told qa_2_ω := (.br (qa_k2_1 A cap0 m i) (.leaf (qa_o2_2 A cap0 m i) (.inr ())) (.leaf (qa_o2_3 A cap0 m i) (.inl (qa_u2_3 A cap0 m i))))
def qa_2_sl (x : qa_2_σ) : List Slot := [⟨.val false [⟨.slice 71, .sh, TC.l (x.1)⟩], ⟨0, 0⟩⟩, ⟨.val false [⟨.func, .sh, TC.f 139 [(9, x.2.1)]⟩], ⟨0, 0⟩⟩, ⟨.val false [⟨.int .i64, .sh, TC.i (x.2.2.1)⟩], ⟨0, 0⟩⟩, ⟨.val false [⟨.int .i64, .sh, TC.i (x.2.2.2)⟩], ⟨0, 0⟩⟩]
def qa_2_out : qa_2_ω → Ex × List Slot := (Sum.elim (fun x => (.ret, [⟨.val false [⟨.int .i64, .sh, TC.i x⟩], ⟨0, 0⟩⟩])) (fun x => (.exit 0, [Slot.none])))
def qa_lo2 : List Slot → Option (Told (Ex × List Slot)) := fun s => match s with
  | [⟨.val false [⟨.slice 71, .sh, TC.l A⟩], ⟨0, 0⟩⟩, ⟨.val false [⟨.func, .sh, TC.f 139 [(9, cap0)]⟩], ⟨0, 0⟩⟩, ⟨.val false [⟨.int .i64, .sh, TC.i m⟩], ⟨0, 0⟩⟩, ⟨.val false [⟨.int .i64, .sh, TC.i i⟩], ⟨0, 0⟩⟩] => some (((qa_2_fin A cap0 m i)).map qa_2_out)
  | _ => .none
def qa_lo : LoopTeller := fun r s => bif Nat.beq r 2 then qa_lo2 s else .none
theorem qa_2_r (A : LL) (cap0 : List TC) (m i : Int) (fuel : Nat) : rounds (rnd tab FT D60 live 138 qa_lo 0 2) leave (fuel + 1) (qa_2_sl (A, cap0, m, i)) = ((qa_2_step A cap0 m i)).run (goOn (fun s => rounds (rnd tab FT D60 live 138 qa_lo 0 2) leave fuel (qa_2_sl s)) fun w => some (qa_2_out w)) := by kernel_rfl
theorem qa_2_h (A : LL) (cap0 : List TC) (m i : Int) (ow : qa_2_ω) : ((qa_2_fin A cap0 m i)).val = some ow → ∃ fuel, loopN qa_2_st fuel (A, cap0, m, i) = some ow := by
  intro h
  have key : Typed tab (.slice 71) (.l A) → loopN qa_2_st (A.length + 1) (A, cap0, (A.length : Int), (0 : Int)) = some (if A.all (fun x => !(qcw_v ((nth x 0).str) ((nth x 1).int) ((nth x 2).int) ((nth x 3).int) ((nth x 4).bool) ((nth x 5).bool) ((nth x 6).list) ((nth x 7).list) ((nth x 8).list) ((nth x 9).list) ((nth x 10).int) cap0)) = true then (.inr ()) else (.inl (Int.ofNat (A.findIdx fun x => !(fun x => !(qcw_v ((nth x 0).str) ((nth x 1).int) ((nth x 2).int) ((nth x 3).int) ((nth x 4).bool) ((nth x 5).bool) ((nth x 6).list) ((nth x 7).list) ((nth x 8).list) ((nth x 9).list) ((nth x 10).int) cap0)) x)))) := by
    intro ht
    have hlen : A.length ≤ 140737488351232 := by have := typed_room ht; simp only [show (tab 71).bytes = 152 from rfl] at this; omega
    have key := loopN_scan (step := qa_2_st) A [] (fun x => !(qcw_v ((nth x 0).str) ((nth x 1).int) ((nth x 2).int) ((nth x 3).int) ((nth x 4).bool) ((nth x 5).bool) ((nth x 6).list) ((nth x 7).list) ((nth x 8).list) ((nth x 9).list) ((nth x 10).int) cap0)) (fun a _ => a) (fun i a => (A, cap0, (A.length : Int), (i : Int))) (fun a => (.inr ())) (fun i a => (.inl (i : Int))) (fun i a hi => ?_) (fun a => ?_) A.length 0 () (by omega)
    · first | (rw [Nat.zero_add] at key; exact key) | exact key
    · have c0 : Typed tab (.str) (.s (nth (A.getD i []) 0).str) := typed_s (typed_cell ht (A.getD i []) (mem_getD hi) 0 (by decide))
      have c6 : Typed tab (.slice 9) (.l (nth (A.getD i []) 6).list) := typed_list (typed_cell ht (A.getD i []) (mem_getD hi) 6 (by decide))
      have c7 : Typed tab (.slice 2) (.l (nth (A.getD i []) 7).list) := typed_list (typed_cell ht (A.getD i []) (mem_getD hi) 7 (by decide))
      have c8 : Typed tab (.slice 71) (.l (nth (A.getD i []) 8).list) := typed_list (typed_cell ht (A.getD i []) (mem_getD hi) 8 (by decide))
      have c9 : Typed tab (.slice 32) (.l (nth (A.getD i []) 9).list) := typed_list (typed_cell ht (A.getD i []) (mem_getD hi) 9 (by decide))
      show (qa_2_step A cap0 (A.length : Int) (i : Int)).val = _
      unfold qa_2_step
      refine Tr.t (by simp; omega) ?_
      skip
      refine Tr.t (by first | omega | (constructor <;> omega)) ?_
      refine Tr.b2 (fun hP => ?_) (fun _ => rfl)
      rw [Tr.val_ok, wrap64 (i := (i : Int) + 1) (by omega) (by omega)]; rfl
    · show (qa_2_step A cap0 (A.length : Int) (A.length : Int)).val = _
      refine Tr.n (by simp) ?_
      rfl
  simp only [qa_2_fin, Told.val] at h
  cases hk : A.all (fun x => !(qcw_v ((nth x 0).str) ((nth x 1).int) ((nth x 2).int) ((nth x 3).int) ((nth x 4).bool) ((nth x 5).bool) ((nth x 6).list) ((nth x 7).list) ((nth x 8).list) ((nth x 9).list) ((nth x 10).int) cap0)) with
  | true =>
    rw [if_pos (show qa_k2_1 A cap0 m i = true from hk)] at h
    split at h
    · rename_i ho
      obtain ⟨rfl, ht, rfl⟩ := is_iff.1 ho
      cases h
      refine ⟨_, (key ht).trans ?_⟩
      rw [hk]; rfl
    · cases h
  | false =>
    rw [if_neg (show ¬qa_k2_1 A cap0 m i = true from by rw [show qa_k2_1 A cap0 m i = (A.all (fun x => !(qcw_v ((nth x 0).str) ((nth x 1).int) ((nth x 2).int) ((nth x 3).int) ((nth x 4).bool) ((nth x 5).bool) ((nth x 6).list) ((nth x 7).list) ((nth x 8).list) ((nth x 9).list) ((nth x 10).int) cap0))) from rfl, hk]; simp)] at h
    split at h
    · rename_i ho
      obtain ⟨rfl, ht, rfl⟩ := is_iff.1 ho
      cases h
      refine ⟨_, (key ht).trans ?_⟩
      rw [hk]; rfl
    · cases h
theorem qa_is2 : LoopIs tab FT D60 live 138 qa_lo 0 2 := by
  refine loop_told (sl := qa_2_sl) (step := qa_2_st) (out := qa_2_out) (lor := qa_lo2) (fin := fun x => (qa_2_fin (x.1) (x.2.1) (x.2.2.1) (x.2.2.2))) (fun _ => rfl) ?_ (fun x n => qa_2_r x.1 x.2.1 x.2.2.1 x.2.2.2 n) (fun x ow => qa_2_h x.1 x.2.1 x.2.2.1 x.2.2.2 ow)
  intro s t h
  unfold qa_lo2 at h
  split at h
  · cases h; exact ⟨(_, _, _, _), rfl, rfl⟩
  · cases h
def qa_t (A : LL) (cap0 : List TC) : Tr (Int) := (.ite ((qa_k2_1 A cap0 (A.length : Int) (0 : Int)) = true) (.ite ((qa_o2_2 A cap0 (A.length : Int) (0 : Int)) = true) (.ok (-1 : Int))
   .no)
  (.ite ((qa_o2_3 A cap0 (A.length : Int) (0 : Int)) = true) (.ok (qa_u2_3 A cap0 (A.length : Int) (0 : Int)))
   .no))
def qa_mk (p : Int) : Res := [(false, [⟨.int .i64, .sh, TC.i p⟩])]
def qa_c (A : LL) (cap0 : List TC) : Bool := is (Typed tab (.slice 71) (.l A))
def qa_v (A : LL) (cap0 : List TC) : Int := if (A.all (fun x => !(qcw_v ((nth x 0).str) ((nth x 1).int) ((nth x 2).int) ((nth x 3).int) ((nth x 4).bool) ((nth x 5).bool) ((nth x 6).list) ((nth x 7).list) ((nth x 8).list) ((nth x 9).list) ((nth x 10).int) cap0))) = true then -1 else (Int.ofNat (A.findIdx fun x => !(fun x => !(qcw_v ((nth x 0).str) ((nth x 1).int) ((nth x 2).int) ((nth x 3).int) ((nth x 4).bool) ((nth x 5).bool) ((nth x 6).list) ((nth x 7).list) ((nth x 8).list) ((nth x 9).list) ((nth x 10).int) cap0)) x))
theorem qa_l (A : LL) (cap0 : List TC) : (qa_c A cap0) = true → (qa_t A cap0).val = some (qa_v A cap0) := by
  intro h
  have ht := is_iff.1 h
  unfold qa_t
  cases hk : A.all (fun x => !(qcw_v ((nth x 0).str) ((nth x 1).int) ((nth x 2).int) ((nth x 3).int) ((nth x 4).bool) ((nth x 5).bool) ((nth x 6).list) ((nth x 7).list) ((nth x 8).list) ((nth x 9).list) ((nth x 10).int) cap0)) with
  | true =>
    refine Tr.t (show A.all (fun x => !(qcw_v ((nth x 0).str) ((nth x 1).int) ((nth x 2).int) ((nth x 3).int) ((nth x 4).bool) ((nth x 5).bool) ((nth x 6).list) ((nth x 7).list) ((nth x 8).list) ((nth x 9).list) ((nth x 10).int) cap0)) = true from hk) ?_
    refine Tr.t (is_true ⟨rfl, ht, rfl⟩) ?_
    show _ = some (qa_v A cap0); unfold qa_v; rw [if_pos hk]; rfl
  | false =>
    refine Tr.n (show ¬A.all (fun x => !(qcw_v ((nth x 0).str) ((nth x 1).int) ((nth x 2).int) ((nth x 3).int) ((nth x 4).bool) ((nth x 5).bool) ((nth x 6).list) ((nth x 7).list) ((nth x 8).list) ((nth x 9).list) ((nth x 10).int) cap0)) = true from by rw [hk]; simp) ?_
    refine Tr.t (is_true ⟨rfl, ht, rfl⟩) ?_
    show _ = some (qa_v A cap0); unfold qa_v; rw [if_neg (by rw [hk]; simp)]; rfl
def qa_S : List Arg → Option (Bool × Res) := fun xs => match xs with
  | [(false, [(.slice 71, TC.l A)]), (false, [(.func, TC.f 139 [(9, cap0)])])] => some ((qa_c A cap0), qa_mk (qa_v A cap0))
  | _ => .none
theorem qa_e (A : LL) (cap0 : List TC) : runF tab FT D60 live 138 qa_lo [(false, [(.slice 71, TC.l A)]), (false, [(.func, TC.f 139 [(9, cap0)])])] = (qa_t A cap0).run fun p => some (qa_mk p) := by kernel_rfl
theorem qa_s : ∀ xs r, qa_S xs = some (true, r) → runF tab FT D60 live 138 qa_lo xs = some r := by
  intro xs r h
  unfold qa_S at h
  split at h
  · obtain ⟨h1, rfl⟩ := sp h
    exact fun_told (qa_e ..) (qa_l _ _) h1
  · cases h
def D61 : Dt := also D60 138 qa_S
theorem d61 : DOk Go.Proofs.Try.prog tab D61 := d60.also mixed_ok tab_ok names_ok (fnLoops_one (by kernel_rfl) qa_is2) qa_s
def qs_t (k s : Int) (sg bg : Bool) (NA NU ME BA : LL) (ct : Int) (nm : BS) : Tr (BS × Int × Int × Int × Bool × Bool × LL × LL × LL × LL × Int × Bool) := (.ite ((qa_c ME [TC.s nm]) = true) (.ite ((decide ((qa_v ME [TC.s nm]) < (0 : Int))) = true) (.ok ([], (0 : Int), (0 : Int), (0 : Int), false, false, [], [], [], [], (0 : Int), false))
   (.ite ((0 : Int) ≤ (qa_v ME [TC.s nm]) ∧ (qa_v ME [TC.s nm]) < (ME.length : Int)) (.ok ((nth (row ME (qa_v ME [TC.s nm])) 0).str, (nth (row ME (qa_v ME [TC.s nm])) 1).int, (nth (row ME (qa_v ME [TC.s nm])) 2).int, (nth (row ME (qa_v ME [TC.s nm])) 3).int, (nth (row ME (qa_v ME [TC.s nm])) 4).bool, (nth (row ME (qa_v ME [TC.s nm])) 5).bool, (nth (row ME (qa_v ME [TC.s nm])) 6).list, (nth (row ME (qa_v ME [TC.s nm])) 7).list, (nth (row ME (qa_v ME [TC.s nm])) 8).list, (nth (row ME (qa_v ME [TC.s nm])) 9).list, (nth (row ME (qa_v ME [TC.s nm])) 10).int, true))
    .no))
  .no)
def qs_mk (p : BS × Int × Int × Int × Bool × Bool × LL × LL × LL × LL × Int × Bool) : Res := [(true, [⟨.str, .sh, TC.s (p.1)⟩, ⟨.int .i64, .sh, TC.i (p.2.1)⟩, ⟨.int .i64, .sh, TC.i (p.2.2.1)⟩, ⟨.int .i64, .sh, TC.i (p.2.2.2.1)⟩, ⟨.bool, .sh, TC.b (p.2.2.2.2.1)⟩, ⟨.bool, .sh, TC.b (p.2.2.2.2.2.1)⟩, ⟨.slice 9, .sh, TC.l (p.2.2.2.2.2.2.1)⟩, ⟨.slice 2, .sh, TC.l (p.2.2.2.2.2.2.2.1)⟩, ⟨.slice 71, .sh, TC.l (p.2.2.2.2.2.2.2.2.1)⟩, ⟨.slice 32, .sh, TC.l (p.2.2.2.2.2.2.2.2.2.1)⟩, ⟨.int .i64, .sh, TC.i (p.2.2.2.2.2.2.2.2.2.2.1)⟩]), (false, [⟨.bool, .sh, TC.b (p.2.2.2.2.2.2.2.2.2.2.2)⟩])]
def qs_c (k s : Int) (sg bg : Bool) (NA NU ME BA : LL) (ct : Int) (nm : BS) : Bool := ((qa_c ME [TC.s nm]) && (bif (decide ((qa_v ME [TC.s nm]) < (0 : Int))) then true else (is ((0 : Int) ≤ (qa_v ME [TC.s nm]) ∧ (qa_v ME [TC.s nm]) < (ME.length : Int)) && true)))
def qs_v (k s : Int) (sg bg : Bool) (NA NU ME BA : LL) (ct : Int) (nm : BS) : BS × Int × Int × Int × Bool × Bool × LL × LL × LL × LL × Int × Bool := (bif (decide ((qa_v ME [TC.s nm]) < (0 : Int))) then ([], (0 : Int), (0 : Int), (0 : Int), false, false, [], [], [], [], (0 : Int), false) else ((nth (row ME (qa_v ME [TC.s nm])) 0).str, (nth (row ME (qa_v ME [TC.s nm])) 1).int, (nth (row ME (qa_v ME [TC.s nm])) 2).int, (nth (row ME (qa_v ME [TC.s nm])) 3).int, (nth (row ME (qa_v ME [TC.s nm])) 4).bool, (nth (row ME (qa_v ME [TC.s nm])) 5).bool, (nth (row ME (qa_v ME [TC.s nm])) 6).list, (nth (row ME (qa_v ME [TC.s nm])) 7).list, (nth (row ME (qa_v ME [TC.s nm])) 8).list, (nth (row ME (qa_v ME [TC.s nm])) 9).list, (nth (row ME (qa_v ME [TC.s nm])) 10).int, true))
theorem qs_l (k s : Int) (sg bg : Bool) (NA NU ME BA : LL) (ct : Int) (nm : BS) : (qs_c k s sg bg NA NU ME BA ct nm) = true → (qs_t k s sg bg NA NU ME BA ct nm).val = some (qs_v k s sg bg NA NU ME BA ct nm) := by
  unfold qs_t qs_v qs_c
  exact fun h => (Tr.gb h fun h => (Tr.ss h (fun h => rfl) (fun h => (Tr.gs h fun h => rfl))))
def qs_S : List Arg → Option (Bool × Res) := fun xs => match xs with
  | [(true, [(.int .i64, TC.i k), (.int .i64, TC.i s), (.bool, TC.b sg), (.bool, TC.b bg), (.slice 9, TC.l NA), (.slice 2, TC.l NU), (.slice 71, TC.l ME), (.slice 32, TC.l BA), (.int .i64, TC.i ct)]), (false, [(.str, TC.s nm)])] => some ((qs_c k s sg bg NA NU ME BA ct nm), qs_mk (qs_v k s sg bg NA NU ME BA ct nm))
  | _ => .none
theorem qs_e (k s : Int) (sg bg : Bool) (NA NU ME BA : LL) (ct : Int) (nm : BS) : runF tab FT D61 live 112 noLoops [(true, [(.int .i64, TC.i k), (.int .i64, TC.i s), (.bool, TC.b sg), (.bool, TC.b bg), (.slice 9, TC.l NA), (.slice 2, TC.l NU), (.slice 71, TC.l ME), (.slice 32, TC.l BA), (.int .i64, TC.i ct)]), (false, [(.str, TC.s nm)])] = (qs_t k s sg bg NA NU ME BA ct nm).run fun p => some (qs_mk p) := by kernel_rfl
theorem qs_s : ∀ xs r, qs_S xs = some (true, r) → runF tab FT D61 live 112 noLoops xs = some r := by
  intro xs r h
  unfold qs_S at h
  split at h
  · obtain ⟨h1, rfl⟩ := sp h
    exact fun_told (qs_e ..) (qs_l _ _ _ _ _ _ _ _ _ _) h1
  · cases h
def D62 : Dt := also D61 112 qs_S
theorem d62 : DOk Go.Proofs.Try.prog tab D62 := d61.also mixed_ok tab_ok names_ok noLoops_ok qs_s
theorem mem_ix {ME : LL} {nm : BS} : qa_v ME [TC.s nm] = bif memNo ME nm then -1 else ((memIx ME nm : Nat) : Int) := by
  show (if memNo ME nm = true then (-1 : Int) else ((memIx ME nm : Nat) : Int)) = _
  cases memNo ME nm <;> rfl
theorem qs_cc {k s : Int} {sg bg : Bool} {NA NU ME BA : LL} {ct : Int} {nm : BS} (tM : Typed tab (.slice 71) (.l ME)) : qs_c k s sg bg NA NU ME BA ct nm = true := by
  unfold qs_c
  rw [mem_ix]
  refine andT (is_true tM) ?_
  cases hm : memNo ME nm with
  | true => rfl
  | false =>
    have := memIx_lt hm
    rw [show (bif false then (-1 : Int) else ((memIx ME nm : Nat) : Int)) = ((memIx ME nm : Nat) : Int) from rfl, decide_eq_false (show ¬ ((memIx ME nm : Nat) : Int) < 0 by omega)]
    exact andT (is_true ⟨by omega, by omega⟩) rfl
theorem member_no {k s : Int} {sg bg : Bool} {NA NU ME BA : LL} {ct : Int} {nm : BS} (h : memNo ME nm = true) : (qs_v k s sg bg NA NU ME BA ct nm).2.2.2.2.2.2.2.2.2.2.2 = false := by
  unfold qs_v
  rw [mem_ix, h]; rfl
theorem member_yes {k s : Int} {sg bg : Bool} {NA NU ME BA : LL} {ct : Int} {nm : BS} (h : memNo ME nm = false) : qs_v k s sg bg NA NU ME BA ct nm = ((nth (row ME ((memIx ME nm : Nat) : Int)) 0).str, (nth (row ME ((memIx ME nm : Nat) : Int)) 1).int, (nth (row ME ((memIx ME nm : Nat) : Int)) 2).int, (nth (row ME ((memIx ME nm : Nat) : Int)) 3).int, (nth (row ME ((memIx ME nm : Nat) : Int)) 4).bool, (nth (row ME ((memIx ME nm : Nat) : Int)) 5).bool, (nth (row ME ((memIx ME nm : Nat) : Int)) 6).list, (nth (row ME ((memIx ME nm : Nat) : Int)) 7).list, (nth (row ME ((memIx ME nm : Nat) : Int)) 8).list, (nth (row ME ((memIx ME nm : Nat) : Int)) 9).list, (nth (row ME ((memIx ME nm : Nat) : Int)) 10).int, true) := by
  unfold qs_v
  rw [mem_ix, h, show (bif false then (-1 : Int) else ((memIx ME nm : Nat) : Int)) = ((memIx ME nm : Nat) : Int) from rfl, decide_eq_false (show ¬ ((memIx ME nm : Nat) : Int) < 0 by omega)]
  rfl
def qbt_t (a0 : BS) (a1 a2 a3 : Int) (a4 a5 : Bool) (a6 a7 a8 a9 : LL) (a10 : Int) (a11 : List TC) : Tr (Bool) := (.ite ((qs_c ((nth a11 0).int) ((nth a11 1).int) ((nth a11 2).bool) ((nth a11 3).bool) ((nth a11 4).list) ((nth a11 5).list) ((nth a11 6).list) ((nth a11 7).list) ((nth a11 8).int) a0) = true) (.ite ((qs_v ((nth a11 0).int) ((nth a11 1).int) ((nth a11 2).bool) ((nth a11 3).bool) ((nth a11 4).list) ((nth a11 5).list) ((nth a11 6).list) ((nth a11 7).list) ((nth a11 8).int) a0).2.2.2.2.2.2.2.2.2.2.2 = true) (.ite ((qbg_rc ((qs_v ((nth a11 0).int) ((nth a11 1).int) ((nth a11 2).bool) ((nth a11 3).bool) ((nth a11 4).list) ((nth a11 5).list) ((nth a11 6).list) ((nth a11 7).list) ((nth a11 8).int) a0).2.2.1) ((qs_v ((nth a11 0).int) ((nth a11 1).int) ((nth a11 2).bool) ((nth a11 3).bool) ((nth a11 4).list) ((nth a11 5).list) ((nth a11 6).list) ((nth a11 7).list) ((nth a11 8).int) a0).2.2.2.1) ((qs_v ((nth a11 0).int) ((nth a11 1).int) ((nth a11 2).bool) ((nth a11 3).bool) ((nth a11 4).list) ((nth a11 5).list) ((nth a11 6).list) ((nth a11 7).list) ((nth a11 8).int) a0).2.2.2.2.1) ((qs_v ((nth a11 0).int) ((nth a11 1).int) ((nth a11 2).bool) ((nth a11 3).bool) ((nth a11 4).list) ((nth a11 5).list) ((nth a11 6).list) ((nth a11 7).list) ((nth a11 8).int) a0).2.2.2.2.2.1) ((qs_v ((nth a11 0).int) ((nth a11 1).int) ((nth a11 2).bool) ((nth a11 3).bool) ((nth a11 4).list) ((nth a11 5).list) ((nth a11 6).list) ((nth a11 7).list) ((nth a11 8).int) a0).2.2.2.2.2.2.1) ((qs_v ((nth a11 0).int) ((nth a11 1).int) ((nth a11 2).bool) ((nth a11 3).bool) ((nth a11 4).list) ((nth a11 5).list) ((nth a11 6).list) ((nth a11 7).list) ((nth a11 8).int) a0).2.2.2.2.2.2.2.1) ((qs_v ((nth a11 0).int) ((nth a11 1).int) ((nth a11 2).bool) ((nth a11 3).bool) ((nth a11 4).list) ((nth a11 5).list) ((nth a11 6).list) ((nth a11 7).list) ((nth a11 8).int) a0).2.2.2.2.2.2.2.2.1) ((qs_v ((nth a11 0).int) ((nth a11 1).int) ((nth a11 2).bool) ((nth a11 3).bool) ((nth a11 4).list) ((nth a11 5).list) ((nth a11 6).list) ((nth a11 7).list) ((nth a11 8).int) a0).2.2.2.2.2.2.2.2.2.1) ((qs_v ((nth a11 0).int) ((nth a11 1).int) ((nth a11 2).bool) ((nth a11 3).bool) ((nth a11 4).list) ((nth a11 5).list) ((nth a11 6).list) ((nth a11 7).list) ((nth a11 8).int) a0).2.2.2.2.2.2.2.2.2.2.1) a2 a3 a4 a5 a6 a7 a8 a9 a10) = true) (.ok (!(qbg_rv ((qs_v ((nth a11 0).int) ((nth a11 1).int) ((nth a11 2).bool) ((nth a11 3).bool) ((nth a11 4).list) ((nth a11 5).list) ((nth a11 6).list) ((nth a11 7).list) ((nth a11 8).int) a0).2.2.1) ((qs_v ((nth a11 0).int) ((nth a11 1).int) ((nth a11 2).bool) ((nth a11 3).bool) ((nth a11 4).list) ((nth a11 5).list) ((nth a11 6).list) ((nth a11 7).list) ((nth a11 8).int) a0).2.2.2.1) ((qs_v ((nth a11 0).int) ((nth a11 1).int) ((nth a11 2).bool) ((nth a11 3).bool) ((nth a11 4).list) ((nth a11 5).list) ((nth a11 6).list) ((nth a11 7).list) ((nth a11 8).int) a0).2.2.2.2.1) ((qs_v ((nth a11 0).int) ((nth a11 1).int) ((nth a11 2).bool) ((nth a11 3).bool) ((nth a11 4).list) ((nth a11 5).list) ((nth a11 6).list) ((nth a11 7).list) ((nth a11 8).int) a0).2.2.2.2.2.1) ((qs_v ((nth a11 0).int) ((nth a11 1).int) ((nth a11 2).bool) ((nth a11 3).bool) ((nth a11 4).list) ((nth a11 5).list) ((nth a11 6).list) ((nth a11 7).list) ((nth a11 8).int) a0).2.2.2.2.2.2.1) ((qs_v ((nth a11 0).int) ((nth a11 1).int) ((nth a11 2).bool) ((nth a11 3).bool) ((nth a11 4).list) ((nth a11 5).list) ((nth a11 6).list) ((nth a11 7).list) ((nth a11 8).int) a0).2.2.2.2.2.2.2.1) ((qs_v ((nth a11 0).int) ((nth a11 1).int) ((nth a11 2).bool) ((nth a11 3).bool) ((nth a11 4).list) ((nth a11 5).list) ((nth a11 6).list) ((nth a11 7).list) ((nth a11 8).int) a0).2.2.2.2.2.2.2.2.1) ((qs_v ((nth a11 0).int) ((nth a11 1).int) ((nth a11 2).bool) ((nth a11 3).bool) ((nth a11 4).list) ((nth a11 5).list) ((nth a11 6).list) ((nth a11 7).list) ((nth a11 8).int) a0).2.2.2.2.2.2.2.2.2.1) ((qs_v ((nth a11 0).int) ((nth a11 1).int) ((nth a11 2).bool) ((nth a11 3).bool) ((nth a11 4).list) ((nth a11 5).list) ((nth a11 6).list) ((nth a11 7).list) ((nth a11 8).int) a0).2.2.2.2.2.2.2.2.2.2.1) a2 a3 a4 a5 a6 a7 a8 a9 a10)))
    .no)
   (.ok false))
  .no)
def qbt_mk (p : Bool) : Res := [(false, [⟨.bool, .sh, TC.b p⟩])]
def qbt_c (a0 : BS) (a1 a2 a3 : Int) (a4 a5 : Bool) (a6 a7 a8 a9 : LL) (a10 : Int) (a11 : List TC) : Bool := ((qs_c ((nth a11 0).int) ((nth a11 1).int) ((nth a11 2).bool) ((nth a11 3).bool) ((nth a11 4).list) ((nth a11 5).list) ((nth a11 6).list) ((nth a11 7).list) ((nth a11 8).int) a0) && (bif (qs_v ((nth a11 0).int) ((nth a11 1).int) ((nth a11 2).bool) ((nth a11 3).bool) ((nth a11 4).list) ((nth a11 5).list) ((nth a11 6).list) ((nth a11 7).list) ((nth a11 8).int) a0).2.2.2.2.2.2.2.2.2.2.2 then ((qbg_rc ((qs_v ((nth a11 0).int) ((nth a11 1).int) ((nth a11 2).bool) ((nth a11 3).bool) ((nth a11 4).list) ((nth a11 5).list) ((nth a11 6).list) ((nth a11 7).list) ((nth a11 8).int) a0).2.2.1) ((qs_v ((nth a11 0).int) ((nth a11 1).int) ((nth a11 2).bool) ((nth a11 3).bool) ((nth a11 4).list) ((nth a11 5).list) ((nth a11 6).list) ((nth a11 7).list) ((nth a11 8).int) a0).2.2.2.1) ((qs_v ((nth a11 0).int) ((nth a11 1).int) ((nth a11 2).bool) ((nth a11 3).bool) ((nth a11 4).list) ((nth a11 5).list) ((nth a11 6).list) ((nth a11 7).list) ((nth a11 8).int) a0).2.2.2.2.1) ((qs_v ((nth a11 0).int) ((nth a11 1).int) ((nth a11 2).bool) ((nth a11 3).bool) ((nth a11 4).list) ((nth a11 5).list) ((nth a11 6).list) ((nth a11 7).list) ((nth a11 8).int) a0).2.2.2.2.2.1) ((qs_v ((nth a11 0).int) ((nth a11 1).int) ((nth a11 2).bool) ((nth a11 3).bool) ((nth a11 4).list) ((nth a11 5).list) ((nth a11 6).list) ((nth a11 7).list) ((nth a11 8).int) a0).2.2.2.2.2.2.1) ((qs_v ((nth a11 0).int) ((nth a11 1).int) ((nth a11 2).bool) ((nth a11 3).bool) ((nth a11 4).list) ((nth a11 5).list) ((nth a11 6).list) ((nth a11 7).list) ((nth a11 8).int) a0).2.2.2.2.2.2.2.1) ((qs_v ((nth a11 0).int) ((nth a11 1).int) ((nth a11 2).bool) ((nth a11 3).bool) ((nth a11 4).list) ((nth a11 5).list) ((nth a11 6).list) ((nth a11 7).list) ((nth a11 8).int) a0).2.2.2.2.2.2.2.2.1) ((qs_v ((nth a11 0).int) ((nth a11 1).int) ((nth a11 2).bool) ((nth a11 3).bool) ((nth a11 4).list) ((nth a11 5).list) ((nth a11 6).list) ((nth a11 7).list) ((nth a11 8).int) a0).2.2.2.2.2.2.2.2.2.1) ((qs_v ((nth a11 0).int) ((nth a11 1).int) ((nth a11 2).bool) ((nth a11 3).bool) ((nth a11 4).list) ((nth a11 5).list) ((nth a11 6).list) ((nth a11 7).list) ((nth a11 8).int) a0).2.2.2.2.2.2.2.2.2.2.1) a2 a3 a4 a5 a6 a7 a8 a9 a10) && true) else true))
def qbt_v (a0 : BS) (a1 a2 a3 : Int) (a4 a5 : Bool) (a6 a7 a8 a9 : LL) (a10 : Int) (a11 : List TC) : Bool := (bif (qs_v ((nth a11 0).int) ((nth a11 1).int) ((nth a11 2).bool) ((nth a11 3).bool) ((nth a11 4).list) ((nth a11 5).list) ((nth a11 6).list) ((nth a11 7).list) ((nth a11 8).int) a0).2.2.2.2.2.2.2.2.2.2.2 then (!(qbg_rv ((qs_v ((nth a11 0).int) ((nth a11 1).int) ((nth a11 2).bool) ((nth a11 3).bool) ((nth a11 4).list) ((nth a11 5).list) ((nth a11 6).list) ((nth a11 7).list) ((nth a11 8).int) a0).2.2.1) ((qs_v ((nth a11 0).int) ((nth a11 1).int) ((nth a11 2).bool) ((nth a11 3).bool) ((nth a11 4).list) ((nth a11 5).list) ((nth a11 6).list) ((nth a11 7).list) ((nth a11 8).int) a0).2.2.2.1) ((qs_v ((nth a11 0).int) ((nth a11 1).int) ((nth a11 2).bool) ((nth a11 3).bool) ((nth a11 4).list) ((nth a11 5).list) ((nth a11 6).list) ((nth a11 7).list) ((nth a11 8).int) a0).2.2.2.2.1) ((qs_v ((nth a11 0).int) ((nth a11 1).int) ((nth a11 2).bool) ((nth a11 3).bool) ((nth a11 4).list) ((nth a11 5).list) ((nth a11 6).list) ((nth a11 7).list) ((nth a11 8).int) a0).2.2.2.2.2.1) ((qs_v ((nth a11 0).int) ((nth a11 1).int) ((nth a11 2).bool) ((nth a11 3).bool) ((nth a11 4).list) ((nth a11 5).list) ((nth a11 6).list) ((nth a11 7).list) ((nth a11 8).int) a0).2.2.2.2.2.2.1) ((qs_v ((nth a11 0).int) ((nth a11 1).int) ((nth a11 2).bool) ((nth a11 3).bool) ((nth a11 4).list) ((nth a11 5).list) ((nth a11 6).list) ((nth a11 7).list) ((nth a11 8).int) a0).2.2.2.2.2.2.2.1) ((qs_v ((nth a11 0).int) ((nth a11 1).int) ((nth a11 2).bool) ((nth a11 3).bool) ((nth a11 4).list) ((nth a11 5).list) ((nth a11 6).list) ((nth a11 7).list) ((nth a11 8).int) a0).2.2.2.2.2.2.2.2.1) ((qs_v ((nth a11 0).int) ((nth a11 1).int) ((nth a11 2).bool) ((nth a11 3).bool) ((nth a11 4).list) ((nth a11 5).list) ((nth a11 6).list) ((nth a11 7).list) ((nth a11 8).int) a0).2.2.2.2.2.2.2.2.2.1) ((qs_v ((nth a11 0).int) ((nth a11 1).int) ((nth a11 2).bool) ((nth a11 3).bool) ((nth a11 4).list) ((nth a11 5).list) ((nth a11 6).list) ((nth a11 7).list) ((nth a11 8).int) a0).2.2.2.2.2.2.2.2.2.2.1) a2 a3 a4 a5 a6 a7 a8 a9 a10)) else false)
theorem qbt_l (a0 : BS) (a1 a2 a3 : Int) (a4 a5 : Bool) (a6 a7 a8 a9 : LL) (a10 : Int) (a11 : List TC) : (qbt_c a0 a1 a2 a3 a4 a5 a6 a7 a8 a9 a10 a11) = true → (qbt_t a0 a1 a2 a3 a4 a5 a6 a7 a8 a9 a10 a11).val = some (qbt_v a0 a1 a2 a3 a4 a5 a6 a7 a8 a9 a10 a11) := by
  unfold qbt_t qbt_v qbt_c
  exact fun h => (Tr.gb h fun h => (Tr.ss h (fun h => (Tr.gb h fun h => rfl)) (fun h => rfl)))
def qbt_S : List Arg → Option (Bool × Res) := fun xs => match xs with
  | [(true, [(.str, TC.s a0), (.int .i64, TC.i a1), (.int .i64, TC.i a2), (.int .i64, TC.i a3), (.bool, TC.b a4), (.bool, TC.b a5), (.slice 9, TC.l a6), (.slice 2, TC.l a7), (.slice 71, TC.l a8), (.slice 32, TC.l a9), (.int .i64, TC.i a10)]), (false, [(.ptr 32, TC.p a11)]), (false, [(.ptr 35, TC.p [TC.f 51 []])])] => some ((qbt_c a0 a1 a2 a3 a4 a5 a6 a7 a8 a9 a10 a11), qbt_mk (qbt_v a0 a1 a2 a3 a4 a5 a6 a7 a8 a9 a10 a11))
  | _ => .none
theorem qbt_e (a0 : BS) (a1 a2 a3 : Int) (a4 a5 : Bool) (a6 a7 a8 a9 : LL) (a10 : Int) (a11 : List TC) : runF tab FT D62 live 111 noLoops [(true, [(.str, TC.s a0), (.int .i64, TC.i a1), (.int .i64, TC.i a2), (.int .i64, TC.i a3), (.bool, TC.b a4), (.bool, TC.b a5), (.slice 9, TC.l a6), (.slice 2, TC.l a7), (.slice 71, TC.l a8), (.slice 32, TC.l a9), (.int .i64, TC.i a10)]), (false, [(.ptr 32, TC.p a11)]), (false, [(.ptr 35, TC.p [TC.f 51 []])])] = (qbt_t a0 a1 a2 a3 a4 a5 a6 a7 a8 a9 a10 a11).run fun p => some (qbt_mk p) := by kernel_rfl
theorem qbt_s : ∀ xs r, qbt_S xs = some (true, r) → runF tab FT D62 live 111 noLoops xs = some r := by
  intro xs r h
  unfold qbt_S at h
  split at h
  · obtain ⟨h1, rfl⟩ := sp h
    exact fun_told (qbt_e ..) (qbt_l _ _ _ _ _ _ _ _ _ _ _ _) h1
  · cases h
def D63 : Dt := also D62 111 qbt_S
theorem d63 : DOk Go.Proofs.Try.prog tab D63 := d62.also mixed_ok tab_ok names_ok noLoops_ok qbt_s
abbrev qe_2_σ := LL × List TC × Int × Int
abbrev qe_2_ω := (Int) ⊕ (Unit)
def qe_2_step (A : LL) (cap0 : List TC) (m i : Int) : Tr (qe_2_σ ⊕ qe_2_ω) := (.ite ((decide (i < m)) = true) (.ite ((0 : Int) ≤ i ∧ i < (A.length : Int)) (.ite ((qbt_c ((nth (row A i) 0).str) ((nth (row A i) 1).int) ((nth (row A i) 2).int) ((nth (row A i) 3).int) ((nth (row A i) 4).bool) ((nth (row A i) 5).bool) ((nth (row A i) 6).list) ((nth (row A i) 7).list) ((nth (row A i) 8).list) ((nth (row A i) 9).list) ((nth (row A i) 10).int) cap0) = true) (.ite ((qbt_v ((nth (row A i) 0).str) ((nth (row A i) 1).int) ((nth (row A i) 2).int) ((nth (row A i) 3).int) ((nth (row A i) 4).bool) ((nth (row A i) 5).bool) ((nth (row A i) 6).list) ((nth (row A i) 7).list) ((nth (row A i) 8).list) ((nth (row A i) 9).list) ((nth (row A i) 10).int) cap0) = true) (.ok (.inr (.inl i)))
     (.ok (.inl (A, cap0, m, (IntKind.wrap .i64 (i + (1 : Int)))))))
    .no)
   .no)
  (.ok (.inr (.inr ()))))
def qe_2_st : qe_2_σ → Tr (qe_2_σ ⊕ qe_2_ω) := fun x => (qe_2_step (x.1) (x.2.1) (x.2.2.1) (x.2.2.2))
def qe_k2_1 (A : LL) (cap0 : List TC) (m i : Int) : Bool := A.all (fun x => !(qbt_v ((nth x 0).str) ((nth x 1).int) ((nth x 2).int) ((nth x 3).int) ((nth x 4).bool) ((nth x 5).bool) ((nth x 6).list) ((nth x 7).list) ((nth x 8).list) ((nth x 9).list) ((nth x 10).int) cap0))
def qe_o2_2 (A : LL) (cap0 : List TC) (m i : Int) : Bool := is (i = 0 ∧ (Typed tab (.slice 71) (.l A) ∧ (∀ x : List TC, x ∈ A → (qbt_c ((nth x 0).str) ((nth x 1).int) ((nth x 2).int) ((nth x 3).int) ((nth x 4).bool) ((nth x 5).bool) ((nth x 6).list) ((nth x 7).list) ((nth x 8).list) ((nth x 9).list) ((nth x 10).int) cap0) = true)) ∧ m = (A.length : Int))
def qe_o2_3 (A : LL) (cap0 : List TC) (m i : Int) : Bool := (qe_o2_2 A cap0 m i)
def qe_u2_3 (A : LL) (cap0 : List TC) (m i : Int) : Int := (Int.ofNat (A.findIdx fun x => !(fun x => !(qbt_v ((nth x 0).str) ((nth x 1).int) ((nth x 2).int) ((nth x 3).int) ((nth x 4).bool) ((nth x 5).bool) ((nth x 6).list) ((nth x 7).list) ((nth x 8).list) ((nth x 9).list) ((nth x 10).int) cap0)) x))
def qe_2_fin (A : LL) (cap0 : List TC) (m i : Int) : Told qe_2_ω := (.br (qe_k2_1 A cap0 m i) (.leaf (qe_o2_2 A cap0 m i) (.inr ())) (.leaf (qe_o2_3 A cap0 m i) (.inl (qe_u2_3 A cap0 m i))))
def qe_2_sl (x : qe_2_σ) : List Slot := [⟨.val false [⟨.slice 71, .sh, TC.l (x.1)⟩], ⟨0, 0⟩⟩, ⟨.val false [⟨.func, .sh, TC.f 111 [(32, x.2.1), (35, [TC.f 51 []])]⟩], ⟨0, 0⟩⟩, ⟨.val false [⟨.int .i64, .sh, TC.i (x.2.2.1)⟩], ⟨0, 0⟩⟩, ⟨.val false [⟨.int .i64, .sh, TC.i (x.2.2.2)⟩], ⟨0, 0⟩⟩]
def qe_2_out : qe_2_ω → Ex × List Slot := (Sum.elim (fun x => (.ret, [⟨.val false [⟨.int .i64, .sh, TC.i x⟩], ⟨0, 0⟩⟩])) (fun x => (.exit 0, [Slot.none])))
def qe_lo2 : List Slot → Option (Told (Ex × List Slot)) := fun s => match s with
  | [⟨.val false [⟨.slice 71, .sh, TC.l A⟩], ⟨0, 0⟩⟩, ⟨.val false [⟨.func, .sh, TC.f 111 [(32, cap0), (35, [TC.f 51 []])]⟩], ⟨0, 0⟩⟩, ⟨.val false [⟨.int .i64, .sh, TC.i m⟩], ⟨0, 0⟩⟩, ⟨.val false [⟨.int .i64, .sh, TC.i i⟩], ⟨0, 0⟩⟩] => some (((qe_2_fin A cap0 m i)).map qe_2_out)
  | _ => .none
def qe_lo : LoopTeller := fun r s => bif Nat.beq r 2 then qe_lo2 s else .none
theorem qe_2_r (A : LL) (cap0 : List TC) (m i : Int) (fuel : Nat) : rounds (rnd tab FT D63 live 138 qe_lo 0 2) leave (fuel + 1) (qe_2_sl (A, cap0, m, i)) = ((qe_2_step A cap0 m i)).run (goOn (fun s => rounds (rnd tab FT D63 live 138 qe_lo 0 2) leave fuel (qe_2_sl s)) fun w => some (qe_2_out w)) := by kernel_rfl
theorem qe_2_h (A : LL) (cap0 : List TC) (m i : Int) (ow : qe_2_ω) : ((qe_2_fin A cap0 m i)).val = some ow → ∃ fuel, loopN qe_2_st fuel (A, cap0, m, i) = some ow := by
  intro h
  have key : (Typed tab (.slice 71) (.l A) ∧ (∀ x : List TC, x ∈ A → (qbt_c ((nth x 0).str) ((nth x 1).int) ((nth x 2).int) ((nth x 3).int) ((nth x 4).bool) ((nth x 5).bool) ((nth x 6).list) ((nth x 7).list) ((nth x 8).list) ((nth x 9).list) ((nth x 10).int) cap0) = true)) → loopN qe_2_st (A.length + 1) (A, cap0, (A.length : Int), (0 : Int)) = some (if A.all (fun x => !(qbt_v ((nth x 0).str) ((nth x 1).int) ((nth x 2).int) ((nth x 3).int) ((nth x 4).bool) ((nth x 5).bool) ((nth x 6).list) ((nth x 7).list) ((nth x 8).list) ((nth x 9).list) ((nth x 10).int) cap0)) = true then (.inr ()) else (.inl (Int.ofNat (A.findIdx fun x => !(fun x => !(qbt_v ((nth x 0).str) ((nth x 1).int) ((nth x 2).int) ((nth x 3).int) ((nth x 4).bool) ((nth x 5).bool) ((nth x 6).list) ((nth x 7).list) ((nth x 8).list) ((nth x 9).list) ((nth x 10).int) cap0)) x)))) := by
    intro ht
    obtain ⟨ht, hcl⟩ := ht
    have hlen : A.length ≤ 140737488351232 := by have := typed_room ht; simp only [show (tab 71).bytes = 152 from rfl] at this; omega
    have key := loopN_scan (step := qe_2_st) A [] (fun x => !(qbt_v ((nth x 0).str) ((nth x 1).int) ((nth x 2).int) ((nth x 3).int) ((nth x 4).bool) ((nth x 5).bool) ((nth x 6).list) ((nth x 7).list) ((nth x 8).list) ((nth x 9).list) ((nth x 10).int) cap0)) (fun a _ => a) (fun i a => (A, cap0, (A.length : Int), (i : Int))) (fun a => (.inr ())) (fun i a => (.inl (i : Int))) (fun i a hi => ?_) (fun a => ?_) A.length 0 () (by omega)
    · first | (rw [Nat.zero_add] at key; exact key) | exact key
    · have c0 : Typed tab (.str) (.s (nth (A.getD i []) 0).str) := typed_s (typed_cell ht (A.getD i []) (mem_getD hi) 0 (by decide))
      have c6 : Typed tab (.slice 9) (.l (nth (A.getD i []) 6).list) := typed_list (typed_cell ht (A.getD i []) (mem_getD hi) 6 (by decide))
      have c7 : Typed tab (.slice 2) (.l (nth (A.getD i []) 7).list) := typed_list (typed_cell ht (A.getD i []) (mem_getD hi) 7 (by decide))
      have c8 : Typed tab (.slice 71) (.l (nth (A.getD i []) 8).list) := typed_list (typed_cell ht (A.getD i []) (mem_getD hi) 8 (by decide))
      have c9 : Typed tab (.slice 32) (.l (nth (A.getD i []) 9).list) := typed_list (typed_cell ht (A.getD i []) (mem_getD hi) 9 (by decide))
      show (qe_2_step A cap0 (A.length : Int) (i : Int)).val = _
      unfold qe_2_step
      refine Tr.t (by simp; omega) ?_
      skip
      refine Tr.t (by first | omega | (constructor <;> omega)) ?_
      refine Tr.t (hcl (A.getD i []) (mem_getD hi)) ?_
      refine Tr.b2 (fun hP => ?_) (fun _ => rfl)
      rw [Tr.val_ok, wrap64 (i := (i : Int) + 1) (by omega) (by omega)]; rfl
    · show (qe_2_step A cap0 (A.length : Int) (A.length : Int)).val = _
      refine Tr.n (by simp) ?_
      rfl
  simp only [qe_2_fin, Told.val] at h
  cases hk : A.all (fun x => !(qbt_v ((nth x 0).str) ((nth x 1).int) ((nth x 2).int) ((nth x 3).int) ((nth x 4).bool) ((nth x 5).bool) ((nth x 6).list) ((nth x 7).list) ((nth x 8).list) ((nth x 9).list) ((nth x 10).int) cap0)) with
  | true =>
    rw [if_pos (show qe_k2_1 A cap0 m i = true from hk)] at h
    split at h
    · rename_i ho
      obtain ⟨rfl, ht, rfl⟩ := is_iff.1 ho
      cases h
      refine ⟨_, (key ht).trans ?_⟩
      rw [hk]; rfl
    · cases h
  | false =>
    rw [if_neg (show ¬qe_k2_1 A cap0 m i = true from by rw [show qe_k2_1 A cap0 m i = (A.all (fun x => !(qbt_v ((nth x 0).str) ((nth x 1).int) ((nth x 2).int) ((nth x 3).int) ((nth x 4).bool) ((nth x 5).bool) ((nth x 6).list) ((nth x 7).list) ((nth x 8).list) ((nth x 9).list) ((nth x 10).int) cap0))) from rfl, hk]; simp)] at h
    split at h
    · rename_i ho
      obtain ⟨rfl, ht, rfl⟩ := is_iff.1 ho
      cases h
      refine ⟨_, (key ht).trans ?_⟩
      rw [hk]; rfl
    · cases h
theorem qe_is2 : LoopIs tab FT D63 live 138 qe_lo 0 2 := by
  refine loop_told (sl := qe_2_sl) (step := qe_2_st) (out := qe_2_out) (lor := qe_lo2) (fin := fun x => (qe_2_fin (x.1) (x.2.1) (x.2.2.1) (x.2.2.2))) (fun _ => rfl) ?_ (fun x n => qe_2_r x.1 x.2.1 x.2.2.1 x.2.2.2 n) (fun x ow => qe_2_h x.1 x.2.1 x.2.2.1 x.2.2.2 ow)
  intro s t h
  unfold qe_lo2 at h
  split at h
  · cases h; exact ⟨(_, _, _, _), rfl, rfl⟩
  · cases h
def qe_t (A : LL) (cap0 : List TC) : Tr (Int) := (.ite ((qe_k2_1 A cap0 (A.length : Int) (0 : Int)) = true) (.ite ((qe_o2_2 A cap0 (A.length : Int) (0 : Int)) = true) (.ok (-1 : Int))
   .no)
  (.ite ((qe_o2_3 A cap0 (A.length : Int) (0 : Int)) = true) (.ok (qe_u2_3 A cap0 (A.length : Int) (0 : Int)))
   .no))
def qe_mk (p : Int) : Res := [(false, [⟨.int .i64, .sh, TC.i p⟩])]
def qe_c (A : LL) (cap0 : List TC) : Bool := is ((Typed tab (.slice 71) (.l A) ∧ (∀ x : List TC, x ∈ A → (qbt_c ((nth x 0).str) ((nth x 1).int) ((nth x 2).int) ((nth x 3).int) ((nth x 4).bool) ((nth x 5).bool) ((nth x 6).list) ((nth x 7).list) ((nth x 8).list) ((nth x 9).list) ((nth x 10).int) cap0) = true)))
def qe_v (A : LL) (cap0 : List TC) : Int := if (A.all (fun x => !(qbt_v ((nth x 0).str) ((nth x 1).int) ((nth x 2).int) ((nth x 3).int) ((nth x 4).bool) ((nth x 5).bool) ((nth x 6).list) ((nth x 7).list) ((nth x 8).list) ((nth x 9).list) ((nth x 10).int) cap0))) = true then -1 else (Int.ofNat (A.findIdx fun x => !(fun x => !(qbt_v ((nth x 0).str) ((nth x 1).int) ((nth x 2).int) ((nth x 3).int) ((nth x 4).bool) ((nth x 5).bool) ((nth x 6).list) ((nth x 7).list) ((nth x 8).list) ((nth x 9).list) ((nth x 10).int) cap0)) x))
theorem qe_l (A : LL) (cap0 : List TC) : (qe_c A cap0) = true → (qe_t A cap0).val = some (qe_v A cap0) := by
  intro h
  have ht := is_iff.1 h
  unfold qe_t
  cases hk : A.all (fun x => !(qbt_v ((nth x 0).str) ((nth x 1).int) ((nth x 2).int) ((nth x 3).int) ((nth x 4).bool) ((nth x 5).bool) ((nth x 6).list) ((nth x 7).list) ((nth x 8).list) ((nth x 9).list) ((nth x 10).int) cap0)) with
  | true =>
    refine Tr.t (show A.all (fun x => !(qbt_v ((nth x 0).str) ((nth x 1).int) ((nth x 2).int) ((nth x 3).int) ((nth x 4).bool) ((nth x 5).bool) ((nth x 6).list) ((nth x 7).list) ((nth x 8).list) ((nth x 9).list) ((nth x 10).int) cap0)) = true from hk) ?_
    refine Tr.t (is_true ⟨rfl, ht, rfl⟩) ?_
    show _ = some (qe_v A cap0); unfold qe_v; rw [if_pos hk]; rfl
  | false =>
    refine Tr.n (show ¬A.all (fun x => !(qbt_v ((nth x 0).str) ((nth x 1).int) ((nth x 2).int) ((nth x 3).int) ((nth x 4).bool) ((nth x 5).bool) ((nth x 6).list) ((nth x 7).list) ((nth x 8).list) ((nth x 9).list) ((nth x 10).int) cap0)) = true from by rw [hk]; simp) ?_
    refine Tr.t (is_true ⟨rfl, ht, rfl⟩) ?_
    show _ = some (qe_v A cap0); unfold qe_v; rw [if_neg (by rw [hk]; simp)]; rfl
def qe_S : List Arg → Option (Bool × Res) := fun xs => match xs with
  | [(false, [(.slice 71, TC.l A)]), (false, [(.func, TC.f 111 [(32, cap0), (35, [TC.f 51 []])])])] => some ((qe_c A cap0), qe_mk (qe_v A cap0))
  | _ => .none
theorem qe_e (A : LL) (cap0 : List TC) : runF tab FT D63 live 138 qe_lo [(false, [(.slice 71, TC.l A)]), (false, [(.func, TC.f 111 [(32, cap0), (35, [TC.f 51 []])])])] = (qe_t A cap0).run fun p => some (qe_mk p) := by kernel_rfl
theorem qe_s : ∀ xs r, qe_S xs = some (true, r) → runF tab FT D63 live 138 qe_lo xs = some r := by
  intro xs r h
  unfold qe_S at h
  split at h
  · obtain ⟨h1, rfl⟩ := sp h
    exact fun_told (qe_e ..) (qe_l _ _) h1
  · cases h
def D64 : Dt := also D63 138 qe_S
theorem d64 : DOk Go.Proofs.Try.prog tab D64 := d63.also mixed_ok tab_ok names_ok (fnLoops_one (by kernel_rfl) qe_is2) qe_s
def ql_t (A : LL) (cap0 : List TC) : Tr (Bool) := (.ite ((qe_c A cap0) = true) (.ok (decide ((qe_v A cap0) ≥ (0 : Int))))
  .no)
def ql_mk (p : Bool) : Res := [(false, [⟨.bool, .sh, TC.b p⟩])]
def ql_c (A : LL) (cap0 : List TC) : Bool := is (Typed tab (.slice 71) (.l A) ∧ (∀ x : List TC, x ∈ A → (qbt_c ((nth x 0).str) ((nth x 1).int) ((nth x 2).int) ((nth x 3).int) ((nth x 4).bool) ((nth x 5).bool) ((nth x 6).list) ((nth x 7).list) ((nth x 8).list) ((nth x 9).list) ((nth x 10).int) cap0) = true))
def ql_v (A : LL) (cap0 : List TC) : Bool := !(A.all (fun x => !(qbt_v ((nth x 0).str) ((nth x 1).int) ((nth x 2).int) ((nth x 3).int) ((nth x 4).bool) ((nth x 5).bool) ((nth x 6).list) ((nth x 7).list) ((nth x 8).list) ((nth x 9).list) ((nth x 10).int) cap0)))
theorem ql_l (A : LL) (cap0 : List TC) : (ql_c A cap0) = true → (ql_t A cap0).val = some (ql_v A cap0) := by
  intro h
  have ht := is_iff.1 h
  unfold ql_t
  refine Tr.t (is_true ht) ?_
  show some (decide (qe_v A cap0 ≥ 0)) = some (!(A.all (fun x => !(qbt_v ((nth x 0).str) ((nth x 1).int) ((nth x 2).int) ((nth x 3).int) ((nth x 4).bool) ((nth x 5).bool) ((nth x 6).list) ((nth x 7).list) ((nth x 8).list) ((nth x 9).list) ((nth x 10).int) cap0))))
  unfold qe_v
  cases hk : A.all (fun x => !(qbt_v ((nth x 0).str) ((nth x 1).int) ((nth x 2).int) ((nth x 3).int) ((nth x 4).bool) ((nth x 5).bool) ((nth x 6).list) ((nth x 7).list) ((nth x 8).list) ((nth x 9).list) ((nth x 10).int) cap0)) <;> simp
def ql_S : List Arg → Option (Bool × Res) := fun xs => match xs with
  | [(false, [(.slice 71, TC.l A)]), (false, [(.func, TC.f 111 [(32, cap0), (35, [TC.f 51 []])])])] => some ((ql_c A cap0), ql_mk (ql_v A cap0))
  | _ => .none
theorem ql_e (A : LL) (cap0 : List TC) : runF tab FT D64 live 110 noLoops [(false, [(.slice 71, TC.l A)]), (false, [(.func, TC.f 111 [(32, cap0), (35, [TC.f 51 []])])])] = (ql_t A cap0).run fun p => some (ql_mk p) := by kernel_rfl
theorem ql_s : ∀ xs r, ql_S xs = some (true, r) → runF tab FT D64 live 110 noLoops xs = some r := by
  intro xs r h
  unfold ql_S at h
  split at h
  · obtain ⟨h1, rfl⟩ := sp h
    exact fun_told (ql_e ..) (ql_l _ _) h1
  · cases h
def D65 : Dt := also D64 110 ql_S
theorem d65 : DOk Go.Proofs.Try.prog tab D65 := d64.also mixed_ok tab_ok names_ok noLoops_ok ql_s
def qbe_t (a0 a1 : Int) (a2 a3 : Bool) (a4 a5 a6 a7 : LL) (a8 a9 a10 : Int) (a11 a12 : Bool) (a13 a14 a15 a16 : LL) (a17 : Int) : Tr (Bool) := (.ite ((qco_v a0 a1 a2 a3 a4 a5 a6 a7 a8) = true) (.ite ((qco_v a9 a10 a11 a12 a13 a14 a15 a16 a17) = true) (.ok true)
   (.ite ((!(a0 == a9)) = true) (.ok false)
    (.ite ((a0 == (5 : Int)) = true) (.ite ((a8 == a17) = true) (.ite ((0 : Int) ≤ (0 : Int) ∧ (0 : Int) < (a7.length : Int)) (.ite ((0 : Int) ≤ (0 : Int) ∧ (0 : Int) < (a16.length : Int)) (.ite ((qbg_rc ((nth (row a7 (0 : Int)) 0).int) ((nth (row a7 (0 : Int)) 1).int) ((nth (row a7 (0 : Int)) 2).bool) ((nth (row a7 (0 : Int)) 3).bool) ((nth (row a7 (0 : Int)) 4).list) ((nth (row a7 (0 : Int)) 5).list) ((nth (row a7 (0 : Int)) 6).list) ((nth (row a7 (0 : Int)) 7).list) ((nth (row a7 (0 : Int)) 8).int) ((nth (row a16 (0 : Int)) 0).int) ((nth (row a16 (0 : Int)) 1).int) ((nth (row a16 (0 : Int)) 2).bool) ((nth (row a16 (0 : Int)) 3).bool) ((nth (row a16 (0 : Int)) 4).list) ((nth (row a16 (0 : Int)) 5).list) ((nth (row a16 (0 : Int)) 6).list) ((nth (row a16 (0 : Int)) 7).list) ((nth (row a16 (0 : Int)) 8).int)) = true) (.ok (qbg_rv ((nth (row a7 (0 : Int)) 0).int) ((nth (row a7 (0 : Int)) 1).int) ((nth (row a7 (0 : Int)) 2).bool) ((nth (row a7 (0 : Int)) 3).bool) ((nth (row a7 (0 : Int)) 4).list) ((nth (row a7 (0 : Int)) 5).list) ((nth (row a7 (0 : Int)) 6).list) ((nth (row a7 (0 : Int)) 7).list) ((nth (row a7 (0 : Int)) 8).int) ((nth (row a16 (0 : Int)) 0).int) ((nth (row a16 (0 : Int)) 1).int) ((nth (row a16 (0 : Int)) 2).bool) ((nth (row a16 (0 : Int)) 3).bool) ((nth (row a16 (0 : Int)) 4).list) ((nth (row a16 (0 : Int)) 5).list) ((nth (row a16 (0 : Int)) 6).list) ((nth (row a16 (0 : Int)) 7).list) ((nth (row a16 (0 : Int)) 8).int)))
         .no)
        .no)
       .no)
      (.ok false))
     (.ite ((ql_c a15 [TC.i a0, TC.i a1, TC.b a2, TC.b a3, TC.l a4, TC.l a5, TC.l a6, TC.l a7, TC.i a8]) = true) (.ok (!(ql_v a15 [TC.i a0, TC.i a1, TC.b a2, TC.b a3, TC.l a4, TC.l a5, TC.l a6, TC.l a7, TC.i a8])))
      .no))))
  (.ite ((!(a0 == a9)) = true) (.ok false)
   (.ite ((a0 == (5 : Int)) = true) (.ite ((a8 == a17) = true) (.ite ((0 : Int) ≤ (0 : Int) ∧ (0 : Int) < (a7.length : Int)) (.ite ((0 : Int) ≤ (0 : Int) ∧ (0 : Int) < (a16.length : Int)) (.ite ((qbg_rc ((nth (row a7 (0 : Int)) 0).int) ((nth (row a7 (0 : Int)) 1).int) ((nth (row a7 (0 : Int)) 2).bool) ((nth (row a7 (0 : Int)) 3).bool) ((nth (row a7 (0 : Int)) 4).list) ((nth (row a7 (0 : Int)) 5).list) ((nth (row a7 (0 : Int)) 6).list) ((nth (row a7 (0 : Int)) 7).list) ((nth (row a7 (0 : Int)) 8).int) ((nth (row a16 (0 : Int)) 0).int) ((nth (row a16 (0 : Int)) 1).int) ((nth (row a16 (0 : Int)) 2).bool) ((nth (row a16 (0 : Int)) 3).bool) ((nth (row a16 (0 : Int)) 4).list) ((nth (row a16 (0 : Int)) 5).list) ((nth (row a16 (0 : Int)) 6).list) ((nth (row a16 (0 : Int)) 7).list) ((nth (row a16 (0 : Int)) 8).int)) = true) (.ok (qbg_rv ((nth (row a7 (0 : Int)) 0).int) ((nth (row a7 (0 : Int)) 1).int) ((nth (row a7 (0 : Int)) 2).bool) ((nth (row a7 (0 : Int)) 3).bool) ((nth (row a7 (0 : Int)) 4).list) ((nth (row a7 (0 : Int)) 5).list) ((nth (row a7 (0 : Int)) 6).list) ((nth (row a7 (0 : Int)) 7).list) ((nth (row a7 (0 : Int)) 8).int) ((nth (row a16 (0 : Int)) 0).int) ((nth (row a16 (0 : Int)) 1).int) ((nth (row a16 (0 : Int)) 2).bool) ((nth (row a16 (0 : Int)) 3).bool) ((nth (row a16 (0 : Int)) 4).list) ((nth (row a16 (0 : Int)) 5).list) ((nth (row a16 (0 : Int)) 6).list) ((nth (row a16 (0 : Int)) 7).list) ((nth (row a16 (0 : Int)) 8).int)))
        .no)
       .no)
      .no)
     (.ok false))
    (.ite ((ql_c a15 [TC.i a0, TC.i a1, TC.b a2, TC.b a3, TC.l a4, TC.l a5, TC.l a6, TC.l a7, TC.i a8]) = true) (.ok (!(ql_v a15 [TC.i a0, TC.i a1, TC.b a2, TC.b a3, TC.l a4, TC.l a5, TC.l a6, TC.l a7, TC.i a8])))
     .no))))
def qbe_mk (p : Bool) : Res := [(false, [⟨.bool, .sh, TC.b p⟩])]
def qbe_c (a0 a1 : Int) (a2 a3 : Bool) (a4 a5 a6 a7 : LL) (a8 a9 a10 : Int) (a11 a12 : Bool) (a13 a14 a15 a16 : LL) (a17 : Int) : Bool := (bif (qco_v a0 a1 a2 a3 a4 a5 a6 a7 a8) then (bif (qco_v a9 a10 a11 a12 a13 a14 a15 a16 a17) then true else (bif (!(a0 == a9)) then true else (bif (a0 == (5 : Int)) then (bif (a8 == a17) then (is ((0 : Int) ≤ (0 : Int) ∧ (0 : Int) < (a7.length : Int)) && (is ((0 : Int) ≤ (0 : Int) ∧ (0 : Int) < (a16.length : Int)) && ((qbg_rc ((nth (row a7 (0 : Int)) 0).int) ((nth (row a7 (0 : Int)) 1).int) ((nth (row a7 (0 : Int)) 2).bool) ((nth (row a7 (0 : Int)) 3).bool) ((nth (row a7 (0 : Int)) 4).list) ((nth (row a7 (0 : Int)) 5).list) ((nth (row a7 (0 : Int)) 6).list) ((nth (row a7 (0 : Int)) 7).list) ((nth (row a7 (0 : Int)) 8).int) ((nth (row a16 (0 : Int)) 0).int) ((nth (row a16 (0 : Int)) 1).int) ((nth (row a16 (0 : Int)) 2).bool) ((nth (row a16 (0 : Int)) 3).bool) ((nth (row a16 (0 : Int)) 4).list) ((nth (row a16 (0 : Int)) 5).list) ((nth (row a16 (0 : Int)) 6).list) ((nth (row a16 (0 : Int)) 7).list) ((nth (row a16 (0 : Int)) 8).int)) && true))) else true) else ((ql_c a15 [TC.i a0, TC.i a1, TC.b a2, TC.b a3, TC.l a4, TC.l a5, TC.l a6, TC.l a7, TC.i a8]) && true)))) else (bif (!(a0 == a9)) then true else (bif (a0 == (5 : Int)) then (bif (a8 == a17) then (is ((0 : Int) ≤ (0 : Int) ∧ (0 : Int) < (a7.length : Int)) && (is ((0 : Int) ≤ (0 : Int) ∧ (0 : Int) < (a16.length : Int)) && ((qbg_rc ((nth (row a7 (0 : Int)) 0).int) ((nth (row a7 (0 : Int)) 1).int) ((nth (row a7 (0 : Int)) 2).bool) ((nth (row a7 (0 : Int)) 3).bool) ((nth (row a7 (0 : Int)) 4).list) ((nth (row a7 (0 : Int)) 5).list) ((nth (row a7 (0 : Int)) 6).list) ((nth (row a7 (0 : Int)) 7).list) ((nth (row a7 (0 : Int)) 8).int) ((nth (row a16 (0 : Int)) 0).int) ((nth (row a16 (0 : Int)) 1).int) ((nth (row a16 (0 : Int)) 2).bool) ((nth (row a16 (0 : Int)) 3).bool) ((nth (row a16 (0 : Int)) 4).list) ((nth (row a16 (0 : Int)) 5).list) ((nth (row a16 (0 : Int)) 6).list) ((nth (row a16 (0 : Int)) 7).list) ((nth (row a16 (0 : Int)) 8).int)) && true))) else true) else ((ql_c a15 [TC.i a0, TC.i a1, TC.b a2, TC.b a3, TC.l a4, TC.l a5, TC.l a6, TC.l a7, TC.i a8]) && true))))
def qbe_v (a0 a1 : Int) (a2 a3 : Bool) (a4 a5 a6 a7 : LL) (a8 a9 a10 : Int) (a11 a12 : Bool) (a13 a14 a15 a16 : LL) (a17 : Int) : Bool := (bif (qco_v a0 a1 a2 a3 a4 a5 a6 a7 a8) then (bif (qco_v a9 a10 a11 a12 a13 a14 a15 a16 a17) then true else (bif (!(a0 == a9)) then false else (bif (a0 == (5 : Int)) then (bif (a8 == a17) then (qbg_rv ((nth (row a7 (0 : Int)) 0).int) ((nth (row a7 (0 : Int)) 1).int) ((nth (row a7 (0 : Int)) 2).bool) ((nth (row a7 (0 : Int)) 3).bool) ((nth (row a7 (0 : Int)) 4).list) ((nth (row a7 (0 : Int)) 5).list) ((nth (row a7 (0 : Int)) 6).list) ((nth (row a7 (0 : Int)) 7).list) ((nth (row a7 (0 : Int)) 8).int) ((nth (row a16 (0 : Int)) 0).int) ((nth (row a16 (0 : Int)) 1).int) ((nth (row a16 (0 : Int)) 2).bool) ((nth (row a16 (0 : Int)) 3).bool) ((nth (row a16 (0 : Int)) 4).list) ((nth (row a16 (0 : Int)) 5).list) ((nth (row a16 (0 : Int)) 6).list) ((nth (row a16 (0 : Int)) 7).list) ((nth (row a16 (0 : Int)) 8).int)) else false) else (!(ql_v a15 [TC.i a0, TC.i a1, TC.b a2, TC.b a3, TC.l a4, TC.l a5, TC.l a6, TC.l a7, TC.i a8]))))) else (bif (!(a0 == a9)) then false else (bif (a0 == (5 : Int)) then (bif (a8 == a17) then (qbg_rv ((nth (row a7 (0 : Int)) 0).int) ((nth (row a7 (0 : Int)) 1).int) ((nth (row a7 (0 : Int)) 2).bool) ((nth (row a7 (0 : Int)) 3).bool) ((nth (row a7 (0 : Int)) 4).list) ((nth (row a7 (0 : Int)) 5).list) ((nth (row a7 (0 : Int)) 6).list) ((nth (row a7 (0 : Int)) 7).list) ((nth (row a7 (0 : Int)) 8).int) ((nth (row a16 (0 : Int)) 0).int) ((nth (row a16 (0 : Int)) 1).int) ((nth (row a16 (0 : Int)) 2).bool) ((nth (row a16 (0 : Int)) 3).bool) ((nth (row a16 (0 : Int)) 4).list) ((nth (row a16 (0 : Int)) 5).list) ((nth (row a16 (0 : Int)) 6).list) ((nth (row a16 (0 : Int)) 7).list) ((nth (row a16 (0 : Int)) 8).int)) else false) else (!(ql_v a15 [TC.i a0, TC.i a1, TC.b a2, TC.b a3, TC.l a4, TC.l a5, TC.l a6, TC.l a7, TC.i a8])))))
theorem qbe_l (a0 a1 : Int) (a2 a3 : Bool) (a4 a5 a6 a7 : LL) (a8 a9 a10 : Int) (a11 a12 : Bool) (a13 a14 a15 a16 : LL) (a17 : Int) : (qbe_c a0 a1 a2 a3 a4 a5 a6 a7 a8 a9 a10 a11 a12 a13 a14 a15 a16 a17) = true → (qbe_t a0 a1 a2 a3 a4 a5 a6 a7 a8 a9 a10 a11 a12 a13 a14 a15 a16 a17).val = some (qbe_v a0 a1 a2 a3 a4 a5 a6 a7 a8 a9 a10 a11 a12 a13 a14 a15 a16 a17) := by
  unfold qbe_t qbe_v qbe_c
  intro h
  repeat' first | refine Tr.gb h fun h => ?_ | refine Tr.gs h fun h => ?_ | refine Tr.ss h (fun h => ?_) fun h => ?_ | exact rfl
def qbe_S : List Arg → Option (Bool × Res) := fun xs => match xs with
  | [(true, [(.int .i64, TC.i a0), (.int .i64, TC.i a1), (.bool, TC.b a2), (.bool, TC.b a3), (.slice 9, TC.l a4), (.slice 2, TC.l a5), (.slice 71, TC.l a6), (.slice 32, TC.l a7), (.int .i64, TC.i a8)]), (true, [(.int .i64, TC.i a9), (.int .i64, TC.i a10), (.bool, TC.b a11), (.bool, TC.b a12), (.slice 9, TC.l a13), (.slice 2, TC.l a14), (.slice 71, TC.l a15), (.slice 32, TC.l a16), (.int .i64, TC.i a17)]), (false, [(.func, TC.f 51 [])])] => some ((qbe_c a0 a1 a2 a3 a4 a5 a6 a7 a8 a9 a10 a11 a12 a13 a14 a15 a16 a17), qbe_mk (qbe_v a0 a1 a2 a3 a4 a5 a6 a7 a8 a9 a10 a11 a12 a13 a14 a15 a16 a17))
  | _ => .none
theorem qbe_e (a0 a1 : Int) (a2 a3 : Bool) (a4 a5 a6 a7 : LL) (a8 a9 a10 : Int) (a11 a12 : Bool) (a13 a14 a15 a16 : LL) (a17 : Int) : runF tab FT D65 live 80 noLoops [(true, [(.int .i64, TC.i a0), (.int .i64, TC.i a1), (.bool, TC.b a2), (.bool, TC.b a3), (.slice 9, TC.l a4), (.slice 2, TC.l a5), (.slice 71, TC.l a6), (.slice 32, TC.l a7), (.int .i64, TC.i a8)]), (true, [(.int .i64, TC.i a9), (.int .i64, TC.i a10), (.bool, TC.b a11), (.bool, TC.b a12), (.slice 9, TC.l a13), (.slice 2, TC.l a14), (.slice 71, TC.l a15), (.slice 32, TC.l a16), (.int .i64, TC.i a17)]), (false, [(.func, TC.f 51 [])])] = (qbe_t a0 a1 a2 a3 a4 a5 a6 a7 a8 a9 a10 a11 a12 a13 a14 a15 a16 a17).run fun p => some (qbe_mk p) := by kernel_rfl
theorem qbe_s : ∀ xs r, qbe_S xs = some (true, r) → runF tab FT D65 live 80 noLoops xs = some r := by
  intro xs r h
  unfold qbe_S at h
  split at h
  · obtain ⟨h1, rfl⟩ := sp h
    exact fun_told (qbe_e ..) (qbe_l _ _ _ _ _ _ _ _ _ _ _ _ _ _ _ _ _ _) h1
  · cases h
def D66 : Dt := also D65 80 qbe_S
theorem d66 : DOk Go.Proofs.Try.prog tab D66 := d65.also mixed_ok tab_ok names_ok noLoops_ok qbe_s
def qbg_t (k s : Int) (sg bg : Bool) (NA NU ME BA : LL) (ct k2 s2 : Int) (sg2 bg2 : Bool) (NA2 NU2 ME2 BA2 : LL) (ct2 : Int) : Tr (Bool) := (.ite ((qbe_c k s sg bg NA NU ME BA ct k2 s2 sg2 bg2 NA2 NU2 ME2 BA2 ct2) = true) (.ok (qbe_v k s sg bg NA NU ME BA ct k2 s2 sg2 bg2 NA2 NU2 ME2 BA2 ct2))
  .no)
def qbg_mk (p : Bool) : Res := [(false, [⟨.bool, .sh, TC.b p⟩])]
def qbg_c (k s : Int) (sg bg : Bool) (NA NU ME BA : LL) (ct k2 s2 : Int) (sg2 bg2 : Bool) (NA2 NU2 ME2 BA2 : LL) (ct2 : Int) : Bool := ((qbe_c k s sg bg NA NU ME BA ct k2 s2 sg2 bg2 NA2 NU2 ME2 BA2 ct2) && true)
def qbg_v (k s : Int) (sg bg : Bool) (NA NU ME BA : LL) (ct k2 s2 : Int) (sg2 bg2 : Bool) (NA2 NU2 ME2 BA2 : LL) (ct2 : Int) : Bool := (qbe_v k s sg bg NA NU ME BA ct k2 s2 sg2 bg2 NA2 NU2 ME2 BA2 ct2)
theorem qbg_l (k s : Int) (sg bg : Bool) (NA NU ME BA : LL) (ct k2 s2 : Int) (sg2 bg2 : Bool) (NA2 NU2 ME2 BA2 : LL) (ct2 : Int) : (qbg_c k s sg bg NA NU ME BA ct k2 s2 sg2 bg2 NA2 NU2 ME2 BA2 ct2) = true → (qbg_t k s sg bg NA NU ME BA ct k2 s2 sg2 bg2 NA2 NU2 ME2 BA2 ct2).val = some (qbg_v k s sg bg NA NU ME BA ct k2 s2 sg2 bg2 NA2 NU2 ME2 BA2 ct2) := by
  unfold qbg_t qbg_v qbg_c
  exact fun h => (Tr.gb h fun h => rfl)
theorem qbg_e (k s : Int) (sg bg : Bool) (NA NU ME BA : LL) (ct k2 s2 : Int) (sg2 bg2 : Bool) (NA2 NU2 ME2 BA2 : LL) (ct2 : Int) : runF tab FT D66 live 51 noLoops [(true, [(.int .i64, TC.i k), (.int .i64, TC.i s), (.bool, TC.b sg), (.bool, TC.b bg), (.slice 9, TC.l NA), (.slice 2, TC.l NU), (.slice 71, TC.l ME), (.slice 32, TC.l BA), (.int .i64, TC.i ct)]), (true, [(.int .i64, TC.i k2), (.int .i64, TC.i s2), (.bool, TC.b sg2), (.bool, TC.b bg2), (.slice 9, TC.l NA2), (.slice 2, TC.l NU2), (.slice 71, TC.l ME2), (.slice 32, TC.l BA2), (.int .i64, TC.i ct2)])] = (qbg_t k s sg bg NA NU ME BA ct k2 s2 sg2 bg2 NA2 NU2 ME2 BA2 ct2).run fun p => some (qbg_mk p) := by kernel_rfl
theorem qbg_nx (k s : Int) (sg bg : Bool) (NA NU ME BA : LL) (ct k2 s2 : Int) (sg2 bg2 : Bool) (NA2 NU2 ME2 BA2 : LL) (ct2 : Int) : is (max (rowsDep ME2) (rowsDep BA2) < qbg_O.n + 1 ∧ okV k s sg bg NA NU ME BA ct = true ∧ okV k2 s2 sg2 bg2 NA2 NU2 ME2 BA2 ct2 = true ∧ Typed tab (.slice 71) (.l ME) ∧ Typed tab (.slice 32) (.l BA) ∧ Typed tab (.slice 71) (.l ME2) ∧ Typed tab (.slice 32) (.l BA2)) = true → (qbg_c k s sg bg NA NU ME BA ct k2 s2 sg2 bg2 NA2 NU2 ME2 BA2 ct2) = true ∧ (qbg_v k s sg bg NA NU ME BA ct k2 s2 sg2 bg2 NA2 NU2 ME2 BA2 ct2) = canV k ME BA ct k2 ME2 BA2 ct2 := by
  intro h
  obtain ⟨hM, hk, hk2, tM, tB, tM2, tB2⟩ := is_iff.1 h
  obtain ⟨hl1, hm1⟩ := okV_me hk
  obtain ⟨hl2, hm2⟩ := okV_me hk2
  have hr : ∀ y : List TC, y ∈ ME2 → memNo ME (nth y 0).str = false → qbg_rc (nth (row ME ((memIx ME (nth y 0).str : Nat) : Int)) 2).int (nth (row ME ((memIx ME (nth y 0).str : Nat) : Int)) 3).int (nth (row ME ((memIx ME (nth y 0).str : Nat) : Int)) 4).bool (nth (row ME ((memIx ME (nth y 0).str : Nat) : Int)) 5).bool (nth (row ME ((memIx ME (nth y 0).str : Nat) : Int)) 6).list (nth (row ME ((memIx ME (nth y 0).str : Nat) : Int)) 7).list (nth (row ME ((memIx ME (nth y 0).str : Nat) : Int)) 8).list (nth (row ME ((memIx ME (nth y 0).str : Nat) : Int)) 9).list (nth (row ME ((memIx ME (nth y 0).str : Nat) : Int)) 10).int (nth y 2).int (nth y 3).int (nth y 4).bool (nth y 5).bool (nth y 6).list (nth y 7).list (nth y 8).list (nth y 9).list (nth y 10).int = true := fun y hy hn => by
    have hx : (row ME ((memIx ME (nth y 0).str : Nat) : Int)) ∈ ME := by rw [row_nat]; exact mem_getD (memIx_lt hn)
    exact is_true ⟨by have := dep_max (BA := BA2) hy 8 9; omega, hm1 _ hx, hm2 y hy, typed_list ((typed_elem tM hx).2 8 (by decide)), typed_list ((typed_elem tM hx).2 9 (by decide)), typed_list ((typed_elem tM2 hy).2 8 (by decide)), typed_list ((typed_elem tM2 hy).2 9 (by decide))⟩
  have hc : ∀ y : List TC, y ∈ ME2 → qbt_c (nth y 0).str (nth y 1).int (nth y 2).int (nth y 3).int (nth y 4).bool (nth y 5).bool (nth y 6).list (nth y 7).list (nth y 8).list (nth y 9).list (nth y 10).int [TC.i k, TC.i s, TC.b sg, TC.b bg, TC.l NA, TC.l NU, TC.l ME, TC.l BA, TC.i ct] = true := fun y hy => by
    unfold qbt_c
    rw [show (nth [TC.i k, TC.i s, TC.b sg, TC.b bg, TC.l NA, TC.l NU, TC.l ME, TC.l BA, TC.i ct] 0).int = k from rfl, show (nth [TC.i k, TC.i s, TC.b sg, TC.b bg, TC.l NA, TC.l NU, TC.l ME, TC.l BA, TC.i ct] 1).int = s from rfl, show (nth [TC.i k, TC.i s, TC.b sg, TC.b bg, TC.l NA, TC.l NU, TC.l ME, TC.l BA, TC.i ct] 2).bool = sg from rfl, show (nth [TC.i k, TC.i s, TC.b sg, TC.b bg, TC.l NA, TC.l NU, TC.l ME, TC.l BA, TC.i ct] 3).bool = bg from rfl, show (nth [TC.i k, TC.i s, TC.b sg, TC.b bg, TC.l NA, TC.l NU, TC.l ME, TC.l BA, TC.i ct] 4).list = NA from rfl, show (nth [TC.i k, TC.i s, TC.b sg, TC.b bg, TC.l NA, TC.l NU, TC.l ME, TC.l BA, TC.i ct] 5).list = NU from rfl, show (nth [TC.i k, TC.i s, TC.b sg, TC.b bg, TC.l NA, TC.l NU, TC.l ME, TC.l BA, TC.i ct] 6).list = ME from rfl, show (nth [TC.i k, TC.i s, TC.b sg, TC.b bg, TC.l NA, TC.l NU, TC.l ME, TC.l BA, TC.i ct] 7).list = BA from rfl, show (nth [TC.i k, TC.i s, TC.b sg, TC.b bg, TC.l NA, TC.l NU, TC.l ME, TC.l BA, TC.i ct] 8).int = ct from rfl, qs_cc tM]
    cases hm : memNo ME (nth y 0).str with
    | true => rw [member_no hm]; rfl
    | false => rw [member_yes hm]; exact andT rfl (andT (hr y hy hm) rfl)
  have hv : ∀ y : List TC, (!(qbt_v (nth y 0).str (nth y 1).int (nth y 2).int (nth y 3).int (nth y 4).bool (nth y 5).bool (nth y 6).list (nth y 7).list (nth y 8).list (nth y 9).list (nth y 10).int [TC.i k, TC.i s, TC.b sg, TC.b bg, TC.l NA, TC.l NU, TC.l ME, TC.l BA, TC.i ct])) = (memNo ME (nth y 0).str || canV (nth (row ME ((memIx ME (nth y 0).str : Nat) : Int)) 2).int (nth (row ME ((memIx ME (nth y 0).str : Nat) : Int)) 8).list (nth (row ME ((memIx ME (nth y 0).str : Nat) : Int)) 9).list (nth (row ME ((memIx ME (nth y 0).str : Nat) : Int)) 10).int (nth y 2).int (nth y 8).list (nth y 9).list (nth y 10).int) := fun y => by
    unfold qbt_v
    rw [show (nth [TC.i k, TC.i s, TC.b sg, TC.b bg, TC.l NA, TC.l NU, TC.l ME, TC.l BA, TC.i ct] 0).int = k from rfl, show (nth [TC.i k, TC.i s, TC.b sg, TC.b bg, TC.l NA, TC.l NU, TC.l ME, TC.l BA, TC.i ct] 1).int = s from rfl, show (nth [TC.i k, TC.i s, TC.b sg, TC.b bg, TC.l NA, TC.l NU, TC.l ME, TC.l BA, TC.i ct] 2).bool = sg from rfl, show (nth [TC.i k, TC.i s, TC.b sg, TC.b bg, TC.l NA, TC.l NU, TC.l ME, TC.l BA, TC.i ct] 3).bool = bg from rfl, show (nth [TC.i k, TC.i s, TC.b sg, TC.b bg, TC.l NA, TC.l NU, TC.l ME, TC.l BA, TC.i ct] 4).list = NA from rfl, show (nth [TC.i k, TC.i s, TC.b sg, TC.b bg, TC.l NA, TC.l NU, TC.l ME, TC.l BA, TC.i ct] 5).list = NU from rfl, show (nth [TC.i k, TC.i s, TC.b sg, TC.b bg, TC.l NA, TC.l NU, TC.l ME, TC.l BA, TC.i ct] 6).list = ME from rfl, show (nth [TC.i k, TC.i s, TC.b sg, TC.b bg, TC.l NA, TC.l NU, TC.l ME, TC.l BA, TC.i ct] 7).list = BA from rfl, show (nth [TC.i k, TC.i s, TC.b sg, TC.b bg, TC.l NA, TC.l NU, TC.l ME, TC.l BA, TC.i ct] 8).int = ct from rfl]
    cases hm : memNo ME (nth y 0).str with
    | true => rw [member_no hm]; rfl
    | false => rw [member_yes hm]; exact Bool.not_not _
  have cc : ql_c ME2 [TC.i k, TC.i s, TC.b sg, TC.b bg, TC.l NA, TC.l NU, TC.l ME, TC.l BA, TC.i ct] = true := is_true ⟨tM2, hc⟩
  have cv : ql_v ME2 [TC.i k, TC.i s, TC.b sg, TC.b bg, TC.l NA, TC.l NU, TC.l ME, TC.l BA, TC.i ct] = !(ME2.all fun y => memNo ME (nth y 0).str || canV (nth (row ME ((memIx ME (nth y 0).str : Nat) : Int)) 2).int (nth (row ME ((memIx ME (nth y 0).str : Nat) : Int)) 8).list (nth (row ME ((memIx ME (nth y 0).str : Nat) : Int)) 9).list (nth (row ME ((memIx ME (nth y 0).str : Nat) : Int)) 10).int (nth y 2).int (nth y 8).list (nth y 9).list (nth y 10).int) := by
    unfold ql_v
    rw [show (fun x : List TC => !(qbt_v (nth x 0).str (nth x 1).int (nth x 2).int (nth x 3).int (nth x 4).bool (nth x 5).bool (nth x 6).list (nth x 7).list (nth x 8).list (nth x 9).list (nth x 10).int [TC.i k, TC.i s, TC.b sg, TC.b bg, TC.l NA, TC.l NU, TC.l ME, TC.l BA, TC.i ct])) = (fun y : List TC => memNo ME (nth y 0).str || canV (nth (row ME ((memIx ME (nth y 0).str : Nat) : Int)) 2).int (nth (row ME ((memIx ME (nth y 0).str : Nat) : Int)) 8).list (nth (row ME ((memIx ME (nth y 0).str : Nat) : Int)) 9).list (nth (row ME ((memIx ME (nth y 0).str : Nat) : Int)) 10).int (nth y 2).int (nth y 8).list (nth y 9).list (nth y 10).int) from funext hv]
  unfold qbg_c qbg_v qbe_c qbe_v
  rw [canV, attach_can, show qco_v k s sg bg NA NU ME BA ct = numE k from rfl, show qco_v k2 s2 sg2 bg2 NA2 NU2 ME2 BA2 ct2 = numE k2 from rfl, cc, cv]
  have hne : numE k ≠ numE k2 → (k == k2) = false := fun h => by
    cases hkk : (k == k2) with
    | false => rfl
    | true => rw [eq_of_beq hkk] at h; exact absurd rfl h
  cases h1 : numE k with
  | true =>
    cases h2 : numE k2 with
    | true => exact ⟨rfl, rfl⟩
    | false => rw [hne (by rw [h1, h2]; simp)]; exact ⟨rfl, rfl⟩
  | false =>
    cases h2 : numE k2 with
    | true => rw [hne (by rw [h1, h2]; simp)]; exact ⟨rfl, rfl⟩
    | false =>
      cases hkk : (k == k2) with
      | false => exact ⟨rfl, rfl⟩
      | true =>
        have hkk := eq_of_beq hkk
        subst hkk
        cases h5 : (k == 5) with
        | true =>
          have h5 := eq_of_beq h5
          subst h5
          obtain ⟨hb, ho⟩ := okV_base hk
          obtain ⟨hb2, ho2⟩ := okV_base hk2
          have hrb : qbg_rc (nth (row BA (0 : Int)) 0).int (nth (row BA (0 : Int)) 1).int (nth (row BA (0 : Int)) 2).bool (nth (row BA (0 : Int)) 3).bool (nth (row BA (0 : Int)) 4).list (nth (row BA (0 : Int)) 5).list (nth (row BA (0 : Int)) 6).list (nth (row BA (0 : Int)) 7).list (nth (row BA (0 : Int)) 8).int (nth (row BA2 (0 : Int)) 0).int (nth (row BA2 (0 : Int)) 1).int (nth (row BA2 (0 : Int)) 2).bool (nth (row BA2 (0 : Int)) 3).bool (nth (row BA2 (0 : Int)) 4).list (nth (row BA2 (0 : Int)) 5).list (nth (row BA2 (0 : Int)) 6).list (nth (row BA2 (0 : Int)) 7).list (nth (row BA2 (0 : Int)) 8).int = true := is_true ⟨by have := dep_base (ME := ME2) hb2 6 7; omega, ho, ho2, typed_list ((typed_elem tB (mem_getD (i := 0) hb)).2 6 (by decide)), typed_list ((typed_elem tB (mem_getD (i := 0) hb)).2 7 (by decide)), typed_list ((typed_elem tB2 (mem_getD (i := 0) hb2)).2 6 (by decide)), typed_list ((typed_elem tB2 (mem_getD (i := 0) hb2)).2 7 (by decide))⟩
          rw [dif_pos hb2]
          cases hct : (ct == ct2) with
          | false => exact ⟨rfl, rfl⟩
          | true => exact ⟨andT (andT (is_true (by constructor <;> omega)) (andT (is_true (by constructor <;> omega)) (andT hrb rfl))) rfl, rfl⟩
        | false => cases ME2.all (fun y => memNo ME (nth y 0).str || canV (nth (row ME ((memIx ME (nth y 0).str : Nat) : Int)) 2).int (nth (row ME ((memIx ME (nth y 0).str : Nat) : Int)) 8).list (nth (row ME ((memIx ME (nth y 0).str : Nat) : Int)) 9).list (nth (row ME ((memIx ME (nth y 0).str : Nat) : Int)) 10).int (nth y 2).int (nth y 8).list (nth y 9).list (nth y 10).int) <;> exact ⟨rfl, rfl⟩
theorem qbg_nxr (k s : Int) (sg bg : Bool) (NA NU ME BA : LL) (ct k2 s2 : Int) (sg2 bg2 : Bool) (NA2 NU2 ME2 BA2 : LL) (ct2 : Int) : qbg_rc (i_impl_convertible := ⟨qbg_O.n + 1⟩) k s sg bg NA NU ME BA ct k2 s2 sg2 bg2 NA2 NU2 ME2 BA2 ct2 = true → (qbg_c k s sg bg NA NU ME BA ct k2 s2 sg2 bg2 NA2 NU2 ME2 BA2 ct2) = true ∧ (qbg_v k s sg bg NA NU ME BA ct k2 s2 sg2 bg2 NA2 NU2 ME2 BA2 ct2) = (qbg_rv k s sg bg NA NU ME BA ct k2 s2 sg2 bg2 NA2 NU2 ME2 BA2 ct2) := fun h => qbg_nx k s sg bg NA NU ME BA ct k2 s2 sg2 bg2 NA2 NU2 ME2 BA2 ct2 h
theorem qbg_rs : ∀ xs r, qbg_rS (i_impl_convertible := ⟨qbg_O.n + 1⟩) xs = some (true, r) → runF tab FT D66 live 51 noLoops xs = some r := by
  intro xs r h
  unfold qbg_rS at h
  split at h
  · obtain ⟨h1, rfl⟩ := sp h
    have hx := qbg_nxr _ _ _ _ _ _ _ _ _ _ _ _ _ _ _ _ _ _ h1
    have ht := fun_told (qbg_e ..) (qbg_l _ _ _ _ _ _ _ _ _ _ _ _ _ _ _ _ _ _) hx.1
    rw [hx.2] at ht
    exact ht
  · cases h
theorem qbg_step : qbg_G (i_impl_convertible := ⟨qbg_O.n + 1⟩) := by
  have h := DOk.also2 (S := qbg_rS (i_impl_convertible := ⟨qbg_O.n + 1⟩)) mixed_ok tab_ok names_ok d58 d66 noLoops_ok qbg_rs
  refine qbg_G.mk (i_impl_convertible := ⟨qbg_O.n + 1⟩) ?_
  exact h
def qcv_t (k s : Int) (sg bg : Bool) (NA NU ME BA : LL) (ct k2 s2 : Int) (sg2 bg2 : Bool) (NA2 NU2 ME2 BA2 : LL) (ct2 : Int) : Tr (Bool) := (.ite ((qcu_c k s sg bg NA NU ME BA ct) = true) (.ite ((qcu_v k s sg bg NA NU ME BA ct) = true) (.ite ((qcu_c k2 s2 sg2 bg2 NA2 NU2 ME2 BA2 ct2) = true) (.ite ((qcu_v k2 s2 sg2 bg2 NA2 NU2 ME2 BA2 ct2) = true) (.ite ((qbg_rc k s sg bg NA NU ME BA ct k2 s2 sg2 bg2 NA2 NU2 ME2 BA2 ct2) = true) (.ok (qbg_rv k s sg bg NA NU ME BA ct k2 s2 sg2 bg2 NA2 NU2 ME2 BA2 ct2))
      .no)
     (.ok false))
    .no)
   (.ok false))
  .no)
def qcv_mk (p : Bool) : Res := [(false, [⟨.bool, .sh, TC.b p⟩])]
def qcv_c (k s : Int) (sg bg : Bool) (NA NU ME BA : LL) (ct k2 s2 : Int) (sg2 bg2 : Bool) (NA2 NU2 ME2 BA2 : LL) (ct2 : Int) : Bool := ((qcu_c k s sg bg NA NU ME BA ct) && (bif (qcu_v k s sg bg NA NU ME BA ct) then ((qcu_c k2 s2 sg2 bg2 NA2 NU2 ME2 BA2 ct2) && (bif (qcu_v k2 s2 sg2 bg2 NA2 NU2 ME2 BA2 ct2) then ((qbg_rc k s sg bg NA NU ME BA ct k2 s2 sg2 bg2 NA2 NU2 ME2 BA2 ct2) && true) else true)) else true))
def qcv_v (k s : Int) (sg bg : Bool) (NA NU ME BA : LL) (ct k2 s2 : Int) (sg2 bg2 : Bool) (NA2 NU2 ME2 BA2 : LL) (ct2 : Int) : Bool := (bif (qcu_v k s sg bg NA NU ME BA ct) then (bif (qcu_v k2 s2 sg2 bg2 NA2 NU2 ME2 BA2 ct2) then (qbg_rv k s sg bg NA NU ME BA ct k2 s2 sg2 bg2 NA2 NU2 ME2 BA2 ct2) else false) else false)
theorem qcv_l (k s : Int) (sg bg : Bool) (NA NU ME BA : LL) (ct k2 s2 : Int) (sg2 bg2 : Bool) (NA2 NU2 ME2 BA2 : LL) (ct2 : Int) : (qcv_c k s sg bg NA NU ME BA ct k2 s2 sg2 bg2 NA2 NU2 ME2 BA2 ct2) = true → (qcv_t k s sg bg NA NU ME BA ct k2 s2 sg2 bg2 NA2 NU2 ME2 BA2 ct2).val = some (qcv_v k s sg bg NA NU ME BA ct k2 s2 sg2 bg2 NA2 NU2 ME2 BA2 ct2) := by
  unfold qcv_t qcv_v qcv_c
  exact fun h => (Tr.gb h fun h => (Tr.ss h (fun h => (Tr.gb h fun h => (Tr.ss h (fun h => (Tr.gb h fun h => rfl)) (fun h => rfl)))) (fun h => rfl)))
def qcv_S : List Arg → Option (Bool × Res) := fun xs => match xs with
  | [(true, [(.int .i64, TC.i k), (.int .i64, TC.i s), (.bool, TC.b sg), (.bool, TC.b bg), (.slice 9, TC.l NA), (.slice 2, TC.l NU), (.slice 71, TC.l ME), (.slice 32, TC.l BA), (.int .i64, TC.i ct)]), (true, [(.int .i64, TC.i k2), (.int .i64, TC.i s2), (.bool, TC.b sg2), (.bool, TC.b bg2), (.slice 9, TC.l NA2), (.slice 2, TC.l NU2), (.slice 71, TC.l ME2), (.slice 32, TC.l BA2), (.int .i64, TC.i ct2)])] => some ((qcv_c k s sg bg NA NU ME BA ct k2 s2 sg2 bg2 NA2 NU2 ME2 BA2 ct2), qcv_mk (qcv_v k s sg bg NA NU ME BA ct k2 s2 sg2 bg2 NA2 NU2 ME2 BA2 ct2))
  | _ => .none
theorem qcv_e (k s : Int) (sg bg : Bool) (NA NU ME BA : LL) (ct k2 s2 : Int) (sg2 bg2 : Bool) (NA2 NU2 ME2 BA2 : LL) (ct2 : Int) : runF tab FT D66 live 17 noLoops [(true, [(.int .i64, TC.i k), (.int .i64, TC.i s), (.bool, TC.b sg), (.bool, TC.b bg), (.slice 9, TC.l NA), (.slice 2, TC.l NU), (.slice 71, TC.l ME), (.slice 32, TC.l BA), (.int .i64, TC.i ct)]), (true, [(.int .i64, TC.i k2), (.int .i64, TC.i s2), (.bool, TC.b sg2), (.bool, TC.b bg2), (.slice 9, TC.l NA2), (.slice 2, TC.l NU2), (.slice 71, TC.l ME2), (.slice 32, TC.l BA2), (.int .i64, TC.i ct2)])] = (qcv_t k s sg bg NA NU ME BA ct k2 s2 sg2 bg2 NA2 NU2 ME2 BA2 ct2).run fun p => some (qcv_mk p) := by kernel_rfl
theorem qcv_s : ∀ xs r, qcv_S xs = some (true, r) → runF tab FT D66 live 17 noLoops xs = some r := by
  intro xs r h
  unfold qcv_S at h
  split at h
  · obtain ⟨h1, rfl⟩ := sp h
    exact fun_told (qcv_e ..) (qcv_l _ _ _ _ _ _ _ _ _ _ _ _ _ _ _ _ _ _) h1
  · cases h
def D67 : Dt := also D66 17 qcv_S
theorem d67 : DOk Go.Proofs.Try.prog tab D67 := d66.also mixed_ok tab_ok names_ok noLoops_ok qcv_s
theorem qcv_cc {k : Int} {s : Int} {sg : Bool} {bg : Bool} {NA : LL} {NU : LL} {ME : LL} {BA : LL} {ct : Int} {k2 : Int} {s2 : Int} {sg2 : Bool} {bg2 : Bool} {NA2 : LL} {NU2 : LL} {ME2 : LL} {BA2 : LL} {ct2 : Int} (vac : qbd_rc k s sg bg NA NU ME BA ct 3 = true) (vac2 : qbd_rc k2 s2 sg2 bg2 NA2 NU2 ME2 BA2 ct2 3 = true) (can : okV k s sg bg NA NU ME BA ct = true → okV k2 s2 sg2 bg2 NA2 NU2 ME2 BA2 ct2 = true → qbg_rc k s sg bg NA NU ME BA ct k2 s2 sg2 bg2 NA2 NU2 ME2 BA2 ct2 = true) : (qcv_c k s sg bg NA NU ME BA ct k2 s2 sg2 bg2 NA2 NU2 ME2 BA2 ct2) = true := by
  unfold qcv_c
  refine andT (by first | exact qcu_cc vac | exact qcu_cc vac2) ?_
  refine bifT (fun b1 => ?_) (fun b1 => ?_)
  · skip
    refine andT (by first | exact qcu_cc vac | exact qcu_cc vac2) ?_
    refine bifT (fun b2 => ?_) (fun b2 => ?_)
    · skip
      refine andT (by exact can ((qcu_vv k s sg bg NA NU ME BA ct).symm.trans b1) ((qcu_vv k2 s2 sg2 bg2 NA2 NU2 ME2 BA2 ct2).symm.trans b2)) ?_
      rfl
    · skip
      rfl
  · skip
    rfl
theorem qcv_vv (k s : Int) (sg bg : Bool) (NA NU ME BA : LL) (ct : Int) (k2 s2 : Int) (sg2 bg2 : Bool) (NA2 NU2 ME2 BA2 : LL) (ct2 : Int) : qcv_v k s sg bg NA NU ME BA ct k2 s2 sg2 bg2 NA2 NU2 ME2 BA2 ct2 = bif okV k s sg bg NA NU ME BA ct then (bif okV k2 s2 sg2 bg2 NA2 NU2 ME2 BA2 ct2 then canV k ME BA ct k2 ME2 BA2 ct2 else false) else false := by
  unfold qcv_v
  rw [qcu_vv, qcu_vv]; rfl
def qcm_t (a0 : BS) (a1 : List TC) : Tr (Bool) := (.ite ((qch_c ((nth a1 4).list) a0) = true) (.ok (!(qch_v ((nth a1 4).list) a0)))
  .no)
def qcm_mk (p : Bool) : Res := [(false, [⟨.bool, .sh, TC.b p⟩])]
def qcm_c (a0 : BS) (a1 : List TC) : Bool := (qch_c ((nth a1 4).list) a0)
def qcm_v (a0 : BS) (a1 : List TC) : Bool := (!(qch_v ((nth a1 4).list) a0))
theorem qcm_l (a0 : BS) (a1 : List TC) : (qcm_c a0 a1) = true → (qcm_t a0 a1).val = some (qcm_v a0 a1) := by
  intro h
  have hc0 : (qch_c ((nth a1 4).list) a0) = true := h
  unfold qcm_t
  exact (Tr.t hc0 rfl)
def qcm_S : List Arg → Option (Bool × Res) := fun xs => match xs with
  | [(false, [(.str, TC.s a0)]), (false, [(.ptr 32, TC.p a1)])] => some ((qcm_c a0 a1), qcm_mk (qcm_v a0 a1))
  | _ => .none
theorem qcm_e (a0 : BS) (a1 : List TC) : runF tab FT D67 live 118 noLoops [(false, [(.str, TC.s a0)]), (false, [(.ptr 32, TC.p a1)])] = (qcm_t a0 a1).run fun p => some (qcm_mk p) := by kernel_rfl
theorem qcm_s : ∀ xs r, qcm_S xs = some (true, r) → runF tab FT D67 live 118 noLoops xs = some r := by
  intro xs r h
  unfold qcm_S at h
  split at h
  · obtain ⟨h1, rfl⟩ := sp h
    exact fun_told (qcm_e ..) (qcm_l _ _) h1
  · cases h
def D68 : Dt := also D67 118 qcm_S
theorem d68 : DOk Go.Proofs.Try.prog tab D68 := d67.also mixed_ok tab_ok names_ok noLoops_ok qcm_s
abbrev qk_2_σ := LL × List TC × Int × Int
abbrev qk_2_ω := (Int) ⊕ (Unit)
def qk_2_step (A : LL) (cap0 : List TC) (m i : Int) : Tr (qk_2_σ ⊕ qk_2_ω) := (.ite ((decide (i < m)) = true) (.ite ((0 : Int) ≤ i ∧ i < (A.length : Int)) (.ite ((qcm_c ((nth (row A i) 0).str) cap0) = true) (.ite ((qcm_v ((nth (row A i) 0).str) cap0) = true) (.ok (.inr (.inl i)))
     (.ok (.inl (A, cap0, m, (IntKind.wrap .i64 (i + (1 : Int)))))))
    .no)
   .no)
  (.ok (.inr (.inr ()))))
def qk_2_st : qk_2_σ → Tr (qk_2_σ ⊕ qk_2_ω) := fun x => (qk_2_step (x.1) (x.2.1) (x.2.2.1) (x.2.2.2))
def qk_k2_1 (A : LL) (cap0 : List TC) (m i : Int) : Bool := A.all (fun x => !(qcm_v ((nth x 0).str) cap0))
def qk_o2_2 (A : LL) (cap0 : List TC) (m i : Int) : Bool := is (i = 0 ∧ (Typed tab (.slice 9) (.l A) ∧ (∀ x : List TC, x ∈ A → (qcm_c ((nth x 0).str) cap0) = true)) ∧ m = (A.length : Int))
def qk_o2_3 (A : LL) (cap0 : List TC) (m i : Int) : Bool := (qk_o2_2 A cap0 m i)
def qk_u2_3 (A : LL) (cap0 : List TC) (m i : Int) : Int := (Int.ofNat (A.findIdx fun x => !(fun x => !(qcm_v ((nth x 0).str) cap0)) x))
def qk_2_fin (A : LL) (cap0 : List TC) (m i : Int) : Told qk_2_ω := (.br (qk_k2_1 A cap0 m i) (.leaf (qk_o2_2 A cap0 m i) (.inr ())) (.leaf (qk_o2_3 A cap0 m i) (.inl (qk_u2_3 A cap0 m i))))
def qk_2_sl (x : qk_2_σ) : List Slot := [⟨.val false [⟨.slice 9, .sh, TC.l (x.1)⟩], ⟨0, 0⟩⟩, ⟨.val false [⟨.func, .sh, TC.f 118 [(32, x.2.1)]⟩], ⟨0, 0⟩⟩, ⟨.val false [⟨.int .i64, .sh, TC.i (x.2.2.1)⟩], ⟨0, 0⟩⟩, ⟨.val false [⟨.int .i64, .sh, TC.i (x.2.2.2)⟩], ⟨0, 0⟩⟩]
def qk_2_out : qk_2_ω → Ex × List Slot := (Sum.elim (fun x => (.ret, [⟨.val false [⟨.int .i64, .sh, TC.i x⟩], ⟨0, 0⟩⟩])) (fun x => (.exit 0, [Slot.none])))
def qk_lo2 : List Slot → Option (Told (Ex × List Slot)) := fun s => match s with
  | [⟨.val false [⟨.slice 9, .sh, TC.l A⟩], ⟨0, 0⟩⟩, ⟨.val false [⟨.func, .sh, TC.f 118 [(32, cap0)]⟩], ⟨0, 0⟩⟩, ⟨.val false [⟨.int .i64, .sh, TC.i m⟩], ⟨0, 0⟩⟩, ⟨.val false [⟨.int .i64, .sh, TC.i i⟩], ⟨0, 0⟩⟩] => some (((qk_2_fin A cap0 m i)).map qk_2_out)
  | _ => .none
def qk_lo : LoopTeller := fun r s => bif Nat.beq r 2 then qk_lo2 s else .none
theorem qk_2_r (A : LL) (cap0 : List TC) (m i : Int) (fuel : Nat) : rounds (rnd tab FT D68 live 141 qk_lo 0 2) leave (fuel + 1) (qk_2_sl (A, cap0, m, i)) = ((qk_2_step A cap0 m i)).run (goOn (fun s => rounds (rnd tab FT D68 live 141 qk_lo 0 2) leave fuel (qk_2_sl s)) fun w => some (qk_2_out w)) := by kernel_rfl
theorem qk_2_h (A : LL) (cap0 : List TC) (m i : Int) (ow : qk_2_ω) : ((qk_2_fin A cap0 m i)).val = some ow → ∃ fuel, loopN qk_2_st fuel (A, cap0, m, i) = some ow := by
  intro h
  have key : (Typed tab (.slice 9) (.l A) ∧ (∀ x : List TC, x ∈ A → (qcm_c ((nth x 0).str) cap0) = true)) → loopN qk_2_st (A.length + 1) (A, cap0, (A.length : Int), (0 : Int)) = some (if A.all (fun x => !(qcm_v ((nth x 0).str) cap0)) = true then (.inr ()) else (.inl (Int.ofNat (A.findIdx fun x => !(fun x => !(qcm_v ((nth x 0).str) cap0)) x)))) := by
    intro ht
    obtain ⟨ht, hcl⟩ := ht
    have hlen : A.length ≤ 140737488351232 := by have := typed_room ht; simp only [show (tab 9).bytes = 16 from rfl] at this; omega
    have key := loopN_scan (step := qk_2_st) A [] (fun x => !(qcm_v ((nth x 0).str) cap0)) (fun a _ => a) (fun i a => (A, cap0, (A.length : Int), (i : Int))) (fun a => (.inr ())) (fun i a => (.inl (i : Int))) (fun i a hi => ?_) (fun a => ?_) A.length 0 () (by omega)
    · first | (rw [Nat.zero_add] at key; exact key) | exact key
    · have c0 : Typed tab (.str) (.s (nth (A.getD i []) 0).str) := typed_s (typed_cell ht (A.getD i []) (mem_getD hi) 0 (by decide))
      show (qk_2_step A cap0 (A.length : Int) (i : Int)).val = _
      unfold qk_2_step
      refine Tr.t (by simp; omega) ?_
      skip
      refine Tr.t (by first | omega | (constructor <;> omega)) ?_
      refine Tr.t (hcl (A.getD i []) (mem_getD hi)) ?_
      refine Tr.b2 (fun hP => ?_) (fun _ => rfl)
      rw [Tr.val_ok, wrap64 (i := (i : Int) + 1) (by omega) (by omega)]; rfl
    · show (qk_2_step A cap0 (A.length : Int) (A.length : Int)).val = _
      refine Tr.n (by simp) ?_
      rfl
  simp only [qk_2_fin, Told.val] at h
  cases hk : A.all (fun x => !(qcm_v ((nth x 0).str) cap0)) with
  | true =>
    rw [if_pos (show qk_k2_1 A cap0 m i = true from hk)] at h
    split at h
    · rename_i ho
      obtain ⟨rfl, ht, rfl⟩ := is_iff.1 ho
      cases h
      refine ⟨_, (key ht).trans ?_⟩
      rw [hk]; rfl
    · cases h
  | false =>
    rw [if_neg (show ¬qk_k2_1 A cap0 m i = true from by rw [show qk_k2_1 A cap0 m i = (A.all (fun x => !(qcm_v ((nth x 0).str) cap0))) from rfl, hk]; simp)] at h
    split at h
    · rename_i ho
      obtain ⟨rfl, ht, rfl⟩ := is_iff.1 ho
      cases h
      refine ⟨_, (key ht).trans ?_⟩
      rw [hk]; rfl
    · cases h
theorem qk_is2 : LoopIs tab FT D68 live 141 qk_lo 0 2 := by
  refine loop_told (sl := qk_2_sl) (step := qk_2_st) (out := qk_2_out) (lor := qk_lo2) (fin := fun x => (qk_2_fin (x.1) (x.2.1) (x.2.2.1) (x.2.2.2))) (fun _ => rfl) ?_ (fun x n => qk_2_r x.1 x.2.1 x.2.2.1 x.2.2.2 n) (fun x ow => qk_2_h x.1 x.2.1 x.2.2.1 x.2.2.2 ow)
  intro s t h
  unfold qk_lo2 at h
  split at h
  · cases h; exact ⟨(_, _, _, _), rfl, rfl⟩
  · cases h
def qk_t (A : LL) (cap0 : List TC) : Tr (Int) := (.ite ((qk_k2_1 A cap0 (A.length : Int) (0 : Int)) = true) (.ite ((qk_o2_2 A cap0 (A.length : Int) (0 : Int)) = true) (.ok (-1 : Int))
   .no)
  (.ite ((qk_o2_3 A cap0 (A.length : Int) (0 : Int)) = true) (.ok (qk_u2_3 A cap0 (A.length : Int) (0 : Int)))
   .no))
def qk_mk (p : Int) : Res := [(false, [⟨.int .i64, .sh, TC.i p⟩])]
def qk_c (A : LL) (cap0 : List TC) : Bool := is ((Typed tab (.slice 9) (.l A) ∧ (∀ x : List TC, x ∈ A → (qcm_c ((nth x 0).str) cap0) = true)))
def qk_v (A : LL) (cap0 : List TC) : Int := if (A.all (fun x => !(qcm_v ((nth x 0).str) cap0))) = true then -1 else (Int.ofNat (A.findIdx fun x => !(fun x => !(qcm_v ((nth x 0).str) cap0)) x))
theorem qk_l (A : LL) (cap0 : List TC) : (qk_c A cap0) = true → (qk_t A cap0).val = some (qk_v A cap0) := by
  intro h
  have ht := is_iff.1 h
  unfold qk_t
  cases hk : A.all (fun x => !(qcm_v ((nth x 0).str) cap0)) with
  | true =>
    refine Tr.t (show A.all (fun x => !(qcm_v ((nth x 0).str) cap0)) = true from hk) ?_
    refine Tr.t (is_true ⟨rfl, ht, rfl⟩) ?_
    show _ = some (qk_v A cap0); unfold qk_v; rw [if_pos hk]; rfl
  | false =>
    refine Tr.n (show ¬A.all (fun x => !(qcm_v ((nth x 0).str) cap0)) = true from by rw [hk]; simp) ?_
    refine Tr.t (is_true ⟨rfl, ht, rfl⟩) ?_
    show _ = some (qk_v A cap0); unfold qk_v; rw [if_neg (by rw [hk]; simp)]; rfl
def qk_S : List Arg → Option (Bool × Res) := fun xs => match xs with
  | [(false, [(.slice 9, TC.l A)]), (false, [(.func, TC.f 118 [(32, cap0)])])] => some ((qk_c A cap0), qk_mk (qk_v A cap0))
  | _ => .none
theorem qk_e (A : LL) (cap0 : List TC) : runF tab FT D68 live 141 qk_lo [(false, [(.slice 9, TC.l A)]), (false, [(.func, TC.f 118 [(32, cap0)])])] = (qk_t A cap0).run fun p => some (qk_mk p) := by kernel_rfl
theorem qk_s : ∀ xs r, qk_S xs = some (true, r) → runF tab FT D68 live 141 qk_lo xs = some r := by
  intro xs r h
  unfold qk_S at h
  split at h
  · obtain ⟨h1, rfl⟩ := sp h
    exact fun_told (qk_e ..) (qk_l _ _) h1
  · cases h
def D69 : Dt := also D68 141 qk_S
theorem d69 : DOk Go.Proofs.Try.prog tab D69 := d68.also mixed_ok tab_ok names_ok (fnLoops_one (by kernel_rfl) qk_is2) qk_s
def qcf_t (A : LL) (cap0 : List TC) : Tr (Bool) := (.ite ((qk_c A cap0) = true) (.ok (decide ((qk_v A cap0) ≥ (0 : Int))))
  .no)
def qcf_mk (p : Bool) : Res := [(false, [⟨.bool, .sh, TC.b p⟩])]
def qcf_c (A : LL) (cap0 : List TC) : Bool := is (Typed tab (.slice 9) (.l A) ∧ (∀ x : List TC, x ∈ A → (qcm_c ((nth x 0).str) cap0) = true))
def qcf_v (A : LL) (cap0 : List TC) : Bool := !(A.all (fun x => !(qcm_v ((nth x 0).str) cap0)))
theorem qcf_l (A : LL) (cap0 : List TC) : (qcf_c A cap0) = true → (qcf_t A cap0).val = some (qcf_v A cap0) := by
  intro h
  have ht := is_iff.1 h
  unfold qcf_t
  refine Tr.t (is_true ht) ?_
  show some (decide (qk_v A cap0 ≥ 0)) = some (!(A.all (fun x => !(qcm_v ((nth x 0).str) cap0))))
  unfold qk_v
  cases hk : A.all (fun x => !(qcm_v ((nth x 0).str) cap0)) <;> simp
def qcf_S : List Arg → Option (Bool × Res) := fun xs => match xs with
  | [(false, [(.slice 9, TC.l A)]), (false, [(.func, TC.f 118 [(32, cap0)])])] => some ((qcf_c A cap0), qcf_mk (qcf_v A cap0))
  | _ => .none
theorem qcf_e (A : LL) (cap0 : List TC) : runF tab FT D69 live 117 noLoops [(false, [(.slice 9, TC.l A)]), (false, [(.func, TC.f 118 [(32, cap0)])])] = (qcf_t A cap0).run fun p => some (qcf_mk p) := by kernel_rfl
theorem qcf_s : ∀ xs r, qcf_S xs = some (true, r) → runF tab FT D69 live 117 noLoops xs = some r := by
  intro xs r h
  unfold qcf_S at h
  split at h
  · obtain ⟨h1, rfl⟩ := sp h
    exact fun_told (qcf_e ..) (qcf_l _ _) h1
  · cases h
def D70 : Dt := also D69 117 qcf_S
theorem d70 : DOk Go.Proofs.Try.prog tab D70 := d69.also mixed_ok tab_ok names_ok noLoops_ok qcf_s
def qce_t (k s : Int) (sg bg : Bool) (NA NU ME BA : LL) (ct n : Int) : Tr (Bool) := (.ite ((k == (1 : Int)) = true) (.ite ((qbn_c k s sg bg NA NU ME BA ct) = true) (.ok (qdb_v n ((qbn_v k s sg bg NA NU ME BA ct).1) ((qbn_v k s sg bg NA NU ME BA ct).2)))
   .no)
  (.ite ((k == (3 : Int)) = true) (.ite ((qck_c NU n) = true) (.ok (qck_v NU n))
    .no)
   (.ite ((k == (6 : Int)) = true) (.ok (qdb_v n (0 : Int) (65535 : Int)))
    (.ok false))))
def qce_mk (p : Bool) : Res := [(false, [⟨.bool, .sh, TC.b p⟩])]
def qce_c (k s : Int) (sg bg : Bool) (NA NU ME BA : LL) (ct n : Int) : Bool := (bif (k == (1 : Int)) then ((qbn_c k s sg bg NA NU ME BA ct) && true) else (bif (k == (3 : Int)) then ((qck_c NU n) && true) else (bif (k == (6 : Int)) then true else true)))
def qce_v (k s : Int) (sg bg : Bool) (NA NU ME BA : LL) (ct n : Int) : Bool := (bif (k == (1 : Int)) then (qdb_v n ((qbn_v k s sg bg NA NU ME BA ct).1) ((qbn_v k s sg bg NA NU ME BA ct).2)) else (bif (k == (3 : Int)) then (qck_v NU n) else (bif (k == (6 : Int)) then (qdb_v n (0 : Int) (65535 : Int)) else false)))
theorem qce_l (k s : Int) (sg bg : Bool) (NA NU ME BA : LL) (ct n : Int) : (qce_c k s sg bg NA NU ME BA ct n) = true → (qce_t k s sg bg NA NU ME BA ct n).val = some (qce_v k s sg bg NA NU ME BA ct n) := by
  unfold qce_t qce_v qce_c
  exact fun h => (Tr.ss h (fun h => (Tr.gb h fun h => rfl)) (fun h => (Tr.ss h (fun h => (Tr.gb h fun h => rfl)) (fun h => (Tr.ss h (fun h => rfl) (fun h => rfl))))))
def qce_S : List Arg → Option (Bool × Res) := fun xs => match xs with
  | [(true, [(.int .i64, TC.i k), (.int .i64, TC.i s), (.bool, TC.b sg), (.bool, TC.b bg), (.slice 9, TC.l NA), (.slice 2, TC.l NU), (.slice 71, TC.l ME), (.slice 32, TC.l BA), (.int .i64, TC.i ct)]), (false, [(.int .i64, TC.i n)])] => some ((qce_c k s sg bg NA NU ME BA ct n), qce_mk (qce_v k s sg bg NA NU ME BA ct n))
  | _ => .none
theorem qce_e (k s : Int) (sg bg : Bool) (NA NU ME BA : LL) (ct n : Int) : runF tab FT D70 live 122 noLoops [(true, [(.int .i64, TC.i k), (.int .i64, TC.i s), (.bool, TC.b sg), (.bool, TC.b bg), (.slice 9, TC.l NA), (.slice 2, TC.l NU), (.slice 71, TC.l ME), (.slice 32, TC.l BA), (.int .i64, TC.i ct)]), (false, [(.int .i64, TC.i n)])] = (qce_t k s sg bg NA NU ME BA ct n).run fun p => some (qce_mk p) := by kernel_rfl
theorem qce_s : ∀ xs r, qce_S xs = some (true, r) → runF tab FT D70 live 122 noLoops xs = some r := by
  intro xs r h
  unfold qce_S at h
  split at h
  · obtain ⟨h1, rfl⟩ := sp h
    exact fun_told (qce_e ..) (qce_l _ _ _ _ _ _ _ _ _ _) h1
  · cases h
def D71 : Dt := also D70 122 qce_S
theorem d71 : DOk Go.Proofs.Try.prog tab D71 := d70.also mixed_ok tab_ok names_ok noLoops_ok qce_s
theorem el_ok {k s : Int} {sg bg : Bool} {NA NU ME BA : LL} {ct : Int} (h : okV k s sg bg NA NU ME BA ct = true) (n : Int) : qce_c k s sg bg NA NU ME BA ct n = true ∧ qce_v k s sg bg NA NU ME BA ct n = elemV k s sg NU n := by
  rcases okV_kind h with rfl | rfl | rfl | rfl | rfl | rfl
  · obtain ⟨q1, q2, q3⟩ := irange (k := 1) (okV_int h)
    refine ⟨?_, ?_⟩
    · show (qbn_c 1 s sg bg NA NU ME BA ct && true) = true
      rw [q1]; rfl
    · show qdb_v n (qbn_v 1 s sg bg NA NU ME BA ct).1 (qbn_v 1 s sg bg NA NU ME BA ct).2 = inI n (loV s sg) (hiV s sg)
      rw [q2, q3]; rfl
  · exact ⟨rfl, rfl⟩
  · obtain ⟨e1, e2, -⟩ := okV_enum h
    refine ⟨?_, ?_⟩
    · show (qn_c NU n && true) = true
      rw [qn_cc (by omega)]; rfl
    · have e : (fun x : List TC => !(n == (nth x 0).int)) = (fun x => !((nth x 0).int == n)) := funext fun x => by rw [Bool.beq_comm]
      show decide ((bif NU.all (fun x => !(n == (nth x 0).int)) then (-1 : Int) else Int.ofNat (NU.findIdx _)) ≥ 0) = !(NU.all (fun x => !((nth x 0).int == n)))
      rw [e]
      cases NU.all (fun x => !((nth x 0).int == n)) with
      | true => rfl
      | false => exact decide_eq_true (Int.natCast_nonneg _)
  · exact ⟨rfl, rfl⟩
  · exact ⟨rfl, rfl⟩
  · exact ⟨rfl, rfl⟩
def qcl_t (a0 : Int) (a1 : List TC) : Tr (Bool) := (.ite ((qce_c ((nth a1 0).int) ((nth a1 1).int) ((nth a1 2).bool) ((nth a1 3).bool) ((nth a1 4).list) ((nth a1 5).list) ((nth a1 6).list) ((nth a1 7).list) ((nth a1 8).int) a0) = true) (.ok (!(qce_v ((nth a1 0).int) ((nth a1 1).int) ((nth a1 2).bool) ((nth a1 3).bool) ((nth a1 4).list) ((nth a1 5).list) ((nth a1 6).list) ((nth a1 7).list) ((nth a1 8).int) a0)))
  .no)
def qcl_mk (p : Bool) : Res := [(false, [⟨.bool, .sh, TC.b p⟩])]
def qcl_c (a0 : Int) (a1 : List TC) : Bool := (qce_c ((nth a1 0).int) ((nth a1 1).int) ((nth a1 2).bool) ((nth a1 3).bool) ((nth a1 4).list) ((nth a1 5).list) ((nth a1 6).list) ((nth a1 7).list) ((nth a1 8).int) a0)
def qcl_v (a0 : Int) (a1 : List TC) : Bool := (!(qce_v ((nth a1 0).int) ((nth a1 1).int) ((nth a1 2).bool) ((nth a1 3).bool) ((nth a1 4).list) ((nth a1 5).list) ((nth a1 6).list) ((nth a1 7).list) ((nth a1 8).int) a0))
theorem qcl_l (a0 : Int) (a1 : List TC) : (qcl_c a0 a1) = true → (qcl_t a0 a1).val = some (qcl_v a0 a1) := by
  intro h
  have hc0 : (qce_c ((nth a1 0).int) ((nth a1 1).int) ((nth a1 2).bool) ((nth a1 3).bool) ((nth a1 4).list) ((nth a1 5).list) ((nth a1 6).list) ((nth a1 7).list) ((nth a1 8).int) a0) = true := h
  unfold qcl_t
  exact (Tr.t hc0 rfl)
def qcl_S : List Arg → Option (Bool × Res) := fun xs => match xs with
  | [(false, [(.int .i64, TC.i a0)]), (false, [(.ptr 32, TC.p a1)])] => some ((qcl_c a0 a1), qcl_mk (qcl_v a0 a1))
  | _ => .none
theorem qcl_e (a0 : Int) (a1 : List TC) : runF tab FT D71 live 121 noLoops [(false, [(.int .i64, TC.i a0)]), (false, [(.ptr 32, TC.p a1)])] = (qcl_t a0 a1).run fun p => some (qcl_mk p) := by kernel_rfl
theorem qcl_s : ∀ xs r, qcl_S xs = some (true, r) → runF tab FT D71 live 121 noLoops xs = some r := by
  intro xs r h
  unfold qcl_S at h
  split at h
  · obtain ⟨h1, rfl⟩ := sp h
    exact fun_told (qcl_e ..) (qcl_l _ _) h1
  · cases h
def D72 : Dt := also D71 121 qcl_S
theorem d72 : DOk Go.Proofs.Try.prog tab D72 := d71.also mixed_ok tab_ok names_ok noLoops_ok qcl_s
abbrev qp_2_σ := LL × List TC × Int × Int
abbrev qp_2_ω := (Int) ⊕ (Unit)
def qp_2_step (A : LL) (cap0 : List TC) (m i : Int) : Tr (qp_2_σ ⊕ qp_2_ω) := (.ite ((decide (i < m)) = true) (.ite ((0 : Int) ≤ i ∧ i < (A.length : Int)) (.ite ((qcl_c ((nth (row A i) 0).int) cap0) = true) (.ite ((qcl_v ((nth (row A i) 0).int) cap0) = true) (.ok (.inr (.inl i)))
     (.ok (.inl (A, cap0, m, (IntKind.wrap .i64 (i + (1 : Int)))))))
    .no)
   .no)
  (.ok (.inr (.inr ()))))
def qp_2_st : qp_2_σ → Tr (qp_2_σ ⊕ qp_2_ω) := fun x => (qp_2_step (x.1) (x.2.1) (x.2.2.1) (x.2.2.2))
def qp_k2_1 (A : LL) (cap0 : List TC) (m i : Int) : Bool := A.all (fun x => !(qcl_v ((nth x 0).int) cap0))
def qp_o2_2 (A : LL) (cap0 : List TC) (m i : Int) : Bool := is (i = 0 ∧ (Typed tab (.slice 2) (.l A) ∧ (∀ x : List TC, x ∈ A → (qcl_c ((nth x 0).int) cap0) = true)) ∧ m = (A.length : Int))
def qp_o2_3 (A : LL) (cap0 : List TC) (m i : Int) : Bool := (qp_o2_2 A cap0 m i)
def qp_u2_3 (A : LL) (cap0 : List TC) (m i : Int) : Int := (Int.ofNat (A.findIdx fun x => !(fun x => !(qcl_v ((nth x 0).int) cap0)) x))
def qp_2_fin (A : LL) (cap0 : List TC) (m i : Int) : Told qp_2_ω := (.br (qp_k2_1 A cap0 m i) (.leaf (qp_o2_2 A cap0 m i) (.inr ())) (.leaf (qp_o2_3 A cap0 m i) (.inl (qp_u2_3 A cap0 m i))))
def qp_2_sl (x : qp_2_σ) : List Slot := [⟨.val false [⟨.slice 2, .sh, TC.l (x.1)⟩], ⟨0, 0⟩⟩, ⟨.val false [⟨.func, .sh, TC.f 121 [(32, x.2.1)]⟩], ⟨0, 0⟩⟩, ⟨.val false [⟨.int .i64, .sh, TC.i (x.2.2.1)⟩], ⟨0, 0⟩⟩, ⟨.val false [⟨.int .i64, .sh, TC.i (x.2.2.2)⟩], ⟨0, 0⟩⟩]
def qp_2_out : qp_2_ω → Ex × List Slot := (Sum.elim (fun x => (.ret, [⟨.val false [⟨.int .i64, .sh, TC.i x⟩], ⟨0, 0⟩⟩])) (fun x => (.exit 0, [Slot.none])))
def qp_lo2 : List Slot → Option (Told (Ex × List Slot)) := fun s => match s with
  | [⟨.val false [⟨.slice 2, .sh, TC.l A⟩], ⟨0, 0⟩⟩, ⟨.val false [⟨.func, .sh, TC.f 121 [(32, cap0)]⟩], ⟨0, 0⟩⟩, ⟨.val false [⟨.int .i64, .sh, TC.i m⟩], ⟨0, 0⟩⟩, ⟨.val false [⟨.int .i64, .sh, TC.i i⟩], ⟨0, 0⟩⟩] => some (((qp_2_fin A cap0 m i)).map qp_2_out)
  | _ => .none
def qp_lo : LoopTeller := fun r s => bif Nat.beq r 2 then qp_lo2 s else .none
theorem qp_2_r (A : LL) (cap0 : List TC) (m i : Int) (fuel : Nat) : rounds (rnd tab FT D72 live 143 qp_lo 0 2) leave (fuel + 1) (qp_2_sl (A, cap0, m, i)) = ((qp_2_step A cap0 m i)).run (goOn (fun s => rounds (rnd tab FT D72 live 143 qp_lo 0 2) leave fuel (qp_2_sl s)) fun w => some (qp_2_out w)) := by kernel_rfl
theorem qp_2_h (A : LL) (cap0 : List TC) (m i : Int) (ow : qp_2_ω) : ((qp_2_fin A cap0 m i)).val = some ow → ∃ fuel, loopN qp_2_st fuel (A, cap0, m, i) = some ow := by
  intro h
  have key : (Typed tab (.slice 2) (.l A) ∧ (∀ x : List TC, x ∈ A → (qcl_c ((nth x 0).int) cap0) = true)) → loopN qp_2_st (A.length + 1) (A, cap0, (A.length : Int), (0 : Int)) = some (if A.all (fun x => !(qcl_v ((nth x 0).int) cap0)) = true then (.inr ()) else (.inl (Int.ofNat (A.findIdx fun x => !(fun x => !(qcl_v ((nth x 0).int) cap0)) x)))) := by
    intro ht
    obtain ⟨ht, hcl⟩ := ht
    have hlen : A.length ≤ 140737488351232 := by have := typed_room ht; simp only [show (tab 2).bytes = 8 from rfl] at this; omega
    have key := loopN_scan (step := qp_2_st) A [] (fun x => !(qcl_v ((nth x 0).int) cap0)) (fun a _ => a) (fun i a => (A, cap0, (A.length : Int), (i : Int))) (fun a => (.inr ())) (fun i a => (.inl (i : Int))) (fun i a hi => ?_) (fun a => ?_) A.length 0 () (by omega)
    · first | (rw [Nat.zero_add] at key; exact key) | exact key
    · skip
      show (qp_2_step A cap0 (A.length : Int) (i : Int)).val = _
      unfold qp_2_step
      refine Tr.t (by simp; omega) ?_
      skip
      refine Tr.t (by first | omega | (constructor <;> omega)) ?_
      refine Tr.t (hcl (A.getD i []) (mem_getD hi)) ?_
      refine Tr.b2 (fun hP => ?_) (fun _ => rfl)
      rw [Tr.val_ok, wrap64 (i := (i : Int) + 1) (by omega) (by omega)]; rfl
    · show (qp_2_step A cap0 (A.length : Int) (A.length : Int)).val = _
      refine Tr.n (by simp) ?_
      rfl
  simp only [qp_2_fin, Told.val] at h
  cases hk : A.all (fun x => !(qcl_v ((nth x 0).int) cap0)) with
  | true =>
    rw [if_pos (show qp_k2_1 A cap0 m i = true from hk)] at h
    split at h
    · rename_i ho
      obtain ⟨rfl, ht, rfl⟩ := is_iff.1 ho
      cases h
      refine ⟨_, (key ht).trans ?_⟩
      rw [hk]; rfl
    · cases h
  | false =>
    rw [if_neg (show ¬qp_k2_1 A cap0 m i = true from by rw [show qp_k2_1 A cap0 m i = (A.all (fun x => !(qcl_v ((nth x 0).int) cap0))) from rfl, hk]; simp)] at h
    split at h
    · rename_i ho
      obtain ⟨rfl, ht, rfl⟩ := is_iff.1 ho
      cases h
      refine ⟨_, (key ht).trans ?_⟩
      rw [hk]; rfl
    · cases h
theorem qp_is2 : LoopIs tab FT D72 live 143 qp_lo 0 2 := by
  refine loop_told (sl := qp_2_sl) (step := qp_2_st) (out := qp_2_out) (lor := qp_lo2) (fin := fun x => (qp_2_fin (x.1) (x.2.1) (x.2.2.1) (x.2.2.2))) (fun _ => rfl) ?_ (fun x n => qp_2_r x.1 x.2.1 x.2.2.1 x.2.2.2 n) (fun x ow => qp_2_h x.1 x.2.1 x.2.2.1 x.2.2.2 ow)
  intro s t h
  unfold qp_lo2 at h
  split at h
  · cases h; exact ⟨(_, _, _, _), rfl, rfl⟩
  · cases h
def qp_t (A : LL) (cap0 : List TC) : Tr (Int) := (.ite ((qp_k2_1 A cap0 (A.length : Int) (0 : Int)) = true) (.ite ((qp_o2_2 A cap0 (A.length : Int) (0 : Int)) = true) (.ok (-1 : Int))
   .no)
  (.ite ((qp_o2_3 A cap0 (A.length : Int) (0 : Int)) = true) (.ok (qp_u2_3 A cap0 (A.length : Int) (0 : Int)))
   .no))
def qp_mk (p : Int) : Res := [(false, [⟨.int .i64, .sh, TC.i p⟩])]
def qp_c (A : LL) (cap0 : List TC) : Bool := is ((Typed tab (.slice 2) (.l A) ∧ (∀ x : List TC, x ∈ A → (qcl_c ((nth x 0).int) cap0) = true)))
def qp_v (A : LL) (cap0 : List TC) : Int := if (A.all (fun x => !(qcl_v ((nth x 0).int) cap0))) = true then -1 else (Int.ofNat (A.findIdx fun x => !(fun x => !(qcl_v ((nth x 0).int) cap0)) x))
theorem qp_l (A : LL) (cap0 : List TC) : (qp_c A cap0) = true → (qp_t A cap0).val = some (qp_v A cap0) := by
  intro h
  have ht := is_iff.1 h
  unfold qp_t
  cases hk : A.all (fun x => !(qcl_v ((nth x 0).int) cap0)) with
  | true =>
    refine Tr.t (show A.all (fun x => !(qcl_v ((nth x 0).int) cap0)) = true from hk) ?_
    refine Tr.t (is_true ⟨rfl, ht, rfl⟩) ?_
    show _ = some (qp_v A cap0); unfold qp_v; rw [if_pos hk]; rfl
  | false =>
    refine Tr.n (show ¬A.all (fun x => !(qcl_v ((nth x 0).int) cap0)) = true from by rw [hk]; simp) ?_
    refine Tr.t (is_true ⟨rfl, ht, rfl⟩) ?_
    show _ = some (qp_v A cap0); unfold qp_v; rw [if_neg (by rw [hk]; simp)]; rfl
def qp_S : List Arg → Option (Bool × Res) := fun xs => match xs with
  | [(false, [(.slice 2, TC.l A)]), (false, [(.func, TC.f 121 [(32, cap0)])])] => some ((qp_c A cap0), qp_mk (qp_v A cap0))
  | _ => .none
theorem qp_e (A : LL) (cap0 : List TC) : runF tab FT D72 live 143 qp_lo [(false, [(.slice 2, TC.l A)]), (false, [(.func, TC.f 121 [(32, cap0)])])] = (qp_t A cap0).run fun p => some (qp_mk p) := by kernel_rfl
theorem qp_s : ∀ xs r, qp_S xs = some (true, r) → runF tab FT D72 live 143 qp_lo xs = some r := by
  intro xs r h
  unfold qp_S at h
  split at h
  · obtain ⟨h1, rfl⟩ := sp h
    exact fun_told (qp_e ..) (qp_l _ _) h1
  · cases h
def D73 : Dt := also D72 143 qp_S
theorem d73 : DOk Go.Proofs.Try.prog tab D73 := d72.also mixed_ok tab_ok names_ok (fnLoops_one (by kernel_rfl) qp_is2) qp_s
def qcc_t (A : LL) (cap0 : List TC) : Tr (Bool) := (.ite ((qp_c A cap0) = true) (.ok (decide ((qp_v A cap0) ≥ (0 : Int))))
  .no)
def qcc_mk (p : Bool) : Res := [(false, [⟨.bool, .sh, TC.b p⟩])]
def qcc_c (A : LL) (cap0 : List TC) : Bool := is (Typed tab (.slice 2) (.l A) ∧ (∀ x : List TC, x ∈ A → (qcl_c ((nth x 0).int) cap0) = true))
def qcc_v (A : LL) (cap0 : List TC) : Bool := !(A.all (fun x => !(qcl_v ((nth x 0).int) cap0)))
theorem qcc_l (A : LL) (cap0 : List TC) : (qcc_c A cap0) = true → (qcc_t A cap0).val = some (qcc_v A cap0) := by
  intro h
  have ht := is_iff.1 h
  unfold qcc_t
  refine Tr.t (is_true ht) ?_
  show some (decide (qp_v A cap0 ≥ 0)) = some (!(A.all (fun x => !(qcl_v ((nth x 0).int) cap0))))
  unfold qp_v
  cases hk : A.all (fun x => !(qcl_v ((nth x 0).int) cap0)) <;> simp
def qcc_S : List Arg → Option (Bool × Res) := fun xs => match xs with
  | [(false, [(.slice 2, TC.l A)]), (false, [(.func, TC.f 121 [(32, cap0)])])] => some ((qcc_c A cap0), qcc_mk (qcc_v A cap0))
  | _ => .none
theorem qcc_e (A : LL) (cap0 : List TC) : runF tab FT D73 live 120 noLoops [(false, [(.slice 2, TC.l A)]), (false, [(.func, TC.f 121 [(32, cap0)])])] = (qcc_t A cap0).run fun p => some (qcc_mk p) := by kernel_rfl
theorem qcc_s : ∀ xs r, qcc_S xs = some (true, r) → runF tab FT D73 live 120 noLoops xs = some r := by
  intro xs r h
  unfold qcc_S at h
  split at h
  · obtain ⟨h1, rfl⟩ := sp h
    exact fun_told (qcc_e ..) (qcc_l _ _) h1
  · cases h
def D74 : Dt := also D73 120 qcc_S
theorem d74 : DOk Go.Proofs.Try.prog tab D74 := d73.also mixed_ok tab_ok names_ok noLoops_ok qcc_s
def qx_t (k s : Int) (sg bg : Bool) (NA NU ME BA : LL) (ct k2 s2 : Int) (sg2 bg2 : Bool) (NA2 NU2 ME2 BA2 : LL) (ct2 : Int) : Tr (Bool) := (.ite ((k == (3 : Int)) = true) (.ite ((k2 == (3 : Int)) = true) (.ite ((qcf_c NA [TC.i k2, TC.i s2, TC.b sg2, TC.b bg2, TC.l NA2, TC.l NU2, TC.l ME2, TC.l BA2, TC.i ct2]) = true) (.ok (!(qcf_v NA [TC.i k2, TC.i s2, TC.b sg2, TC.b bg2, TC.l NA2, TC.l NU2, TC.l ME2, TC.l BA2, TC.i ct2])))
    .no)
   (.ite ((k == (3 : Int)) = true) (.ite ((qcc_c NU [TC.i k2, TC.i s2, TC.b sg2, TC.b bg2, TC.l NA2, TC.l NU2, TC.l ME2, TC.l BA2, TC.i ct2]) = true) (.ok (!(qcc_v NU [TC.i k2, TC.i s2, TC.b sg2, TC.b bg2, TC.l NA2, TC.l NU2, TC.l ME2, TC.l BA2, TC.i ct2])))
     .no)
    (.ite ((qbn_c k s sg bg NA NU ME BA ct) = true) (.ite ((k2 == (1 : Int)) = true) (.ite ((qce_c k2 s2 sg2 bg2 NA2 NU2 ME2 BA2 ct2 ((qbn_v k s sg bg NA NU ME BA ct).1)) = true) (.ite ((qce_v k2 s2 sg2 bg2 NA2 NU2 ME2 BA2 ct2 ((qbn_v k s sg bg NA NU ME BA ct).1)) = true) (.ite ((qce_c k2 s2 sg2 bg2 NA2 NU2 ME2 BA2 ct2 ((qbn_v k s sg bg NA NU ME BA ct).2)) = true) (.ok (qce_v k2 s2 sg2 bg2 NA2 NU2 ME2 BA2 ct2 ((qbn_v k s sg bg NA NU ME BA ct).2)))
         .no)
        (.ok false))
       .no)
      (.ok false))
     .no)))
  (.ite ((k == (3 : Int)) = true) (.ite ((qcc_c NU [TC.i k2, TC.i s2, TC.b sg2, TC.b bg2, TC.l NA2, TC.l NU2, TC.l ME2, TC.l BA2, TC.i ct2]) = true) (.ok (!(qcc_v NU [TC.i k2, TC.i s2, TC.b sg2, TC.b bg2, TC.l NA2, TC.l NU2, TC.l ME2, TC.l BA2, TC.i ct2])))
    .no)
   (.ite ((qbn_c k s sg bg NA NU ME BA ct) = true) (.ite ((k2 == (1 : Int)) = true) (.ite ((qce_c k2 s2 sg2 bg2 NA2 NU2 ME2 BA2 ct2 ((qbn_v k s sg bg NA NU ME BA ct).1)) = true) (.ite ((qce_v k2 s2 sg2 bg2 NA2 NU2 ME2 BA2 ct2 ((qbn_v k s sg bg NA NU ME BA ct).1)) = true) (.ite ((qce_c k2 s2 sg2 bg2 NA2 NU2 ME2 BA2 ct2 ((qbn_v k s sg bg NA NU ME BA ct).2)) = true) (.ok (qce_v k2 s2 sg2 bg2 NA2 NU2 ME2 BA2 ct2 ((qbn_v k s sg bg NA NU ME BA ct).2)))
        .no)
       (.ok false))
      .no)
     (.ok false))
    .no)))
def qx_mk (p : Bool) : Res := [(false, [⟨.bool, .sh, TC.b p⟩])]
def qx_c (k s : Int) (sg bg : Bool) (NA NU ME BA : LL) (ct k2 s2 : Int) (sg2 bg2 : Bool) (NA2 NU2 ME2 BA2 : LL) (ct2 : Int) : Bool := (bif (k == (3 : Int)) then (bif (k2 == (3 : Int)) then ((qcf_c NA [TC.i k2, TC.i s2, TC.b sg2, TC.b bg2, TC.l NA2, TC.l NU2, TC.l ME2, TC.l BA2, TC.i ct2]) && true) else (bif (k == (3 : Int)) then ((qcc_c NU [TC.i k2, TC.i s2, TC.b sg2, TC.b bg2, TC.l NA2, TC.l NU2, TC.l ME2, TC.l BA2, TC.i ct2]) && true) else ((qbn_c k s sg bg NA NU ME BA ct) && (bif (k2 == (1 : Int)) then ((qce_c k2 s2 sg2 bg2 NA2 NU2 ME2 BA2 ct2 ((qbn_v k s sg bg NA NU ME BA ct).1)) && (bif (qce_v k2 s2 sg2 bg2 NA2 NU2 ME2 BA2 ct2 ((qbn_v k s sg bg NA NU ME BA ct).1)) then ((qce_c k2 s2 sg2 bg2 NA2 NU2 ME2 BA2 ct2 ((qbn_v k s sg bg NA NU ME BA ct).2)) && true) else true)) else true)))) else (bif (k == (3 : Int)) then ((qcc_c NU [TC.i k2, TC.i s2, TC.b sg2, TC.b bg2, TC.l NA2, TC.l NU2, TC.l ME2, TC.l BA2, TC.i ct2]) && true) else ((qbn_c k s sg bg NA NU ME BA ct) && (bif (k2 == (1 : Int)) then ((qce_c k2 s2 sg2 bg2 NA2 NU2 ME2 BA2 ct2 ((qbn_v k s sg bg NA NU ME BA ct).1)) && (bif (qce_v k2 s2 sg2 bg2 NA2 NU2 ME2 BA2 ct2 ((qbn_v k s sg bg NA NU ME BA ct).1)) then ((qce_c k2 s2 sg2 bg2 NA2 NU2 ME2 BA2 ct2 ((qbn_v k s sg bg NA NU ME BA ct).2)) && true) else true)) else true))))
def qx_v (k s : Int) (sg bg : Bool) (NA NU ME BA : LL) (ct k2 s2 : Int) (sg2 bg2 : Bool) (NA2 NU2 ME2 BA2 : LL) (ct2 : Int) : Bool := (bif (k == (3 : Int)) then (bif (k2 == (3 : Int)) then (!(qcf_v NA [TC.i k2, TC.i s2, TC.b sg2, TC.b bg2, TC.l NA2, TC.l NU2, TC.l ME2, TC.l BA2, TC.i ct2])) else (bif (k == (3 : Int)) then (!(qcc_v NU [TC.i k2, TC.i s2, TC.b sg2, TC.b bg2, TC.l NA2, TC.l NU2, TC.l ME2, TC.l BA2, TC.i ct2])) else (bif (k2 == (1 : Int)) then (bif (qce_v k2 s2 sg2 bg2 NA2 NU2 ME2 BA2 ct2 ((qbn_v k s sg bg NA NU ME BA ct).1)) then (qce_v k2 s2 sg2 bg2 NA2 NU2 ME2 BA2 ct2 ((qbn_v k s sg bg NA NU ME BA ct).2)) else false) else false))) else (bif (k == (3 : Int)) then (!(qcc_v NU [TC.i k2, TC.i s2, TC.b sg2, TC.b bg2, TC.l NA2, TC.l NU2, TC.l ME2, TC.l BA2, TC.i ct2])) else (bif (k2 == (1 : Int)) then (bif (qce_v k2 s2 sg2 bg2 NA2 NU2 ME2 BA2 ct2 ((qbn_v k s sg bg NA NU ME BA ct).1)) then (qce_v k2 s2 sg2 bg2 NA2 NU2 ME2 BA2 ct2 ((qbn_v k s sg bg NA NU ME BA ct).2)) else false) else false)))
theorem qx_l (k s : Int) (sg bg : Bool) (NA NU ME BA : LL) (ct k2 s2 : Int) (sg2 bg2 : Bool) (NA2 NU2 ME2 BA2 : LL) (ct2 : Int) : (qx_c k s sg bg NA NU ME BA ct k2 s2 sg2 bg2 NA2 NU2 ME2 BA2 ct2) = true → (qx_t k s sg bg NA NU ME BA ct k2 s2 sg2 bg2 NA2 NU2 ME2 BA2 ct2).val = some (qx_v k s sg bg NA NU ME BA ct k2 s2 sg2 bg2 NA2 NU2 ME2 BA2 ct2) := by
  unfold qx_t qx_v qx_c
  intro h
  repeat' first | refine Tr.gb h fun h => ?_ | refine Tr.gs h fun h => ?_ | refine Tr.ss h (fun h => ?_) fun h => ?_ | exact rfl
def qx_S : List Arg → Option (Bool × Res) := fun xs => match xs with
  | [(true, [(.int .i64, TC.i k), (.int .i64, TC.i s), (.bool, TC.b sg), (.bool, TC.b bg), (.slice 9, TC.l NA), (.slice 2, TC.l NU), (.slice 71, TC.l ME), (.slice 32, TC.l BA), (.int .i64, TC.i ct)]), (true, [(.int .i64, TC.i k2), (.int .i64, TC.i s2), (.bool, TC.b sg2), (.bool, TC.b bg2), (.slice 9, TC.l NA2), (.slice 2, TC.l NU2), (.slice 71, TC.l ME2), (.slice 32, TC.l BA2), (.int .i64, TC.i ct2)])] => some ((qx_c k s sg bg NA NU ME BA ct k2 s2 sg2 bg2 NA2 NU2 ME2 BA2 ct2), qx_mk (qx_v k s sg bg NA NU ME BA ct k2 s2 sg2 bg2 NA2 NU2 ME2 BA2 ct2))
  | _ => .none
theorem qx_e (k s : Int) (sg bg : Bool) (NA NU ME BA : LL) (ct k2 s2 : Int) (sg2 bg2 : Bool) (NA2 NU2 ME2 BA2 : LL) (ct2 : Int) : runF tab FT D74 live 93 noLoops [(true, [(.int .i64, TC.i k), (.int .i64, TC.i s), (.bool, TC.b sg), (.bool, TC.b bg), (.slice 9, TC.l NA), (.slice 2, TC.l NU), (.slice 71, TC.l ME), (.slice 32, TC.l BA), (.int .i64, TC.i ct)]), (true, [(.int .i64, TC.i k2), (.int .i64, TC.i s2), (.bool, TC.b sg2), (.bool, TC.b bg2), (.slice 9, TC.l NA2), (.slice 2, TC.l NU2), (.slice 71, TC.l ME2), (.slice 32, TC.l BA2), (.int .i64, TC.i ct2)])] = (qx_t k s sg bg NA NU ME BA ct k2 s2 sg2 bg2 NA2 NU2 ME2 BA2 ct2).run fun p => some (qx_mk p) := by kernel_rfl
theorem qx_s : ∀ xs r, qx_S xs = some (true, r) → runF tab FT D74 live 93 noLoops xs = some r := by
  intro xs r h
  unfold qx_S at h
  split at h
  · obtain ⟨h1, rfl⟩ := sp h
    exact fun_told (qx_e ..) (qx_l _ _ _ _ _ _ _ _ _ _ _ _ _ _ _ _ _ _) h1
  · cases h
def D75 : Dt := also D74 93 qx_S
theorem d75 : DOk Go.Proofs.Try.prog tab D75 := d74.also mixed_ok tab_ok names_ok noLoops_ok qx_s
theorem alw_nums {k s : Int} {sg bg : Bool} {NA NU ME BA : LL} {ct : Int} {k2 s2 : Int} {sg2 bg2 : Bool} {NA2 NU2 ME2 BA2 : LL} {ct2 : Int} (hk : okV k s sg bg NA NU ME BA ct = true) (hk2 : okV k2 s2 sg2 bg2 NA2 NU2 ME2 BA2 ct2 = true) (hn : numE k = true) (hn2 : numE k2 = true) (tN : Typed tab (.slice 9) (.l NA)) (tU : Typed tab (.slice 2) (.l NU)) (tN2 : Typed tab (.slice 9) (.l NA2)) : qx_c k s sg bg NA NU ME BA ct k2 s2 sg2 bg2 NA2 NU2 ME2 BA2 ct2 = true ∧ qx_v k s sg bg NA NU ME BA ct k2 s2 sg2 bg2 NA2 NU2 ME2 BA2 ct2 = numA k s sg NA NU k2 s2 sg2 NA2 NU2 := by
  have k13 : ∀ {j : Int}, numE j = true → j = 1 ∨ j = 3 := fun {j} h => by
    unfold numE at h
    cases h1 : (j == 1) with
    | true => exact .inl (eq_of_beq h1)
    | false => rw [h1] at h; exact .inr (eq_of_beq h)
  have cI : qcc_c NU [TC.i k2, TC.i s2, TC.b sg2, TC.b bg2, TC.l NA2, TC.l NU2, TC.l ME2, TC.l BA2, TC.i ct2] = true := is_true ⟨tU, fun x hx => (el_ok hk2 (nth x 0).int).1⟩
  have cS : qcf_c NA [TC.i k2, TC.i s2, TC.b sg2, TC.b bg2, TC.l NA2, TC.l NU2, TC.l ME2, TC.l BA2, TC.i ct2] = true := is_true ⟨tN, fun x hx => is_true ⟨is_true ⟨rfl, tN2, rfl⟩, is_true ⟨rfl, tN2, rfl⟩⟩⟩
  unfold qx_c qx_v numA
  rw [cI, cS]
  rcases k13 hn with rfl | rfl
  · obtain ⟨q1, q2, q3⟩ := irange (k := 1) (okV_int hk)
    have lh := lo_hi (okV_int hk)
    rw [q1, q2, q3, (el_ok hk2 (loV s sg)).1, (el_ok hk2 (hiV s sg)).1, (el_ok hk2 (loV s sg)).2, (el_ok hk2 (hiV s sg)).2]
    rcases k13 hn2 with rfl | rfl
    · refine ⟨?_, ?_⟩
      · show (true && bif elemV 1 s2 sg2 NU2 (loV s sg) then _ else _) = true
        cases elemV 1 s2 sg2 NU2 (loV s sg) <;> rfl
      · show (bif inI (loV s sg) (loV s2 sg2) (hiV s2 sg2) then inI (hiV s sg) (loV s2 sg2) (hiV s2 sg2) else false) = (bif decide (loV s sg ≥ loV s2 sg2) then decide (hiV s sg ≤ hiV s2 sg2) else false)
        rw [Bool.eq_iff_iff, two_iff]
        cases hi : inI (loV s sg) (loV s2 sg2) (hiV s2 sg2) with
        | true =>
          have := inI_iff.1 hi
          show inI (hiV s sg) (loV s2 sg2) (hiV s2 sg2) = true ↔ _
          rw [inI_iff]
          omega
        | false =>
          have := mt inI_iff.2 (by rw [hi]; simp)
          constructor
          · intro h; cases h
          · intro h; omega
    · exact ⟨rfl, rfl⟩
  · rcases k13 hn2 with rfl | rfl
    · refine ⟨rfl, ?_⟩
      obtain ⟨e1, e2, -⟩ := okV_enum hk
      show (!(qcc_v NU [TC.i 1, TC.i s2, TC.b sg2, TC.b bg2, TC.l NA2, TC.l NU2, TC.l ME2, TC.l BA2, TC.i ct2])) = (bif decide (intAt NU 0 ≥ loV s2 sg2) then decide (intAt NU (IntKind.wrap .i64 ((NU.length : Int) - (1 : Int))) ≤ hiV s2 sg2) else false)
      rw [← asc_all (enum_asc hk).1 e1 e2]
      unfold qcc_v
      rw [Bool.not_not]
      refine congrArg (fun p => NU.all p) (funext fun x => ?_)
      unfold qcl_v
      rw [show (nth [TC.i 1, TC.i s2, TC.b sg2, TC.b bg2, TC.l NA2, TC.l NU2, TC.l ME2, TC.l BA2, TC.i ct2] 0).int = 1 from rfl, show (nth [TC.i 1, TC.i s2, TC.b sg2, TC.b bg2, TC.l NA2, TC.l NU2, TC.l ME2, TC.l BA2, TC.i ct2] 1).int = s2 from rfl, show (nth [TC.i 1, TC.i s2, TC.b sg2, TC.b bg2, TC.l NA2, TC.l NU2, TC.l ME2, TC.l BA2, TC.i ct2] 2).bool = sg2 from rfl, show (nth [TC.i 1, TC.i s2, TC.b sg2, TC.b bg2, TC.l NA2, TC.l NU2, TC.l ME2, TC.l BA2, TC.i ct2] 3).bool = bg2 from rfl, show (nth [TC.i 1, TC.i s2, TC.b sg2, TC.b bg2, TC.l NA2, TC.l NU2, TC.l ME2, TC.l BA2, TC.i ct2] 4).list = NA2 from rfl, show (nth [TC.i 1, TC.i s2, TC.b sg2, TC.b bg2, TC.l NA2, TC.l NU2, TC.l ME2, TC.l BA2, TC.i ct2] 5).list = NU2 from rfl, show (nth [TC.i 1, TC.i s2, TC.b sg2, TC.b bg2, TC.l NA2, TC.l NU2, TC.l ME2, TC.l BA2, TC.i ct2] 6).list = ME2 from rfl, show (nth [TC.i 1, TC.i s2, TC.b sg2, TC.b bg2, TC.l NA2, TC.l NU2, TC.l ME2, TC.l BA2, TC.i ct2] 7).list = BA2 from rfl, show (nth [TC.i 1, TC.i s2, TC.b sg2, TC.b bg2, TC.l NA2, TC.l NU2, TC.l ME2, TC.l BA2, TC.i ct2] 8).int = ct2 from rfl, (el_ok hk2 (nth x 0).int).2, Bool.not_not]
      rfl
    · refine ⟨rfl, ?_⟩
      show (!(qcf_v NA [TC.i 3, TC.i s2, TC.b sg2, TC.b bg2, TC.l NA2, TC.l NU2, TC.l ME2, TC.l BA2, TC.i ct2])) = namesIn NA NA2
      unfold qcf_v namesIn
      rw [Bool.not_not]
      refine congrArg (fun p => NA.all p) (funext fun x => ?_)
      unfold qcm_v qch_v
      rw [show (nth [TC.i 3, TC.i s2, TC.b sg2, TC.b bg2, TC.l NA2, TC.l NU2, TC.l ME2, TC.l BA2, TC.i ct2] 4).list = NA2 from rfl, qo_vv, Bool.not_not]
      unfold slotIdx memNo
      cases NA2.all (fun y => !((nth y 0).str == (nth x 0).str)) with
      | true => rfl
      | false => exact decide_eq_true (Int.natCast_nonneg _)
section
class qby_O where n : Nat
variable [i_impl_always : qby_O]
def qby_rc (k s : Int) (sg bg : Bool) (NA NU ME BA : LL) (ct k2 s2 : Int) (sg2 bg2 : Bool) (NA2 NU2 ME2 BA2 : LL) (ct2 : Int) : Bool := is (max (rowsDep ME2) (rowsDep BA2) < qby_O.n ∧ okV k s sg bg NA NU ME BA ct = true ∧ okV k2 s2 sg2 bg2 NA2 NU2 ME2 BA2 ct2 = true ∧ canV k ME BA ct k2 ME2 BA2 ct2 = true ∧ Typed tab (.slice 9) (.l NA) ∧ Typed tab (.slice 2) (.l NU) ∧ Typed tab (.slice 71) (.l ME) ∧ Typed tab (.slice 32) (.l BA) ∧ Typed tab (.slice 9) (.l NA2) ∧ Typed tab (.slice 2) (.l NU2) ∧ Typed tab (.slice 71) (.l ME2) ∧ Typed tab (.slice 32) (.l BA2))
def qby_rv (k s : Int) (sg bg : Bool) (NA NU ME BA : LL) (ct k2 s2 : Int) (sg2 bg2 : Bool) (NA2 NU2 ME2 BA2 : LL) (ct2 : Int) : Bool := alwV k s sg NA NU ME BA k2 s2 sg2 NA2 NU2 ME2 BA2
def qby_rmk (p : Bool) : Res := [(false, [⟨.bool, .sh, TC.b p⟩])]
def qby_rS : List Arg → Option (Bool × Res) := fun xs => match xs with
  | [(true, [(.int .i64, TC.i k), (.int .i64, TC.i s), (.bool, TC.b sg), (.bool, TC.b bg), (.slice 9, TC.l NA), (.slice 2, TC.l NU), (.slice 71, TC.l ME), (.slice 32, TC.l BA), (.int .i64, TC.i ct)]), (true, [(.int .i64, TC.i k2), (.int .i64, TC.i s2), (.bool, TC.b sg2), (.bool, TC.b bg2), (.slice 9, TC.l NA2), (.slice 2, TC.l NU2), (.slice 71, TC.l ME2), (.slice 32, TC.l BA2), (.int .i64, TC.i ct2)])] => some ((qby_rc k s sg bg NA NU ME BA ct k2 s2 sg2 bg2 NA2 NU2 ME2 BA2 ct2), qby_rmk (qby_rv k s sg bg NA NU ME BA ct k2 s2 sg2 bg2 NA2 NU2 ME2 BA2 ct2))
  | _ => .none
def D76 : Dt := also D75 59 qby_rS
class qby_G : Prop where ok : DOk Go.Proofs.Try.prog tab D76
variable [g_impl_always : qby_G]
theorem d76 : DOk Go.Proofs.Try.prog tab D76 := qby_G.ok
def qcq_t (a0 : BS) (a1 a2 a3 : Int) (a4 a5 : Bool) (a6 a7 a8 a9 : LL) (a10 : Int) (a11 : List TC) : Tr (Bool) := (.ite ((qs_c ((nth a11 0).int) ((nth a11 1).int) ((nth a11 2).bool) ((nth a11 3).bool) ((nth a11 4).list) ((nth a11 5).list) ((nth a11 6).list) ((nth a11 7).list) ((nth a11 8).int) a0) = true) (.ite ((qs_v ((nth a11 0).int) ((nth a11 1).int) ((nth a11 2).bool) ((nth a11 3).bool) ((nth a11 4).list) ((nth a11 5).list) ((nth a11 6).list) ((nth a11 7).list) ((nth a11 8).int) a0).2.2.2.2.2.2.2.2.2.2.2 = true) (.ite ((qby_rc ((qs_v ((nth a11 0).int) ((nth a11 1).int) ((nth a11 2).bool) ((nth a11 3).bool) ((nth a11 4).list) ((nth a11 5).list) ((nth a11 6).list) ((nth a11 7).list) ((nth a11 8).int) a0).2.2.1) ((qs_v ((nth a11 0).int) ((nth a11 1).int) ((nth a11 2).bool) ((nth a11 3).bool) ((nth a11 4).list) ((nth a11 5).list) ((nth a11 6).list) ((nth a11 7).list) ((nth a11 8).int) a0).2.2.2.1) ((qs_v ((nth a11 0).int) ((nth a11 1).int) ((nth a11 2).bool) ((nth a11 3).bool) ((nth a11 4).list) ((nth a11 5).list) ((nth a11 6).list) ((nth a11 7).list) ((nth a11 8).int) a0).2.2.2.2.1) ((qs_v ((nth a11 0).int) ((nth a11 1).int) ((nth a11 2).bool) ((nth a11 3).bool) ((nth a11 4).list) ((nth a11 5).list) ((nth a11 6).list) ((nth a11 7).list) ((nth a11 8).int) a0).2.2.2.2.2.1) ((qs_v ((nth a11 0).int) ((nth a11 1).int) ((nth a11 2).bool) ((nth a11 3).bool) ((nth a11 4).list) ((nth a11 5).list) ((nth a11 6).list) ((nth a11 7).list) ((nth a11 8).int) a0).2.2.2.2.2.2.1) ((qs_v ((nth a11 0).int) ((nth a11 1).int) ((nth a11 2).bool) ((nth a11 3).bool) ((nth a11 4).list) ((nth a11 5).list) ((nth a11 6).list) ((nth a11 7).list) ((nth a11 8).int) a0).2.2.2.2.2.2.2.1) ((qs_v ((nth a11 0).int) ((nth a11 1).int) ((nth a11 2).bool) ((nth a11 3).bool) ((nth a11 4).list) ((nth a11 5).list) ((nth a11 6).list) ((nth a11 7).list) ((nth a11 8).int) a0).2.2.2.2.2.2.2.2.1) ((qs_v ((nth a11 0).int) ((nth a11 1).int) ((nth a11 2).bool) ((nth a11 3).bool) ((nth a11 4).list) ((nth a11 5).list) ((nth a11 6).list) ((nth a11 7).list) ((nth a11 8).int) a0).2.2.2.2.2.2.2.2.2.1) ((qs_v ((nth a11 0).int) ((nth a11 1).int) ((nth a11 2).bool) ((nth a11 3).bool) ((nth a11 4).list) ((nth a11 5).list) ((nth a11 6).list) ((nth a11 7).list) ((nth a11 8).int) a0).2.2.2.2.2.2.2.2.2.2.1) a2 a3 a4 a5 a6 a7 a8 a9 a10) = true) (.ok (!(qby_rv ((qs_v ((nth a11 0).int) ((nth a11 1).int) ((nth a11 2).bool) ((nth a11 3).bool) ((nth a11 4).list) ((nth a11 5).list) ((nth a11 6).list) ((nth a11 7).list) ((nth a11 8).int) a0).2.2.1) ((qs_v ((nth a11 0).int) ((nth a11 1).int) ((nth a11 2).bool) ((nth a11 3).bool) ((nth a11 4).list) ((nth a11 5).list) ((nth a11 6).list) ((nth a11 7).list) ((nth a11 8).int) a0).2.2.2.1) ((qs_v ((nth a11 0).int) ((nth a11 1).int) ((nth a11 2).bool) ((nth a11 3).bool) ((nth a11 4).list) ((nth a11 5).list) ((nth a11 6).list) ((nth a11 7).list) ((nth a11 8).int) a0).2.2.2.2.1) ((qs_v ((nth a11 0).int) ((nth a11 1).int) ((nth a11 2).bool) ((nth a11 3).bool) ((nth a11 4).list) ((nth a11 5).list) ((nth a11 6).list) ((nth a11 7).list) ((nth a11 8).int) a0).2.2.2.2.2.1) ((qs_v ((nth a11 0).int) ((nth a11 1).int) ((nth a11 2).bool) ((nth a11 3).bool) ((nth a11 4).list) ((nth a11 5).list) ((nth a11 6).list) ((nth a11 7).list) ((nth a11 8).int) a0).2.2.2.2.2.2.1) ((qs_v ((nth a11 0).int) ((nth a11 1).int) ((nth a11 2).bool) ((nth a11 3).bool) ((nth a11 4).list) ((nth a11 5).list) ((nth a11 6).list) ((nth a11 7).list) ((nth a11 8).int) a0).2.2.2.2.2.2.2.1) ((qs_v ((nth a11 0).int) ((nth a11 1).int) ((nth a11 2).bool) ((nth a11 3).bool) ((nth a11 4).list) ((nth a11 5).list) ((nth a11 6).list) ((nth a11 7).list) ((nth a11 8).int) a0).2.2.2.2.2.2.2.2.1) ((qs_v ((nth a11 0).int) ((nth a11 1).int) ((nth a11 2).bool) ((nth a11 3).bool) ((nth a11 4).list) ((nth a11 5).list) ((nth a11 6).list) ((nth a11 7).list) ((nth a11 8).int) a0).2.2.2.2.2.2.2.2.2.1) ((qs_v ((nth a11 0).int) ((nth a11 1).int) ((nth a11 2).bool) ((nth a11 3).bool) ((nth a11 4).list) ((nth a11 5).list) ((nth a11 6).list) ((nth a11 7).list) ((nth a11 8).int) a0).2.2.2.2.2.2.2.2.2.2.1) a2 a3 a4 a5 a6 a7 a8 a9 a10)))
    .no)
   (.ok false))
  .no)
def qcq_mk (p : Bool) : Res := [(false, [⟨.bool, .sh, TC.b p⟩])]
def qcq_c (a0 : BS) (a1 a2 a3 : Int) (a4 a5 : Bool) (a6 a7 a8 a9 : LL) (a10 : Int) (a11 : List TC) : Bool := ((qs_c ((nth a11 0).int) ((nth a11 1).int) ((nth a11 2).bool) ((nth a11 3).bool) ((nth a11 4).list) ((nth a11 5).list) ((nth a11 6).list) ((nth a11 7).list) ((nth a11 8).int) a0) && (bif (qs_v ((nth a11 0).int) ((nth a11 1).int) ((nth a11 2).bool) ((nth a11 3).bool) ((nth a11 4).list) ((nth a11 5).list) ((nth a11 6).list) ((nth a11 7).list) ((nth a11 8).int) a0).2.2.2.2.2.2.2.2.2.2.2 then ((qby_rc ((qs_v ((nth a11 0).int) ((nth a11 1).int) ((nth a11 2).bool) ((nth a11 3).bool) ((nth a11 4).list) ((nth a11 5).list) ((nth a11 6).list) ((nth a11 7).list) ((nth a11 8).int) a0).2.2.1) ((qs_v ((nth a11 0).int) ((nth a11 1).int) ((nth a11 2).bool) ((nth a11 3).bool) ((nth a11 4).list) ((nth a11 5).list) ((nth a11 6).list) ((nth a11 7).list) ((nth a11 8).int) a0).2.2.2.1) ((qs_v ((nth a11 0).int) ((nth a11 1).int) ((nth a11 2).bool) ((nth a11 3).bool) ((nth a11 4).list) ((nth a11 5).list) ((nth a11 6).list) ((nth a11 7).list) ((nth a11 8).int) a0).2.2.2.2.1) ((qs_v ((nth a11 0).int) ((nth a11 1).int) ((nth a11 2).bool) ((nth a11 3).bool) ((nth a11 4).list) ((nth a11 5).list) ((nth a11 6).list) ((nth a11 7).list) ((nth a11 8).int) a0).2.2.2.2.2.1) ((qs_v ((nth a11 0).int) ((nth a11 1).int) ((nth a11 2).bool) ((nth a11 3).bool) ((nth a11 4).list) ((nth a11 5).list) ((nth a11 6).list) ((nth a11 7).list) ((nth a11 8).int) a0).2.2.2.2.2.2.1) ((qs_v ((nth a11 0).int) ((nth a11 1).int) ((nth a11 2).bool) ((nth a11 3).bool) ((nth a11 4).list) ((nth a11 5).list) ((nth a11 6).list) ((nth a11 7).list) ((nth a11 8).int) a0).2.2.2.2.2.2.2.1) ((qs_v ((nth a11 0).int) ((nth a11 1).int) ((nth a11 2).bool) ((nth a11 3).bool) ((nth a11 4).list) ((nth a11 5).list) ((nth a11 6).list) ((nth a11 7).list) ((nth a11 8).int) a0).2.2.2.2.2.2.2.2.1) ((qs_v ((nth a11 0).int) ((nth a11 1).int) ((nth a11 2).bool) ((nth a11 3).bool) ((nth a11 4).list) ((nth a11 5).list) ((nth a11 6).list) ((nth a11 7).list) ((nth a11 8).int) a0).2.2.2.2.2.2.2.2.2.1) ((qs_v ((nth a11 0).int) ((nth a11 1).int) ((nth a11 2).bool) ((nth a11 3).bool) ((nth a11 4).list) ((nth a11 5).list) ((nth a11 6).list) ((nth a11 7).list) ((nth a11 8).int) a0).2.2.2.2.2.2.2.2.2.2.1) a2 a3 a4 a5 a6 a7 a8 a9 a10) && true) else true))
def qcq_v (a0 : BS) (a1 a2 a3 : Int) (a4 a5 : Bool) (a6 a7 a8 a9 : LL) (a10 : Int) (a11 : List TC) : Bool := (bif (qs_v ((nth a11 0).int) ((nth a11 1).int) ((nth a11 2).bool) ((nth a11 3).bool) ((nth a11 4).list) ((nth a11 5).list) ((nth a11 6).list) ((nth a11 7).list) ((nth a11 8).int) a0).2.2.2.2.2.2.2.2.2.2.2 then (!(qby_rv ((qs_v ((nth a11 0).int) ((nth a11 1).int) ((nth a11 2).bool) ((nth a11 3).bool) ((nth a11 4).list) ((nth a11 5).list) ((nth a11 6).list) ((nth a11 7).list) ((nth a11 8).int) a0).2.2.1) ((qs_v ((nth a11 0).int) ((nth a11 1).int) ((nth a11 2).bool) ((nth a11 3).bool) ((nth a11 4).list) ((nth a11 5).list) ((nth a11 6).list) ((nth a11 7).list) ((nth a11 8).int) a0).2.2.2.1) ((qs_v ((nth a11 0).int) ((nth a11 1).int) ((nth a11 2).bool) ((nth a11 3).bool) ((nth a11 4).list) ((nth a11 5).list) ((nth a11 6).list) ((nth a11 7).list) ((nth a11 8).int) a0).2.2.2.2.1) ((qs_v ((nth a11 0).int) ((nth a11 1).int) ((nth a11 2).bool) ((nth a11 3).bool) ((nth a11 4).list) ((nth a11 5).list) ((nth a11 6).list) ((nth a11 7).list) ((nth a11 8).int) a0).2.2.2.2.2.1) ((qs_v ((nth a11 0).int) ((nth a11 1).int) ((nth a11 2).bool) ((nth a11 3).bool) ((nth a11 4).list) ((nth a11 5).list) ((nth a11 6).list) ((nth a11 7).list) ((nth a11 8).int) a0).2.2.2.2.2.2.1) ((qs_v ((nth a11 0).int) ((nth a11 1).int) ((nth a11 2).bool) ((nth a11 3).bool) ((nth a11 4).list) ((nth a11 5).list) ((nth a11 6).list) ((nth a11 7).list) ((nth a11 8).int) a0).2.2.2.2.2.2.2.1) ((qs_v ((nth a11 0).int) ((nth a11 1).int) ((nth a11 2).bool) ((nth a11 3).bool) ((nth a11 4).list) ((nth a11 5).list) ((nth a11 6).list) ((nth a11 7).list) ((nth a11 8).int) a0).2.2.2.2.2.2.2.2.1) ((qs_v ((nth a11 0).int) ((nth a11 1).int) ((nth a11 2).bool) ((nth a11 3).bool) ((nth a11 4).list) ((nth a11 5).list) ((nth a11 6).list) ((nth a11 7).list) ((nth a11 8).int) a0).2.2.2.2.2.2.2.2.2.1) ((qs_v ((nth a11 0).int) ((nth a11 1).int) ((nth a11 2).bool) ((nth a11 3).bool) ((nth a11 4).list) ((nth a11 5).list) ((nth a11 6).list) ((nth a11 7).list) ((nth a11 8).int) a0).2.2.2.2.2.2.2.2.2.2.1) a2 a3 a4 a5 a6 a7 a8 a9 a10)) else false)
theorem qcq_l (a0 : BS) (a1 a2 a3 : Int) (a4 a5 : Bool) (a6 a7 a8 a9 : LL) (a10 : Int) (a11 : List TC) : (qcq_c a0 a1 a2 a3 a4 a5 a6 a7 a8 a9 a10 a11) = true → (qcq_t a0 a1 a2 a3 a4 a5 a6 a7 a8 a9 a10 a11).val = some (qcq_v a0 a1 a2 a3 a4 a5 a6 a7 a8 a9 a10 a11) := by
  unfold qcq_t qcq_v qcq_c
  exact fun h => (Tr.gb h fun h => (Tr.ss h (fun h => (Tr.gb h fun h => rfl)) (fun h => rfl)))
def qcq_S : List Arg → Option (Bool × Res) := fun xs => match xs with
  | [(true, [(.str, TC.s a0), (.int .i64, TC.i a1), (.int .i64, TC.i a2), (.int .i64, TC.i a3), (.bool, TC.b a4), (.bool, TC.b a5), (.slice 9, TC.l a6), (.slice 2, TC.l a7), (.slice 71, TC.l a8), (.slice 32, TC.l a9), (.int .i64, TC.i a10)]), (false, [(.ptr 32, TC.p a11)]), (false, [(.ptr 35, TC.p [TC.f 59 []])])] => some ((qcq_c a0 a1 a2 a3 a4 a5 a6 a7 a8 a9 a10 a11), qcq_mk (qcq_v a0 a1 a2 a3 a4 a5 a6 a7 a8 a9 a10 a11))
  | _ => .none
theorem qcq_e (a0 : BS) (a1 a2 a3 : Int) (a4 a5 : Bool) (a6 a7 a8 a9 : LL) (a10 : Int) (a11 : List TC) : runF tab FT D76 live 111 noLoops [(true, [(.str, TC.s a0), (.int .i64, TC.i a1), (.int .i64, TC.i a2), (.int .i64, TC.i a3), (.bool, TC.b a4), (.bool, TC.b a5), (.slice 9, TC.l a6), (.slice 2, TC.l a7), (.slice 71, TC.l a8), (.slice 32, TC.l a9), (.int .i64, TC.i a10)]), (false, [(.ptr 32, TC.p a11)]), (false, [(.ptr 35, TC.p [TC.f 59 []])])] = (qcq_t a0 a1 a2 a3 a4 a5 a6 a7 a8 a9 a10 a11).run fun p => some (qcq_mk p) := by kernel_rfl
theorem qcq_s : ∀ xs r, qcq_S xs = some (true, r) → runF tab FT D76 live 111 noLoops xs = some r := by
  intro xs r h
  unfold qcq_S at h
  split at h
  · obtain ⟨h1, rfl⟩ := sp h
    exact fun_told (qcq_e ..) (qcq_l _ _ _ _ _ _ _ _ _ _ _ _) h1
  · cases h
def D77 : Dt := also D76 111 qcq_S
theorem d77 : DOk Go.Proofs.Try.prog tab D77 := d76.also mixed_ok tab_ok names_ok noLoops_ok qcq_s
abbrev qf_2_σ := LL × List TC × Int × Int
abbrev qf_2_ω := (Int) ⊕ (Unit)
def qf_2_step (A : LL) (cap0 : List TC) (m i : Int) : Tr (qf_2_σ ⊕ qf_2_ω) := (.ite ((decide (i < m)) = true) (.ite ((0 : Int) ≤ i ∧ i < (A.length : Int)) (.ite ((qcq_c ((nth (row A i) 0).str) ((nth (row A i) 1).int) ((nth (row A i) 2).int) ((nth (row A i) 3).int) ((nth (row A i) 4).bool) ((nth (row A i) 5).bool) ((nth (row A i) 6).list) ((nth (row A i) 7).list) ((nth (row A i) 8).list) ((nth (row A i) 9).list) ((nth (row A i) 10).int) cap0) = true) (.ite ((qcq_v ((nth (row A i) 0).str) ((nth (row A i) 1).int) ((nth (row A i) 2).int) ((nth (row A i) 3).int) ((nth (row A i) 4).bool) ((nth (row A i) 5).bool) ((nth (row A i) 6).list) ((nth (row A i) 7).list) ((nth (row A i) 8).list) ((nth (row A i) 9).list) ((nth (row A i) 10).int) cap0) = true) (.ok (.inr (.inl i)))
     (.ok (.inl (A, cap0, m, (IntKind.wrap .i64 (i + (1 : Int)))))))
    .no)
   .no)
  (.ok (.inr (.inr ()))))
def qf_2_st : qf_2_σ → Tr (qf_2_σ ⊕ qf_2_ω) := fun x => (qf_2_step (x.1) (x.2.1) (x.2.2.1) (x.2.2.2))
def qf_k2_1 (A : LL) (cap0 : List TC) (m i : Int) : Bool := A.all (fun x => !(qcq_v ((nth x 0).str) ((nth x 1).int) ((nth x 2).int) ((nth x 3).int) ((nth x 4).bool) ((nth x 5).bool) ((nth x 6).list) ((nth x 7).list) ((nth x 8).list) ((nth x 9).list) ((nth x 10).int) cap0))
def qf_o2_2 (A : LL) (cap0 : List TC) (m i : Int) : Bool := is (i = 0 ∧ (Typed tab (.slice 71) (.l A) ∧ (∀ x : List TC, x ∈ A → (qcq_c ((nth x 0).str) ((nth x 1).int) ((nth x 2).int) ((nth x 3).int) ((nth x 4).bool) ((nth x 5).bool) ((nth x 6).list) ((nth x 7).list) ((nth x 8).list) ((nth x 9).list) ((nth x 10).int) cap0) = true)) ∧ m = (A.length : Int))
def qf_o2_3 (A : LL) (cap0 : List TC) (m i : Int) : Bool := (qf_o2_2 A cap0 m i)
def qf_u2_3 (A : LL) (cap0 : List TC) (m i : Int) : Int := (Int.ofNat (A.findIdx fun x => !(fun x => !(qcq_v ((nth x 0).str) ((nth x 1).int) ((nth x 2).int) ((nth x 3).int) ((nth x 4).bool) ((nth x 5).bool) ((nth x 6).list) ((nth x 7).list) ((nth x 8).list) ((nth x 9).list) ((nth x 10).int) cap0)) x))
def qf_2_fin (A : LL) (cap0 : List TC) (m i : Int) : Told qf_2_ω := (.br (qf_k2_1 A cap0 m i) (.leaf (qf_o2_2 A cap0 m i) (.inr ())) (.leaf (qf_o2_3 A cap0 m i) (.inl (qf_u2_3 A cap0 m i))))
def qf_2_sl (x : qf_2_σ) : List Slot := [⟨.val false [⟨.slice 71, .sh, TC.l (x.1)⟩], ⟨0, 0⟩⟩, ⟨.val false [⟨.func, .sh, TC.f 111 [(32, x.2.1), (35, [TC.f 59 []])]⟩], ⟨0, 0⟩⟩, ⟨.val false [⟨.int .i64, .sh, TC.i (x.2.2.1)⟩], ⟨0, 0⟩⟩, ⟨.val false [⟨.int .i64, .sh, TC.i (x.2.2.2)⟩], ⟨0, 0⟩⟩]
def qf_2_out : qf_2_ω → Ex × List Slot := (Sum.elim (fun x => (.ret, [⟨.val false [⟨.int .i64, .sh, TC.i x⟩], ⟨0, 0⟩⟩])) (fun x => (.exit 0, [Slot.none])))
def qf_lo2 : List Slot → Option (Told (Ex × List Slot)) := fun s => match s with
  | [⟨.val false [⟨.slice 71, .sh, TC.l A⟩], ⟨0, 0⟩⟩, ⟨.val false [⟨.func, .sh, TC.f 111 [(32, cap0), (35, [TC.f 59 []])]⟩], ⟨0, 0⟩⟩, ⟨.val false [⟨.int .i64, .sh, TC.i m⟩], ⟨0, 0⟩⟩, ⟨.val false [⟨.int .i64, .sh, TC.i i⟩], ⟨0, 0⟩⟩] => some (((qf_2_fin A cap0 m i)).map qf_2_out)
  | _ => .none
def qf_lo : LoopTeller := fun r s => bif Nat.beq r 2 then qf_lo2 s else .none
theorem qf_2_r (A : LL) (cap0 : List TC) (m i : Int) (fuel : Nat) : rounds (rnd tab FT D77 live 138 qf_lo 0 2) leave (fuel + 1) (qf_2_sl (A, cap0, m, i)) = ((qf_2_step A cap0 m i)).run (goOn (fun s => rounds (rnd tab FT D77 live 138 qf_lo 0 2) leave fuel (qf_2_sl s)) fun w => some (qf_2_out w)) := by kernel_rfl
theorem qf_2_h (A : LL) (cap0 : List TC) (m i : Int) (ow : qf_2_ω) : ((qf_2_fin A cap0 m i)).val = some ow → ∃ fuel, loopN qf_2_st fuel (A, cap0, m, i) = some ow := by
  intro h
  have key : (Typed tab (.slice 71) (.l A) ∧ (∀ x : List TC, x ∈ A → (qcq_c ((nth x 0).str) ((nth x 1).int) ((nth x 2).int) ((nth x 3).int) ((nth x 4).bool) ((nth x 5).bool) ((nth x 6).list) ((nth x 7).list) ((nth x 8).list) ((nth x 9).list) ((nth x 10).int) cap0) = true)) → loopN qf_2_st (A.length + 1) (A, cap0, (A.length : Int), (0 : Int)) = some (if A.all (fun x => !(qcq_v ((nth x 0).str) ((nth x 1).int) ((nth x 2).int) ((nth x 3).int) ((nth x 4).bool) ((nth x 5).bool) ((nth x 6).list) ((nth x 7).list) ((nth x 8).list) ((nth x 9).list) ((nth x 10).int) cap0)) = true then (.inr ()) else (.inl (Int.ofNat (A.findIdx fun x => !(fun x => !(qcq_v ((nth x 0).str) ((nth x 1).int) ((nth x 2).int) ((nth x 3).int) ((nth x 4).bool) ((nth x 5).bool) ((nth x 6).list) ((nth x 7).list) ((nth x 8).list) ((nth x 9).list) ((nth x 10).int) cap0)) x)))) := by
    intro ht
    obtain ⟨ht, hcl⟩ := ht
    have hlen : A.length ≤ 140737488351232 := by have := typed_room ht; simp only [show (tab 71).bytes = 152 from rfl] at this; omega
    have key := loopN_scan (step := qf_2_st) A [] (fun x => !(qcq_v ((nth x 0).str) ((nth x 1).int) ((nth x 2).int) ((nth x 3).int) ((nth x 4).bool) ((nth x 5).bool) ((nth x 6).list) ((nth x 7).list) ((nth x 8).list) ((nth x 9).list) ((nth x 10).int) cap0)) (fun a _ => a) (fun i a => (A, cap0, (A.length : Int), (i : Int))) (fun a => (.inr ())) (fun i a => (.inl (i : Int))) (fun i a hi => ?_) (fun a => ?_) A.length 0 () (by omega)
    · first | (rw [Nat.zero_add] at key; exact key) | exact key
    · have c0 : Typed tab (.str) (.s (nth (A.getD i []) 0).str) := typed_s (typed_cell ht (A.getD i []) (mem_getD hi) 0 (by decide))
      have c6 : Typed tab (.slice 9) (.l (nth (A.getD i []) 6).list) := typed_list (typed_cell ht (A.getD i []) (mem_getD hi) 6 (by decide))
      have c7 : Typed tab (.slice 2) (.l (nth (A.getD i []) 7).list) := typed_list (typed_cell ht (A.getD i []) (mem_getD hi) 7 (by decide))
      have c8 : Typed tab (.slice 71) (.l (nth (A.getD i []) 8).list) := typed_list (typed_cell ht (A.getD i []) (mem_getD hi) 8 (by decide))
      have c9 : Typed tab (.slice 32) (.l (nth (A.getD i []) 9).list) := typed_list (typed_cell ht (A.getD i []) (mem_getD hi) 9 (by decide))
      show (qf_2_step A cap0 (A.length : Int) (i : Int)).val = _
      unfold qf_2_step
      refine Tr.t (by simp; omega) ?_
      skip
      refine Tr.t (by first | omega | (constructor <;> omega)) ?_
      refine Tr.t (hcl (A.getD i []) (mem_getD hi)) ?_
      refine Tr.b2 (fun hP => ?_) (fun _ => rfl)
      rw [Tr.val_ok, wrap64 (i := (i : Int) + 1) (by omega) (by omega)]; rfl
    · show (qf_2_step A cap0 (A.length : Int) (A.length : Int)).val = _
      refine Tr.n (by simp) ?_
      rfl
  simp only [qf_2_fin, Told.val] at h
  cases hk : A.all (fun x => !(qcq_v ((nth x 0).str) ((nth x 1).int) ((nth x 2).int) ((nth x 3).int) ((nth x 4).bool) ((nth x 5).bool) ((nth x 6).list) ((nth x 7).list) ((nth x 8).list) ((nth x 9).list) ((nth x 10).int) cap0)) with
  | true =>
    rw [if_pos (show qf_k2_1 A cap0 m i = true from hk)] at h
    split at h
    · rename_i ho
      obtain ⟨rfl, ht, rfl⟩ := is_iff.1 ho
      cases h
      refine ⟨_, (key ht).trans ?_⟩
      rw [hk]; rfl
    · cases h
  | false =>
    rw [if_neg (show ¬qf_k2_1 A cap0 m i = true from by rw [show qf_k2_1 A cap0 m i = (A.all (fun x => !(qcq_v ((nth x 0).str) ((nth x 1).int) ((nth x 2).int) ((nth x 3).int) ((nth x 4).bool) ((nth x 5).bool) ((nth x 6).list) ((nth x 7).list) ((nth x 8).list) ((nth x 9).list) ((nth x 10).int) cap0))) from rfl, hk]; simp)] at h
    split at h
    · rename_i ho
      obtain ⟨rfl, ht, rfl⟩ := is_iff.1 ho
      cases h
      refine ⟨_, (key ht).trans ?_⟩
      rw [hk]; rfl
    · cases h
theorem qf_is2 : LoopIs tab FT D77 live 138 qf_lo 0 2 := by
  refine loop_told (sl := qf_2_sl) (step := qf_2_st) (out := qf_2_out) (lor := qf_lo2) (fin := fun x => (qf_2_fin (x.1) (x.2.1) (x.2.2.1) (x.2.2.2))) (fun _ => rfl) ?_ (fun x n => qf_2_r x.1 x.2.1 x.2.2.1 x.2.2.2 n) (fun x ow => qf_2_h x.1 x.2.1 x.2.2.1 x.2.2.2 ow)
  intro s t h
  unfold qf_lo2 at h
  split at h
  · cases h; exact ⟨(_, _, _, _), rfl, rfl⟩
  · cases h
def qf_t (A : LL) (cap0 : List TC) : Tr (Int) := (.ite ((qf_k2_1 A cap0 (A.length : Int) (0 : Int)) = true) (.ite ((qf_o2_2 A cap0 (A.length : Int) (0 : Int)) = true) (.ok (-1 : Int))
   .no)
  (.ite ((qf_o2_3 A cap0 (A.length : Int) (0 : Int)) = true) (.ok (qf_u2_3 A cap0 (A.length : Int) (0 : Int)))
   .no))
def qf_mk (p : Int) : Res := [(false, [⟨.int .i64, .sh, TC.i p⟩])]
def qf_c (A : LL) (cap0 : List TC) : Bool := is ((Typed tab (.slice 71) (.l A) ∧ (∀ x : List TC, x ∈ A → (qcq_c ((nth x 0).str) ((nth x 1).int) ((nth x 2).int) ((nth x 3).int) ((nth x 4).bool) ((nth x 5).bool) ((nth x 6).list) ((nth x 7).list) ((nth x 8).list) ((nth x 9).list) ((nth x 10).int) cap0) = true)))
def qf_v (A : LL) (cap0 : List TC) : Int := if (A.all (fun x => !(qcq_v ((nth x 0).str) ((nth x 1).int) ((nth x 2).int) ((nth x 3).int) ((nth x 4).bool) ((nth x 5).bool) ((nth x 6).list) ((nth x 7).list) ((nth x 8).list) ((nth x 9).list) ((nth x 10).int) cap0))) = true then -1 else (Int.ofNat (A.findIdx fun x => !(fun x => !(qcq_v ((nth x 0).str) ((nth x 1).int) ((nth x 2).int) ((nth x 3).int) ((nth x 4).bool) ((nth x 5).bool) ((nth x 6).list) ((nth x 7).list) ((nth x 8).list) ((nth x 9).list) ((nth x 10).int) cap0)) x))
theorem qf_l (A : LL) (cap0 : List TC) : (qf_c A cap0) = true → (qf_t A cap0).val = some (qf_v A cap0) := by
  intro h
  have ht := is_iff.1 h
  unfold qf_t
  cases hk : A.all (fun x => !(qcq_v ((nth x 0).str) ((nth x 1).int) ((nth x 2).int) ((nth x 3).int) ((nth x 4).bool) ((nth x 5).bool) ((nth x 6).list) ((nth x 7).list) ((nth x 8).list) ((nth x 9).list) ((nth x 10).int) cap0)) with
  | true =>
    refine Tr.t (show A.all (fun x => !(qcq_v ((nth x 0).str) ((nth x 1).int) ((nth x 2).int) ((nth x 3).int) ((nth x 4).bool) ((nth x 5).bool) ((nth x 6).list) ((nth x 7).list) ((nth x 8).list) ((nth x 9).list) ((nth x 10).int) cap0)) = true from hk) ?_
    refine Tr.t (is_true ⟨rfl, ht, rfl⟩) ?_
    show _ = some (qf_v A cap0); unfold qf_v; rw [if_pos hk]; rfl
  | false =>
    refine Tr.n (show ¬A.all (fun x => !(qcq_v ((nth x 0).str) ((nth x 1).int) ((nth x 2).int) ((nth x 3).int) ((nth x 4).bool) ((nth x 5).bool) ((nth x 6).list) ((nth x 7).list) ((nth x 8).list) ((nth x 9).list) ((nth x 10).int) cap0)) = true from by rw [hk]; simp) ?_
    refine Tr.t (is_true ⟨rfl, ht, rfl⟩) ?_
    show _ = some (qf_v A cap0); unfold qf_v; rw [if_neg (by rw [hk]; simp)]; rfl
def qf_S : List Arg → Option (Bool × Res) := fun xs => match xs with
  | [(false, [(.slice 71, TC.l A)]), (false, [(.func, TC.f 111 [(32, cap0), (35, [TC.f 59 []])])])] => some ((qf_c A cap0), qf_mk (qf_v A cap0))
  | _ => .none
theorem qf_e (A : LL) (cap0 : List TC) : runF tab FT D77 live 138 qf_lo [(false, [(.slice 71, TC.l A)]), (false, [(.func, TC.f 111 [(32, cap0), (35, [TC.f 59 []])])])] = (qf_t A cap0).run fun p => some (qf_mk p) := by kernel_rfl
theorem qf_s : ∀ xs r, qf_S xs = some (true, r) → runF tab FT D77 live 138 qf_lo xs = some r := by
  intro xs r h
  unfold qf_S at h
  split at h
  · obtain ⟨h1, rfl⟩ := sp h
    exact fun_told (qf_e ..) (qf_l _ _) h1
  · cases h
def D78 : Dt := also D77 138 qf_S
theorem d78 : DOk Go.Proofs.Try.prog tab D78 := d77.also mixed_ok tab_ok names_ok (fnLoops_one (by kernel_rfl) qf_is2) qf_s
def qbi_t (A : LL) (cap0 : List TC) : Tr (Bool) := (.ite ((qf_c A cap0) = true) (.ok (decide ((qf_v A cap0) ≥ (0 : Int))))
  .no)
def qbi_mk (p : Bool) : Res := [(false, [⟨.bool, .sh, TC.b p⟩])]
def qbi_c (A : LL) (cap0 : List TC) : Bool := is (Typed tab (.slice 71) (.l A) ∧ (∀ x : List TC, x ∈ A → (qcq_c ((nth x 0).str) ((nth x 1).int) ((nth x 2).int) ((nth x 3).int) ((nth x 4).bool) ((nth x 5).bool) ((nth x 6).list) ((nth x 7).list) ((nth x 8).list) ((nth x 9).list) ((nth x 10).int) cap0) = true))
def qbi_v (A : LL) (cap0 : List TC) : Bool := !(A.all (fun x => !(qcq_v ((nth x 0).str) ((nth x 1).int) ((nth x 2).int) ((nth x 3).int) ((nth x 4).bool) ((nth x 5).bool) ((nth x 6).list) ((nth x 7).list) ((nth x 8).list) ((nth x 9).list) ((nth x 10).int) cap0)))
theorem qbi_l (A : LL) (cap0 : List TC) : (qbi_c A cap0) = true → (qbi_t A cap0).val = some (qbi_v A cap0) := by
  intro h
  have ht := is_iff.1 h
  unfold qbi_t
  refine Tr.t (is_true ht) ?_
  show some (decide (qf_v A cap0 ≥ 0)) = some (!(A.all (fun x => !(qcq_v ((nth x 0).str) ((nth x 1).int) ((nth x 2).int) ((nth x 3).int) ((nth x 4).bool) ((nth x 5).bool) ((nth x 6).list) ((nth x 7).list) ((nth x 8).list) ((nth x 9).list) ((nth x 10).int) cap0))))
  unfold qf_v
  cases hk : A.all (fun x => !(qcq_v ((nth x 0).str) ((nth x 1).int) ((nth x 2).int) ((nth x 3).int) ((nth x 4).bool) ((nth x 5).bool) ((nth x 6).list) ((nth x 7).list) ((nth x 8).list) ((nth x 9).list) ((nth x 10).int) cap0)) <;> simp
end
end
end
end
end
end
end
end
end
end
end
end
end
end Go.Proofs.Ytdcafhfnkblfkaa.V
