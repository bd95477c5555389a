/- What the functions of FnExactAlwaysConverts answer. No condition. -/
import Derived.Test.YtdcafhfnkblfkaaVFnExactAlwaysConvertsP1
namespace Go.Proofs.Ytdcafhfnkblfkaa.V
open Go
set_option maxRecDepth 100000
set_option linter.unusedVariables false
set_option linter.unusedSectionVars false
set_option linter.unusedSimpArgs false
set_option maxHeartbeats 2000000
noncomputable section
section
variable [i_laws_szType : qbp_O]
variable [g_laws_szType : qbp_G]
section
variable [i_laws_toType : qj_O]
variable [g_laws_toType : qj_G]
section
variable [i_spec_l02Size : qu_O]
variable [g_spec_l02Size : qu_G]
section
variable [i_spec_l02Depth : qh_O]
variable [g_spec_l02Depth : qh_G]
theorem qbf_is2 : LoopIs tab FT D15 live 98 qbf_lo 0 2 := by
  refine loop_told (sl := qbf_2_sl) (step := qbf_2_st) (out := qbf_2_out) (lor := qbf_lo2) (fin := fun x => (qbf_2_fin (x.1) (x.2.1) (x.2.2))) (fun _ => rfl) ?_ (fun x n => qbf_2_r x.1 x.2.1 x.2.2 n) (fun x ow => qbf_2_h x.1 x.2.1 x.2.2 ow)
  intro s t h
  unfold qbf_lo2 at h
  split at h
  · cases h; exact ⟨(_, _, _), rfl, rfl⟩
  · cases h
def qbf_t (A : LL) (v : Int) : Tr (Bool) := (.ite ((qbf_k2_1 A v (0 : Int)) = true) (.ite ((qbf_o2_2 A v (0 : Int)) = true) (.ok false)
   .no)
  (.ite ((qbf_o2_3 A v (0 : Int)) = true) (.ok true)
   .no))
def qbf_mk (p : Bool) : Res := [(false, [⟨.bool, .sh, TC.b p⟩])]
def qbf_c (A : LL) (v : Int) : Bool := (bif (qbf_k2_1 A v (0 : Int)) then ((qbf_o2_2 A v (0 : Int)) && true) else ((qbf_o2_3 A v (0 : Int)) && true))
def qbf_v (A : LL) (v : Int) : Bool := (bif (qbf_k2_1 A v (0 : Int)) then false else true)
theorem qbf_l (A : LL) (v : Int) : (qbf_c A v) = true → (qbf_t A v).val = some (qbf_v A v) := by
  unfold qbf_t qbf_v qbf_c
  exact fun h => (Tr.ss h (fun h => (Tr.gb h fun h => rfl)) (fun h => (Tr.gb h fun h => rfl)))
def qbf_S : List Arg → Option (Bool × Res) := fun xs => match xs with
  | [(false, [(.slice 2, TC.l A)]), (false, [(.int .i64, TC.i v)])] => some ((qbf_c A v), qbf_mk (qbf_v A v))
  | _ => .none
theorem qbf_e (A : LL) (v : Int) : runF tab FT D15 live 98 qbf_lo [(false, [(.slice 2, TC.l A)]), (false, [(.int .i64, TC.i v)])] = (qbf_t A v).run fun p => some (qbf_mk p) := by kernel_rfl
theorem qbf_s : ∀ xs r, qbf_S xs = some (true, r) → runF tab FT D15 live 98 qbf_lo xs = some r := by
  intro xs r h
  unfold qbf_S at h
  split at h
  · obtain ⟨h1, rfl⟩ := sp h
    exact fun_told (qbf_e ..) (qbf_l _ _) h1
  · cases h
def D16 : Dt := also D15 98 qbf_S
theorem d16 : DOk Go.Proofs.Try.prog tab D16 := d15.also mixed_ok tab_ok names_ok (fnLoops_one (by kernel_rfl) qbf_is2) qbf_s
theorem qbf_cc {A : LL} {v : Int} (hl : A.length ≤ 140737488351232) : (qbf_c A v) = true := by
  unfold qbf_c
  refine bifT (fun b1 => ?_) (fun b1 => ?_)
  · skip
    refine andT (by exact is_true ⟨rfl, hl⟩) ?_
    rfl
  · skip
    refine andT (by exact is_true ⟨rfl, hl⟩) ?_
    rfl
def qdh_t (k s : Int) (sg bg : Bool) (NA NU ME BA : LL) (ct : Int) : Tr (Bool) := (.ite ((qbf_c [[TC.i (1 : Int)], [TC.i (2 : Int)], [TC.i (4 : Int)], [TC.i (8 : Int)]] s) = true) (.ite ((!(qbf_v [[TC.i (1 : Int)], [TC.i (2 : Int)], [TC.i (4 : Int)], [TC.i (8 : Int)]] s)) = true) (.ok false)
   (.ite ((s == (8 : Int)) = true) (.ite ((!sg) = true) (.ok false)
     (.ite ((s == (1 : Int)) = true) (.ite (bg = true) (.ok false)
       (.ite (((NA.length : Int) == (0 : Int)) = true) (.ite (((NU.length : Int) == (0 : Int)) = true) (.ite (((ME.length : Int) == (0 : Int)) = true) (.ite (((BA.length : Int) == (0 : Int)) = true) (.ok (ct == (0 : Int)))
           (.ok false))
          (.ok false))
         (.ok false))
        (.ok false)))
      (.ite (((NA.length : Int) == (0 : Int)) = true) (.ite (((NU.length : Int) == (0 : Int)) = true) (.ite (((ME.length : Int) == (0 : Int)) = true) (.ite (((BA.length : Int) == (0 : Int)) = true) (.ok (ct == (0 : Int)))
          (.ok false))
         (.ok false))
        (.ok false))
       (.ok false))))
    (.ite ((s == (1 : Int)) = true) (.ite (bg = true) (.ok false)
      (.ite (((NA.length : Int) == (0 : Int)) = true) (.ite (((NU.length : Int) == (0 : Int)) = true) (.ite (((ME.length : Int) == (0 : Int)) = true) (.ite (((BA.length : Int) == (0 : Int)) = true) (.ok (ct == (0 : Int)))
          (.ok false))
         (.ok false))
        (.ok false))
       (.ok false)))
     (.ite (((NA.length : Int) == (0 : Int)) = true) (.ite (((NU.length : Int) == (0 : Int)) = true) (.ite (((ME.length : Int) == (0 : Int)) = true) (.ite (((BA.length : Int) == (0 : Int)) = true) (.ok (ct == (0 : Int)))
         (.ok false))
        (.ok false))
       (.ok false))
      (.ok false)))))
  .no)
def qdh_mk (p : Bool) : Res := [(false, [⟨.bool, .sh, TC.b p⟩])]
def qdh_c (k s : Int) (sg bg : Bool) (NA NU ME BA : LL) (ct : Int) : Bool := true
def qdh_v (k s : Int) (sg bg : Bool) (NA NU ME BA : LL) (ct : Int) : Bool := intV s sg bg NA NU ME BA ct
theorem qdh_l (k s : Int) (sg bg : Bool) (NA NU ME BA : LL) (ct : Int) : (qdh_c k s sg bg NA NU ME BA ct) = true → (qdh_t k s sg bg NA NU ME BA ct).val = some (qdh_v k s sg bg NA NU ME BA ct) := by
  intro _
  unfold qdh_t
  refine Tr.t (qbf_cc (by decide)) ?_
  rw [show qbf_v [[TC.i (1 : Int)], [TC.i (2 : Int)], [TC.i (4 : Int)], [TC.i (8 : Int)]] s = has4 s from by
    show (bif [[TC.i (1 : Int)], [TC.i (2 : Int)], [TC.i (4 : Int)], [TC.i (8 : Int)]].all (fun x => !((nth x 0).int == s)) then false else true) = _
    rw [has4_eq]; cases has4 s <;> rfl]
  simp only [Tr.val_br, Tr.val_ok]
  simp only [ite_bif, somebif]
  refine congrArg some ?_
  unfold qdh_v intV empt
  generalize has4 s = p0, (s == 8) = p1, (s == 1) = p2, ((NA.length : Int) == 0) = p3, ((NU.length : Int) == 0) = p4, ((ME.length : Int) == 0) = p5, ((BA.length : Int) == 0) = p6, (ct == 0) = p7
  cases p0 <;> cases p1 <;> cases sg <;> cases p2 <;> cases bg <;> cases p3 <;> cases p4 <;> cases p5 <;> cases p6 <;> cases p7 <;> rfl
def qdh_S : List Arg → Option (Bool × Res) := fun xs => match xs with
  | [(true, [(.int .i64, TC.i k), (.int .i64, TC.i s), (.bool, TC.b sg), (.bool, TC.b bg), (.slice 9, TC.l NA), (.slice 2, TC.l NU), (.slice 71, TC.l ME), (.slice 32, TC.l BA), (.int .i64, TC.i ct)])] => some (true, qdh_mk (qdh_v k s sg bg NA NU ME BA ct))
  | _ => .none
theorem qdh_e (k s : Int) (sg bg : Bool) (NA NU ME BA : LL) (ct : Int) : runF tab FT D16 live 63 noLoops [(true, [(.int .i64, TC.i k), (.int .i64, TC.i s), (.bool, TC.b sg), (.bool, TC.b bg), (.slice 9, TC.l NA), (.slice 2, TC.l NU), (.slice 71, TC.l ME), (.slice 32, TC.l BA), (.int .i64, TC.i ct)])] = (qdh_t k s sg bg NA NU ME BA ct).run fun p => some (qdh_mk p) := by kernel_rfl
theorem qdh_s : ∀ xs r, qdh_S xs = some (true, r) → runF tab FT D16 live 63 noLoops xs = some r := by
  intro xs r h
  unfold qdh_S at h
  split at h
  · obtain ⟨h1, rfl⟩ := sp h
    exact fun_told (qdh_e ..) (qdh_l _ _ _ _ _ _ _ _ _) rfl
  · cases h
def D17 : Dt := also D16 63 qdh_S
theorem d17 : DOk Go.Proofs.Try.prog tab D17 := d16.also mixed_ok tab_ok names_ok noLoops_ok qdh_s
def qcg_t (a0 a1 : Int) (a2 a3 : Bool) (a4 a5 a6 a7 : LL) (a8 : Int) : Tr (Bool) := (.ite ((!a2) = true) (.ok (!a3))
  (.ok false))
def qcg_mk (p : Bool) : Res := [(false, [⟨.bool, .sh, TC.b p⟩])]
def qcg_c (a0 a1 : Int) (a2 a3 : Bool) (a4 a5 a6 a7 : LL) (a8 : Int) : Bool := true
def qcg_v (a0 a1 : Int) (a2 a3 : Bool) (a4 a5 a6 a7 : LL) (a8 : Int) : Bool := (bif (!a2) then (!a3) else false)
theorem qcg_l (a0 a1 : Int) (a2 a3 : Bool) (a4 a5 a6 a7 : LL) (a8 : Int) : (qcg_c a0 a1 a2 a3 a4 a5 a6 a7 a8) = true → (qcg_t a0 a1 a2 a3 a4 a5 a6 a7 a8).val = some (qcg_v a0 a1 a2 a3 a4 a5 a6 a7 a8) := by
  intro h
  skip
  unfold qcg_t qcg_v
  exact (Tr.s rfl rfl)
def qcg_S : List Arg → Option (Bool × Res) := fun xs => match xs with
  | [(true, [(.int .i64, TC.i a0), (.int .i64, TC.i a1), (.bool, TC.b a2), (.bool, TC.b a3), (.slice 9, TC.l a4), (.slice 2, TC.l a5), (.slice 71, TC.l a6), (.slice 32, TC.l a7), (.int .i64, TC.i a8)])] => some (true, qcg_mk (qcg_v a0 a1 a2 a3 a4 a5 a6 a7 a8))
  | _ => .none
theorem qcg_e (a0 a1 : Int) (a2 a3 : Bool) (a4 a5 a6 a7 : LL) (a8 : Int) : runF tab FT D17 live 68 noLoops [(true, [(.int .i64, TC.i a0), (.int .i64, TC.i a1), (.bool, TC.b a2), (.bool, TC.b a3), (.slice 9, TC.l a4), (.slice 2, TC.l a5), (.slice 71, TC.l a6), (.slice 32, TC.l a7), (.int .i64, TC.i a8)])] = (qcg_t a0 a1 a2 a3 a4 a5 a6 a7 a8).run fun p => some (qcg_mk p) := by kernel_rfl
theorem qcg_s : ∀ xs r, qcg_S xs = some (true, r) → runF tab FT D17 live 68 noLoops xs = some r := by
  intro xs r h
  unfold qcg_S at h
  split at h
  · obtain ⟨h1, rfl⟩ := sp h
    exact fun_told (qcg_e ..) (qcg_l _ _ _ _ _ _ _ _ _) rfl
  · cases h
def D18 : Dt := also D17 68 qcg_S
theorem d18 : DOk Go.Proofs.Try.prog tab D18 := d17.also mixed_ok tab_ok names_ok noLoops_ok qcg_s
def qdf_t (a0 a1 a2 : Int) : Tr (Bool) := (.ite ((decide (a0 ≥ a1)) = true) (.ok (decide (a0 ≤ a2)))
  (.ok false))
def qdf_mk (p : Bool) : Res := [(false, [⟨.bool, .sh, TC.b p⟩])]
def qdf_c (a0 a1 a2 : Int) : Bool := true
def qdf_v (a0 a1 a2 : Int) : Bool := (bif (decide (a0 ≥ a1)) then (decide (a0 ≤ a2)) else false)
theorem qdf_l (a0 a1 a2 : Int) : (qdf_c a0 a1 a2) = true → (qdf_t a0 a1 a2).val = some (qdf_v a0 a1 a2) := by
  intro h
  skip
  unfold qdf_t qdf_v
  exact (Tr.s rfl rfl)
def qdf_S : List Arg → Option (Bool × Res) := fun xs => match xs with
  | [(false, [(.int .i64, TC.i a0)]), (false, [(.int .i64, TC.i a1)]), (false, [(.int .i64, TC.i a2)])] => some (true, qdf_mk (qdf_v a0 a1 a2))
  | _ => .none
theorem qdf_e (a0 a1 a2 : Int) : runF tab FT D18 live 64 noLoops [(false, [(.int .i64, TC.i a0)]), (false, [(.int .i64, TC.i a1)]), (false, [(.int .i64, TC.i a2)])] = (qdf_t a0 a1 a2).run fun p => some (qdf_mk p) := by kernel_rfl
theorem qdf_s : ∀ xs r, qdf_S xs = some (true, r) → runF tab FT D18 live 64 noLoops xs = some r := by
  intro xs r h
  unfold qdf_S at h
  split at h
  · obtain ⟨h1, rfl⟩ := sp h
    exact fun_told (qdf_e ..) (qdf_l _ _ _) rfl
  · cases h
def D19 : Dt := also D18 64 qdf_S
theorem d19 : DOk Go.Proofs.Try.prog tab D19 := d18.also mixed_ok tab_ok names_ok noLoops_ok qdf_s
def qbj_t (k s : Int) (sg bg : Bool) (NA NU ME BA : LL) (ct : Int) : Tr (Int × Int) := (.ite ((!sg) = true) (.ite (0 ≤ (IntKind.wrap .u64 (IntKind.wrap .i64 ((8 : Int) * s)))) (.ok ((0 : Int), (IntKind.wrap .i64 ((IntKind.wrap .i64 ((1 : Int) * (2 ^ (min ((IntKind.wrap .u64 (IntKind.wrap .i64 ((8 : Int) * s)))).toNat 64)))) - (1 : Int)))))
   .no)
  (.ite (0 ≤ (IntKind.wrap .u64 ((IntKind.wrap .u64 (IntKind.wrap .i64 ((8 : Int) * s))) - (1 : Int)))) (.ok ((IntKind.wrap .i64 ((IntKind.wrap .i64 ((0 : Int) - (IntKind.wrap .i64 ((IntKind.wrap .i64 ((1 : Int) * (2 ^ (min ((IntKind.wrap .u64 ((IntKind.wrap .u64 (IntKind.wrap .i64 ((8 : Int) * s))) - (1 : Int)))).toNat 64)))) - (1 : Int))))) - (1 : Int))), (IntKind.wrap .i64 ((IntKind.wrap .i64 ((1 : Int) * (2 ^ (min ((IntKind.wrap .u64 ((IntKind.wrap .u64 (IntKind.wrap .i64 ((8 : Int) * s))) - (1 : Int)))).toNat 64)))) - (1 : Int)))))
   .no))
def qbj_mk (p : Int × Int) : Res := [(false, [⟨.int .i64, .sh, TC.i (p.1)⟩]), (false, [⟨.int .i64, .sh, TC.i (p.2)⟩])]
def qbj_c (k s : Int) (sg bg : Bool) (NA NU ME BA : LL) (ct : Int) : Bool := (bif (!sg) then (is (0 ≤ (IntKind.wrap .u64 (IntKind.wrap .i64 ((8 : Int) * s)))) && true) else (is (0 ≤ (IntKind.wrap .u64 ((IntKind.wrap .u64 (IntKind.wrap .i64 ((8 : Int) * s))) - (1 : Int)))) && true))
def qbj_v (k s : Int) (sg bg : Bool) (NA NU ME BA : LL) (ct : Int) : Int × Int := (bif (!sg) then ((0 : Int), (IntKind.wrap .i64 ((IntKind.wrap .i64 ((1 : Int) * (2 ^ (min ((IntKind.wrap .u64 (IntKind.wrap .i64 ((8 : Int) * s)))).toNat 64)))) - (1 : Int)))) else ((IntKind.wrap .i64 ((IntKind.wrap .i64 ((0 : Int) - (IntKind.wrap .i64 ((IntKind.wrap .i64 ((1 : Int) * (2 ^ (min ((IntKind.wrap .u64 ((IntKind.wrap .u64 (IntKind.wrap .i64 ((8 : Int) * s))) - (1 : Int)))).toNat 64)))) - (1 : Int))))) - (1 : Int))), (IntKind.wrap .i64 ((IntKind.wrap .i64 ((1 : Int) * (2 ^ (min ((IntKind.wrap .u64 ((IntKind.wrap .u64 (IntKind.wrap .i64 ((8 : Int) * s))) - (1 : Int)))).toNat 64)))) - (1 : Int)))))
theorem qbj_l (k s : Int) (sg bg : Bool) (NA NU ME BA : LL) (ct : Int) : (qbj_c k s sg bg NA NU ME BA ct) = true → (qbj_t k s sg bg NA NU ME BA ct).val = some (qbj_v k s sg bg NA NU ME BA ct) := by
  unfold qbj_t qbj_v qbj_c
  exact fun h => (Tr.ss h (fun h => (Tr.gs h fun h => rfl)) (fun h => (Tr.gs h fun h => rfl)))
def qbj_S : List Arg → Option (Bool × Res) := fun xs => match xs with
  | [(true, [(.int .i64, TC.i k), (.int .i64, TC.i s), (.bool, TC.b sg), (.bool, TC.b bg), (.slice 9, TC.l NA), (.slice 2, TC.l NU), (.slice 71, TC.l ME), (.slice 32, TC.l BA), (.int .i64, TC.i ct)])] => some ((qbj_c k s sg bg NA NU ME BA ct), qbj_mk (qbj_v k s sg bg NA NU ME BA ct))
  | _ => .none
theorem qbj_e (k s : Int) (sg bg : Bool) (NA NU ME BA : LL) (ct : Int) : runF tab FT D19 live 99 noLoops [(true, [(.int .i64, TC.i k), (.int .i64, TC.i s), (.bool, TC.b sg), (.bool, TC.b bg), (.slice 9, TC.l NA), (.slice 2, TC.l NU), (.slice 71, TC.l ME), (.slice 32, TC.l BA), (.int .i64, TC.i ct)])] = (qbj_t k s sg bg NA NU ME BA ct).run fun p => some (qbj_mk p) := by kernel_rfl
theorem qbj_s : ∀ xs r, qbj_S xs = some (true, r) → runF tab FT D19 live 99 noLoops xs = some r := by
  intro xs r h
  unfold qbj_S at h
  split at h
  · obtain ⟨h1, rfl⟩ := sp h
    exact fun_told (qbj_e ..) (qbj_l _ _ _ _ _ _ _ _ _) h1
  · cases h
def D20 : Dt := also D19 99 qbj_S
theorem d20 : DOk Go.Proofs.Try.prog tab D20 := d19.also mixed_ok tab_ok names_ok noLoops_ok qbj_s
theorem qbj_cc {k : Int} {s : Int} {sg : Bool} {bg : Bool} {NA : LL} {NU : LL} {ME : LL} {BA : LL} {ct : Int}  : (qbj_c k s sg bg NA NU ME BA ct) = true := by
  unfold qbj_c
  refine bifT (fun b1 => ?_) (fun b1 => ?_)
  · skip
    refine andT (is_true (by rw [IntKind.wrap_u64]; omega)) ?_
    rfl
  · skip
    refine andT (is_true (by rw [IntKind.wrap_u64]; omega)) ?_
    rfl
def qdg_t (a0 : Int) : Tr (Bool) := (.ite ((decide (a0 ≥ (65 : Int))) = true) (.ite ((decide (a0 ≤ (90 : Int))) = true) (.ok true)
   (.ite ((decide (a0 ≥ (97 : Int))) = true) (.ok (decide (a0 ≤ (122 : Int))))
    (.ok false)))
  (.ite ((decide (a0 ≥ (97 : Int))) = true) (.ok (decide (a0 ≤ (122 : Int))))
   (.ok false)))
def qdg_mk (p : Bool) : Res := [(false, [⟨.bool, .sh, TC.b p⟩])]
def qdg_c (a0 : Int) : Bool := true
def qdg_v (a0 : Int) : Bool := (bif (decide (a0 ≥ (65 : Int))) then (bif (decide (a0 ≤ (90 : Int))) then true else (bif (decide (a0 ≥ (97 : Int))) then (decide (a0 ≤ (122 : Int))) else false)) else (bif (decide (a0 ≥ (97 : Int))) then (decide (a0 ≤ (122 : Int))) else false))
theorem qdg_l (a0 : Int) : (qdg_c a0) = true → (qdg_t a0).val = some (qdg_v a0) := by
  intro h
  skip
  unfold qdg_t qdg_v
  exact (Tr.s (Tr.s rfl (Tr.s rfl rfl)) (Tr.s rfl rfl))
def qdg_S : List Arg → Option (Bool × Res) := fun xs => match xs with
  | [(false, [(.int .u8, TC.i a0)])] => some (true, qdg_mk (qdg_v a0))
  | _ => .none
theorem qdg_e (a0 : Int) : runF tab FT D20 live 130 noLoops [(false, [(.int .u8, TC.i a0)])] = (qdg_t a0).run fun p => some (qdg_mk p) := by kernel_rfl
theorem qdg_s : ∀ xs r, qdg_S xs = some (true, r) → runF tab FT D20 live 130 noLoops xs = some r := by
  intro xs r h
  unfold qdg_S at h
  split at h
  · obtain ⟨h1, rfl⟩ := sp h
    exact fun_told (qdg_e _) (qdg_l _) rfl
  · cases h
def D21 : Dt := also D20 130 qdg_S
theorem d21 : DOk Go.Proofs.Try.prog tab D21 := d20.also mixed_ok tab_ok names_ok noLoops_ok qdg_s
def qz_f4 (s : BS) (i : Int) : (Unit) ⊕ ((Unit) ⊕ (Unit)) := (bif (!(qdg_v ((s.getD (i).toNat 0).toNat : Int))) then (bif (decide (((s.getD (i).toNat 0).toNat : Int) ≥ (48 : Int))) then (bif (!(decide (((s.getD (i).toNat 0).toNat : Int) ≤ (57 : Int)))) then (bif (!(((s.getD (i).toNat 0).toNat : Int) == (95 : Int))) then (.inr (.inl ())) else (.inl ())) else (.inl ())) else (bif (!(((s.getD (i).toNat 0).toNat : Int) == (95 : Int))) then (.inr (.inl ())) else (.inl ()))) else (.inl ()))
def qz_e4 (s : BS) : (Unit) ⊕ (Unit) := .inr ()
def qz_R4 (s : BS) (i : Int) : (Unit) ⊕ (Unit) := iter (fun i a => (qz_f4 s ((i + 1 : Nat) : Int))) (fun a => (qz_e4 s)) (s.length - 1) 0 ()
abbrev qz_4_σ := BS × Int
abbrev qz_4_ω := (Unit) ⊕ (Unit)
def qz_4_step (s : BS) (i : Int) : Tr (qz_4_σ ⊕ qz_4_ω) := (.ite ((decide (i < (s.length : Int))) = true) (.ite ((0 : Int) ≤ i ∧ i < (s.length : Int)) (.ite ((!(qdg_v ((s.getD (i).toNat 0).toNat : Int))) = true) (.ite ((0 : Int) ≤ i ∧ i < (s.length : Int)) (.ite ((decide (((s.getD (i).toNat 0).toNat : Int) ≥ (48 : Int))) = true) (.ite ((0 : Int) ≤ i ∧ i < (s.length : Int)) (.ite ((!(decide (((s.getD (i).toNat 0).toNat : Int) ≤ (57 : Int)))) = true) (.ite ((0 : Int) ≤ i ∧ i < (s.length : Int)) (.ite ((!(((s.getD (i).toNat 0).toNat : Int) == (95 : Int))) = true) (.ok (.inr (.inl ())))
          (.ok (.inl (s, (IntKind.wrap .i64 (i + (1 : Int)))))))
         .no)
        (.ok (.inl (s, (IntKind.wrap .i64 (i + (1 : Int)))))))
       .no)
      (.ite ((0 : Int) ≤ i ∧ i < (s.length : Int)) (.ite ((!(((s.getD (i).toNat 0).toNat : Int) == (95 : Int))) = true) (.ok (.inr (.inl ())))
        (.ok (.inl (s, (IntKind.wrap .i64 (i + (1 : Int)))))))
       .no))
     .no)
    (.ok (.inl (s, (IntKind.wrap .i64 (i + (1 : Int)))))))
   .no)
  (.ok (.inr (.inr ()))))
def qz_4_st : qz_4_σ → Tr (qz_4_σ ⊕ qz_4_ω) := fun x => (qz_4_step (x.1) (x.2))
def qz_k4_1 (s : BS) (i : Int) : Bool := sumIs (qz_R4 s i)
def qz_o4_2 (s : BS) (i : Int) : Bool := is (i = 1 ∧ s.length ≤ 140737488355328)
def qz_o4_3 (s : BS) (i : Int) : Bool := is (i = 1 ∧ s.length ≤ 140737488355328)
def qz_4_fin (s : BS) (i : Int) : Told qz_4_ω := (.br (qz_k4_1 s i) (.leaf (qz_o4_2 s i) (.inl ())) (.leaf (qz_o4_3 s i) (.inr ())))
def qz_4_sl (x : qz_4_σ) : List Slot := [⟨.val false [⟨.str, .sh, TC.s (x.1)⟩], ⟨0, 0⟩⟩, ⟨.val false [⟨.int .i64, .sh, TC.i (x.2)⟩], ⟨0, 0⟩⟩]
def qz_4_out : qz_4_ω → Ex × List Slot := (Sum.elim (fun x => (.ret, [⟨.val false [⟨.bool, .sh, TC.b false⟩], ⟨0, 0⟩⟩])) (fun x => (.exit 0, [Slot.none])))
def qz_lo4 : List Slot → Option (Told (Ex × List Slot)) := fun s => match s with
  | [⟨.val false [⟨.str, .sh, TC.s s⟩], ⟨0, 0⟩⟩, ⟨.val false [⟨.int .i64, .sh, TC.i i⟩], ⟨0, 0⟩⟩] => some (((qz_4_fin s i)).map qz_4_out)
  | _ => .none
def qz_lo : LoopTeller := fun r s => bif Nat.beq r 4 then qz_lo4 s else .none
theorem qz_4_r (s : BS) (i : Int) (fuel : Nat) : rounds (rnd tab FT D21 live 100 qz_lo 0 4) leave (fuel + 1) (qz_4_sl (s, i)) = ((qz_4_step s i)).run (goOn (fun s => rounds (rnd tab FT D21 live 100 qz_lo 0 4) leave fuel (qz_4_sl s)) fun w => some (qz_4_out w)) := by kernel_rfl
theorem qz_f4_eq (s : BS) (i : Int) : qz_f4 s i = bif (letterB ((s.getD (i).toNat 0).toNat : Int) || ((decide (((s.getD (i).toNat 0).toNat : Int) ≥ 48) && decide (((s.getD (i).toNat 0).toNat : Int) ≤ 57)) || ((s.getD (i).toNat 0).toNat : Int) == 95)) then Sum.inl () else Sum.inr (Sum.inl ()) := by
  unfold qz_f4 letterB
  simp only [qdg_v, dlt, dgt]
  generalize ((s.getD i.toNat 0).toNat : Int) = c
  generalize decide (c ≥ 65) = p0, decide (c ≤ 90) = p1, decide (c ≥ 97) = p2, decide (c ≤ 122) = p3, decide (c ≥ 48) = p4, decide (c ≤ 57) = p5, (c == 95) = p6
  cases p0 <;> cases p1 <;> cases p2 <;> cases p3 <;> cases p4 <;> cases p5 <;> cases p6 <;> rfl
theorem qz_R4_eq (s : BS)  : qz_R4 s 1 = bif allI (fun i : Nat => (letterB ((s.getD (((i + 1 : Nat) : Int)).toNat 0).toNat : Int) || ((decide (((s.getD (((i + 1 : Nat) : Int)).toNat 0).toNat : Int) ≥ 48) && decide (((s.getD (((i + 1 : Nat) : Int)).toNat 0).toNat : Int) ≤ 57)) || ((s.getD (((i + 1 : Nat) : Int)).toNat 0).toNat : Int) == 95))) (s.length - 1) then Sum.inr () else (Sum.inl ()) := by
  unfold qz_R4
  exact (iter_all (P := (fun i : Nat => (letterB ((s.getD (((i + 1 : Nat) : Int)).toNat 0).toNat : Int) || ((decide (((s.getD (((i + 1 : Nat) : Int)).toNat 0).toNat : Int) ≥ 48) && decide (((s.getD (((i + 1 : Nat) : Int)).toNat 0).toNat : Int) ≤ 57)) || ((s.getD (((i + 1 : Nat) : Int)).toNat 0).toNat : Int) == 95)))) (g := fun _ a => a) (w := Sum.inl ()) fun j a _ => qz_f4_eq s _)
theorem qz_4_h (s : BS) (i : Int) (ow : qz_4_ω) : ((qz_4_fin s i)).val = some ow → ∃ fuel, loopN qz_4_st fuel (s, i) = some ow := by
  refine auto_const (R := (qz_R4 s i)) rfl (iter_onR (f := (fun i a => (qz_f4 s ((i + 1 : Nat) : Int)))) (fin := (fun a => (qz_e4 s))) (Q := endsAs () ()) (fun i a => by unfold qz_f4; exact (onR_bif (onR_bif (onR_bif (onR_bif rfl trivial) trivial) (onR_bif rfl trivial)) trivial)) (fun _ => rfl) _ _ _) ?_
  intro ho
  have ho : is (i = 1 ∧ s.length ≤ 140737488355328) = true := ho.elim id id
  obtain ⟨rfl, hs⟩ := is_iff.1 ho
  skip
  refine ⟨(s.length - 1) + 1, ?_⟩
  refine iter_loop (step := qz_4_st) (s.length - 1) (fun i a => (qz_f4 s ((i + 1 : Nat) : Int))) (fun a => (qz_e4 s)) (fun i a => (s, ((i + 1 : Nat) : Int))) (fun _ _ => True) trivial (fun i a hi hI => ⟨?_, fun _ _ => trivial⟩) (fun a hI => ?_)
  · show (qz_4_step s ((i + 1 : Nat) : Int)).val = _
    unfold qz_4_step qz_f4
    skip
    refine Tr.t (by simp; omega) ?_
    exact (Tr.t (by first | omega | (constructor <;> omega)) (Tr.bf (Tr.t (by first | omega | (constructor <;> omega)) (Tr.bf (Tr.t (by first | omega | (constructor <;> omega)) (Tr.bf (Tr.t (by first | omega | (constructor <;> omega)) (Tr.bf rfl (by rw [Tr.val_ok, wrap64 (i := ((i + 1 : Nat) : Int) + 1) (by omega) (by omega)]; rfl))) (by rw [Tr.val_ok, wrap64 (i := ((i + 1 : Nat) : Int) + 1) (by omega) (by omega)]; rfl))) (Tr.t (by first | omega | (constructor <;> omega)) (Tr.bf rfl (by rw [Tr.val_ok, wrap64 (i := ((i + 1 : Nat) : Int) + 1) (by omega) (by omega)]; rfl))))) (by rw [Tr.val_ok, wrap64 (i := ((i + 1 : Nat) : Int) + 1) (by omega) (by omega)]; rfl)))
  · show (qz_4_step s ((s.length - 1 + 1 : Nat) : Int)).val = _
    refine Tr.n (by first | (simp; done) | (simp; omega) | omega) ?_
    rfl
theorem qz_is4 : LoopIs tab FT D21 live 100 qz_lo 0 4 := by
  refine loop_told (sl := qz_4_sl) (step := qz_4_st) (out := qz_4_out) (lor := qz_lo4) (fin := fun x => (qz_4_fin (x.1) (x.2))) (fun _ => rfl) ?_ (fun x n => qz_4_r x.1 x.2 n) (fun x ow => qz_4_h x.1 x.2 ow)
  intro s t h
  unfold qz_lo4 at h
  split at h
  · cases h; exact ⟨(_, _), rfl, rfl⟩
  · cases h
def qz_t (s : BS) : Tr (Bool) := (.ite (((s.length : Int) == (0 : Int)) = true) (.ok false)
  (.ite ((decide ((s.length : Int) > (12 : Int))) = true) (.ok false)
   (.ite ((0 : Int) ≤ (0 : Int) ∧ (0 : Int) < (s.length : Int)) (.ite ((!(qdg_v ((s.getD ((0 : Int)).toNat 0).toNat : Int))) = true) (.ok false)
     (.ite ((qz_k4_1 s (1 : Int)) = true) (.ite ((qz_o4_2 s (1 : Int)) = true) (.ok false)
       .no)
      (.ite ((qz_o4_3 s (1 : Int)) = true) (.ok true)
       .no)))
    .no)))
def qz_mk (p : Bool) : Res := [(false, [⟨.bool, .sh, TC.b p⟩])]
def qz_c (s : BS) : Bool := (bif ((s.length : Int) == (0 : Int)) then true else (bif (decide ((s.length : Int) > (12 : Int))) then true else (is ((0 : Int) ≤ (0 : Int) ∧ (0 : Int) < (s.length : Int)) && (bif (!(qdg_v ((s.getD ((0 : Int)).toNat 0).toNat : Int))) then true else (bif (qz_k4_1 s (1 : Int)) then ((qz_o4_2 s (1 : Int)) && true) else ((qz_o4_3 s (1 : Int)) && true))))))
def qz_v (s : BS) : Bool := (bif ((s.length : Int) == (0 : Int)) then false else (bif (decide ((s.length : Int) > (12 : Int))) then false else (bif (!(qdg_v ((s.getD ((0 : Int)).toNat 0).toNat : Int))) then false else (bif (qz_k4_1 s (1 : Int)) then false else true))))
theorem qz_l (s : BS) : (qz_c s) = true → (qz_t s).val = some (qz_v s) := by
  unfold qz_t qz_v qz_c
  exact fun h => (Tr.ss h (fun h => rfl) (fun h => (Tr.ss h (fun h => rfl) (fun h => (Tr.gs h fun h => (Tr.ss h (fun h => rfl) (fun h => (Tr.ss h (fun h => (Tr.gb h fun h => rfl)) (fun h => (Tr.gb h fun h => rfl))))))))))
def qz_S : List Arg → Option (Bool × Res) := fun xs => match xs with
  | [(false, [(.str, TC.s s)])] => some ((qz_c s), qz_mk (qz_v s))
  | _ => .none
theorem qz_e (s : BS) : runF tab FT D21 live 100 qz_lo [(false, [(.str, TC.s s)])] = (qz_t s).run fun p => some (qz_mk p) := by kernel_rfl
theorem qz_s : ∀ xs r, qz_S xs = some (true, r) → runF tab FT D21 live 100 qz_lo xs = some r := by
  intro xs r h
  unfold qz_S at h
  split at h
  · obtain ⟨h1, rfl⟩ := sp h
    exact fun_told (qz_e _) (qz_l _) h1
  · cases h
def D22 : Dt := also D21 100 qz_S
theorem d22 : DOk Go.Proofs.Try.prog tab D22 := d21.also mixed_ok tab_ok names_ok (fnLoops_one (by kernel_rfl) qz_is4) qz_s
theorem qz_cc {s : BS} (hs : Typed tab (.str) (.s s)) : (qz_c s) = true := by
  unfold qz_c
  refine bifT (fun b1 => ?_) (fun b1 => ?_)
  · skip
    rfl
  · skip
    refine bifT (fun b2 => ?_) (fun b2 => ?_)
    · skip
      rfl
    · skip
      refine andT (is_true (by exact ⟨by omega, by have h2 := ne_of_beq_false b1; omega⟩)) ?_
      refine bifT (fun b3 => ?_) (fun b3 => ?_)
      · skip
        rfl
      · skip
        refine bifT (fun b4 => ?_) (fun b4 => ?_)
        · skip
          refine andT (by exact is_true ⟨rfl, by have := typed_str_len hs; omega⟩) ?_
          rfl
        · skip
          refine andT (by exact is_true ⟨rfl, by have := typed_str_len hs; omega⟩) ?_
          rfl
theorem qz_vv (s : BS) : qz_v s = nameOk s := by
  unfold qz_v qz_k4_1
  rw [qz_R4_eq]
  have e3 : qdg_v ((s.getD ((0 : Int)).toNat 0).toNat : Int) = nameB ((0 : Nat) : Int) ((s.getD (((0 : Nat) : Int)).toNat 0).toNat : Int) := by
    unfold qdg_v nameB letterB
    generalize ((s.getD ((0 : Int)).toNat 0).toNat : Int) = c
    generalize decide (c ≥ 65) = p1, decide (c ≤ 90) = p2, decide (c ≥ 97) = p3, decide (c ≤ 122) = p4
    cases p1 <;> cases p2 <;> cases p3 <;> cases p4 <;> rfl
  rw [e3]
  cases h0 : s.length with
  | zero =>
    have : s = [] := List.eq_nil_of_length_eq_zero h0
    subst this
    rfl
  | succ n =>
    have e2 : allI (fun i : Nat => nameB ((i + 1 : Nat) : Int) ((s.getD (((i + 1 : Nat) : Int)).toNat 0).toNat : Int)) n = allI (fun i : Nat => (letterB ((s.getD (((i + 1 : Nat) : Int)).toNat 0).toNat : Int) || ((decide (((s.getD (((i + 1 : Nat) : Int)).toNat 0).toNat : Int) ≥ 48) && decide (((s.getD (((i + 1 : Nat) : Int)).toNat 0).toNat : Int) ≤ 57)) || ((s.getD (((i + 1 : Nat) : Int)).toNat 0).toNat : Int) == 95))) n := allI_congr fun i _ => by
      unfold nameB
      rw [show (((i + 1 : Nat) : Int) == 0) = false from by simp; omega]
      rfl
    unfold nameOk
    rw [h0, allI_head, e2, Nat.add_sub_cancel]
    rw [show (((n + 1 : Nat) : Int) == 0) = false from by simp; omega, show decide (((n + 1 : Nat) : Int) ≥ 1) = true from by simp; omega, dgt]
    generalize nameB ((0 : Nat) : Int) ((s.getD (((0 : Nat) : Int)).toNat 0).toNat : Int) = q1
    generalize allI (fun i : Nat => (letterB ((s.getD (((i + 1 : Nat) : Int)).toNat 0).toNat : Int) || ((decide (((s.getD (((i + 1 : Nat) : Int)).toNat 0).toNat : Int) ≥ 48) && decide (((s.getD (((i + 1 : Nat) : Int)).toNat 0).toNat : Int) ≤ 57)) || ((s.getD (((i + 1 : Nat) : Int)).toNat 0).toNat : Int) == 95))) n = q2
    generalize decide (((n + 1 : Nat) : Int) ≤ 12) = q3
    cases q1 <;> cases q2 <;> cases q3 <;> rfl
def qm_f12 (k s : Int) (sg bg : Bool) (NA NU ME BA : LL) (ct low high ix q : Int) : (Unit) ⊕ ((Int × Int × Bool × Bool × LL × LL × LL × LL × Int × Int × Int × Int) ⊕ (Int × Int × Bool × Bool × LL × LL × LL × LL × Int × Int × Int × Int)) := (bif ((nth (row NA q) 0).str == (nth (row NA ix) 0).str) then (.inr (.inl (k, s, sg, bg, NA, NU, ME, BA, ct, low, high, ix))) else (.inl ()))
def qm_e12 (k s : Int) (sg bg : Bool) (NA NU ME BA : LL) (ct low high ix : Int) : (Int × Int × Bool × Bool × LL × LL × LL × LL × Int × Int × Int × Int) ⊕ (Int × Int × Bool × Bool × LL × LL × LL × LL × Int × Int × Int × Int) := .inr (k, s, sg, bg, NA, NU, ME, BA, ct, low, high, ix)
def qm_R12 (k s : Int) (sg bg : Bool) (NA NU ME BA : LL) (ct low high ix q : Int) : (Int × Int × Bool × Bool × LL × LL × LL × LL × Int × Int × Int × Int) ⊕ (Int × Int × Bool × Bool × LL × LL × LL × LL × Int × Int × Int × Int) := iter (fun i a => (qm_f12 k s sg bg NA NU ME BA ct low high ix (i : Int))) (fun a => (qm_e12 k s sg bg NA NU ME BA ct low high ix)) (ix.toNat) 0 ()
abbrev qm_12_σ := Int × Int × Bool × Bool × LL × LL × LL × LL × Int × Int × Int × Int × Int
abbrev qm_12_ω := (Int × Int × Bool × Bool × LL × LL × LL × LL × Int × Int × Int × Int) ⊕ (Int × Int × Bool × Bool × LL × LL × LL × LL × Int × Int × Int × Int)
def qm_12_step (k s : Int) (sg bg : Bool) (NA NU ME BA : LL) (ct low high ix q : Int) : Tr (qm_12_σ ⊕ qm_12_ω) := (.ite ((decide (q < ix)) = true) (.ite ((0 : Int) ≤ q ∧ q < (NA.length : Int)) (.ite ((0 : Int) ≤ ix ∧ ix < (NA.length : Int)) (.ite (((nth (row NA q) 0).str == (nth (row NA ix) 0).str) = true) (.ok (.inr (.inl (k, s, sg, bg, NA, NU, ME, BA, ct, low, high, ix))))
     (.ok (.inl (k, s, sg, bg, NA, NU, ME, BA, ct, low, high, ix, (IntKind.wrap .i64 (q + (1 : Int)))))))
    .no)
   .no)
  (.ok (.inr (.inr (k, s, sg, bg, NA, NU, ME, BA, ct, low, high, ix)))))
def qm_12_st : qm_12_σ → Tr (qm_12_σ ⊕ qm_12_ω) := fun x => (qm_12_step (x.1) (x.2.1) (x.2.2.1) (x.2.2.2.1) (x.2.2.2.2.1) (x.2.2.2.2.2.1) (x.2.2.2.2.2.2.1) (x.2.2.2.2.2.2.2.1) (x.2.2.2.2.2.2.2.2.1) (x.2.2.2.2.2.2.2.2.2.1) (x.2.2.2.2.2.2.2.2.2.2.1) (x.2.2.2.2.2.2.2.2.2.2.2.1) (x.2.2.2.2.2.2.2.2.2.2.2.2))
def qm_k12_1 (k s : Int) (sg bg : Bool) (NA NU ME BA : LL) (ct low high ix q : Int) : Bool := sumIs (qm_R12 k s sg bg NA NU ME BA ct low high ix q)
def qm_o12_2 (k s : Int) (sg bg : Bool) (NA NU ME BA : LL) (ct low high ix q : Int) : Bool := is (q = 0 ∧ 0 ≤ ix ∧ ix < (NA.length : Int) ∧ NA.length ≤ 140737488355328)
def qm_o12_3 (k s : Int) (sg bg : Bool) (NA NU ME BA : LL) (ct low high ix q : Int) : Bool := is (q = 0 ∧ 0 ≤ ix ∧ ix < (NA.length : Int) ∧ NA.length ≤ 140737488355328)
def qm_12_fin (k s : Int) (sg bg : Bool) (NA NU ME BA : LL) (ct low high ix q : Int) : Told qm_12_ω := (.br (qm_k12_1 k s sg bg NA NU ME BA ct low high ix q) (.leaf (qm_o12_2 k s sg bg NA NU ME BA ct low high ix q) (.inl (k, s, sg, bg, NA, NU, ME, BA, ct, low, high, ix))) (.leaf (qm_o12_3 k s sg bg NA NU ME BA ct low high ix q) (.inr (k, s, sg, bg, NA, NU, ME, BA, ct, low, high, ix))))
def qm_12_sl (x : qm_12_σ) : List Slot := [⟨.bx 32 [⟨.int .i64, .sh, TC.i (x.1)⟩, ⟨.int .i64, .sh, TC.i (x.2.1)⟩, ⟨.bool, .sh, TC.b (x.2.2.1)⟩, ⟨.bool, .sh, TC.b (x.2.2.2.1)⟩, ⟨.slice 9, .sh, TC.l (x.2.2.2.2.1)⟩, ⟨.slice 2, .sh, TC.l (x.2.2.2.2.2.1)⟩, ⟨.slice 71, .sh, TC.l (x.2.2.2.2.2.2.1)⟩, ⟨.slice 32, .sh, TC.l (x.2.2.2.2.2.2.2.1)⟩, ⟨.int .i64, .sh, TC.i (x.2.2.2.2.2.2.2.2.1)⟩], ⟨0, 0⟩⟩, ⟨.val false [⟨.int .i64, .sh, TC.i (x.2.2.2.2.2.2.2.2.2.1)⟩], ⟨0, 0⟩⟩, ⟨.val false [⟨.int .i64, .sh, TC.i (x.2.2.2.2.2.2.2.2.2.2.1)⟩], ⟨0, 0⟩⟩, ⟨.val false [⟨.int .i64, .sh, TC.i (x.2.2.2.2.2.2.2.2.2.2.2.1)⟩], ⟨0, 0⟩⟩, ⟨.val false [⟨.int .i64, .sh, TC.i (x.2.2.2.2.2.2.2.2.2.2.2.2)⟩], ⟨0, 0⟩⟩]
def qm_12_out : qm_12_ω → Ex × List Slot := (Sum.elim (fun x => (.ret, [⟨.bx 32 [⟨.int .i64, .sh, TC.i (x.1)⟩, ⟨.int .i64, .sh, TC.i (x.2.1)⟩, ⟨.bool, .sh, TC.b (x.2.2.1)⟩, ⟨.bool, .sh, TC.b (x.2.2.2.1)⟩, ⟨.slice 9, .sh, TC.l (x.2.2.2.2.1)⟩, ⟨.slice 2, .sh, TC.l (x.2.2.2.2.2.1)⟩, ⟨.slice 71, .sh, TC.l (x.2.2.2.2.2.2.1)⟩, ⟨.slice 32, .sh, TC.l (x.2.2.2.2.2.2.2.1)⟩, ⟨.int .i64, .sh, TC.i (x.2.2.2.2.2.2.2.2.1)⟩], ⟨0, 0⟩⟩, ⟨.val false [⟨.bool, .sh, TC.b false⟩], ⟨0, 0⟩⟩, ⟨.val false [⟨.int .i64, .sh, TC.i (x.2.2.2.2.2.2.2.2.2.1)⟩], ⟨0, 0⟩⟩, ⟨.val false [⟨.int .i64, .sh, TC.i (x.2.2.2.2.2.2.2.2.2.2.1)⟩], ⟨0, 0⟩⟩, ⟨.val false [⟨.int .i64, .sh, TC.i (x.2.2.2.2.2.2.2.2.2.2.2)⟩], ⟨0, 0⟩⟩])) (fun x => (.exit 2, [⟨.bx 32 [⟨.int .i64, .sh, TC.i (x.1)⟩, ⟨.int .i64, .sh, TC.i (x.2.1)⟩, ⟨.bool, .sh, TC.b (x.2.2.1)⟩, ⟨.bool, .sh, TC.b (x.2.2.2.1)⟩, ⟨.slice 9, .sh, TC.l (x.2.2.2.2.1)⟩, ⟨.slice 2, .sh, TC.l (x.2.2.2.2.2.1)⟩, ⟨.slice 71, .sh, TC.l (x.2.2.2.2.2.2.1)⟩, ⟨.slice 32, .sh, TC.l (x.2.2.2.2.2.2.2.1)⟩, ⟨.int .i64, .sh, TC.i (x.2.2.2.2.2.2.2.2.1)⟩], ⟨0, 0⟩⟩, Slot.none, ⟨.val false [⟨.int .i64, .sh, TC.i (x.2.2.2.2.2.2.2.2.2.1)⟩], ⟨0, 0⟩⟩, ⟨.val false [⟨.int .i64, .sh, TC.i (x.2.2.2.2.2.2.2.2.2.2.1)⟩], ⟨0, 0⟩⟩, ⟨.val false [⟨.int .i64, .sh, TC.i (x.2.2.2.2.2.2.2.2.2.2.2)⟩], ⟨0, 0⟩⟩])))
def qm_lo12 : List Slot → Option (Told (Ex × List Slot)) := fun s => match s with
  | [⟨.bx 32 [⟨.int .i64, .sh, TC.i k⟩, ⟨.int .i64, .sh, TC.i s⟩, ⟨.bool, .sh, TC.b sg⟩, ⟨.bool, .sh, TC.b bg⟩, ⟨.slice 9, .sh, TC.l NA⟩, ⟨.slice 2, .sh, TC.l NU⟩, ⟨.slice 71, .sh, TC.l ME⟩, ⟨.slice 32, .sh, TC.l BA⟩, ⟨.int .i64, .sh, TC.i ct⟩], ⟨0, 0⟩⟩, ⟨.val false [⟨.int .i64, .sh, TC.i low⟩], ⟨0, 0⟩⟩, ⟨.val false [⟨.int .i64, .sh, TC.i high⟩], ⟨0, 0⟩⟩, ⟨.val false [⟨.int .i64, .sh, TC.i ix⟩], ⟨0, 0⟩⟩, ⟨.val false [⟨.int .i64, .sh, TC.i q⟩], ⟨0, 0⟩⟩] => some (((qm_12_fin k s sg bg NA NU ME BA ct low high ix q)).map qm_12_out)
  | _ => .none
def qm_f7 (k s : Int) (sg bg : Bool) (NA NU ME BA : LL) (ct low high i : Int) : (Unit) ⊕ ((Unit) ⊕ (Unit)) := (bif (!(qz_v ((nth (row NA i) 0).str))) then (.inr (.inl ())) else (bif (!(qdf_v ((nth (row NU i) 0).int) low high)) then (.inr (.inl ())) else (bif (decide (i > (0 : Int))) then (bif (decide ((nth (row NU (IntKind.wrap .i64 (i - (1 : Int)))) 0).int ≥ (nth (row NU i) 0).int)) then (.inr (.inl ())) else (bif (qm_k12_1 k s sg bg NA NU ME BA ct low high i (0 : Int)) then (.inr (.inl ())) else (.inl ()))) else (bif (qm_k12_1 k s sg bg NA NU ME BA ct low high i (0 : Int)) then (.inr (.inl ())) else (.inl ())))))
def qm_e7 (k s : Int) (sg bg : Bool) (NA NU ME BA : LL) (ct low high : Int) : (Unit) ⊕ (Unit) := .inr ()
def qm_R7 (k s : Int) (sg bg : Bool) (NA NU ME BA : LL) (ct low high i : Int) : (Unit) ⊕ (Unit) := iter (fun i a => (qm_f7 k s sg bg NA NU ME BA ct low high (i : Int))) (fun a => (qm_e7 k s sg bg NA NU ME BA ct low high)) (NA.length) 0 ()
abbrev qm_7_σ := Int × Int × Bool × Bool × LL × LL × LL × LL × Int × Int × Int × Int
abbrev qm_7_ω := (Unit) ⊕ (Unit)
def qm_7_step (k s : Int) (sg bg : Bool) (NA NU ME BA : LL) (ct low high i : Int) : Tr (qm_7_σ ⊕ qm_7_ω) := (.ite ((decide (i < (NA.length : Int))) = true) (.ite ((0 : Int) ≤ i ∧ i < (NA.length : Int)) (.ite ((qz_c ((nth (row NA i) 0).str)) = true) (.ite ((!(qz_v ((nth (row NA i) 0).str))) = true) (.ok (.inr (.inl ())))
     (.ite ((0 : Int) ≤ i ∧ i < (NU.length : Int)) (.ite ((!(qdf_v ((nth (row NU i) 0).int) low high)) = true) (.ok (.inr (.inl ())))
       (.ite ((decide (i > (0 : Int))) = true) (.ite ((0 : Int) ≤ (IntKind.wrap .i64 (i - (1 : Int))) ∧ (IntKind.wrap .i64 (i - (1 : Int))) < (NU.length : Int)) (.ite ((0 : Int) ≤ i ∧ i < (NU.length : Int)) (.ite ((decide ((nth (row NU (IntKind.wrap .i64 (i - (1 : Int)))) 0).int ≥ (nth (row NU i) 0).int)) = true) (.ok (.inr (.inl ())))
           (.ite ((qm_k12_1 k s sg bg NA NU ME BA ct low high i (0 : Int)) = true) (.ite ((qm_o12_2 k s sg bg NA NU ME BA ct low high i (0 : Int)) = true) (.ok (.inr (.inl ())))
             .no)
            (.ite ((qm_o12_3 k s sg bg NA NU ME BA ct low high i (0 : Int)) = true) (.ok (.inl (k, s, sg, bg, NA, NU, ME, BA, ct, low, high, (IntKind.wrap .i64 (i + (1 : Int))))))
             .no)))
          .no)
         .no)
        (.ite ((qm_k12_1 k s sg bg NA NU ME BA ct low high i (0 : Int)) = true) (.ite ((qm_o12_2 k s sg bg NA NU ME BA ct low high i (0 : Int)) = true) (.ok (.inr (.inl ())))
          .no)
         (.ite ((qm_o12_3 k s sg bg NA NU ME BA ct low high i (0 : Int)) = true) (.ok (.inl (k, s, sg, bg, NA, NU, ME, BA, ct, low, high, (IntKind.wrap .i64 (i + (1 : Int))))))
          .no))))
      .no))
    .no)
   .no)
  (.ok (.inr (.inr ()))))
def qm_7_st : qm_7_σ → Tr (qm_7_σ ⊕ qm_7_ω) := fun x => (qm_7_step (x.1) (x.2.1) (x.2.2.1) (x.2.2.2.1) (x.2.2.2.2.1) (x.2.2.2.2.2.1) (x.2.2.2.2.2.2.1) (x.2.2.2.2.2.2.2.1) (x.2.2.2.2.2.2.2.2.1) (x.2.2.2.2.2.2.2.2.2.1) (x.2.2.2.2.2.2.2.2.2.2.1) (x.2.2.2.2.2.2.2.2.2.2.2))
def qm_k7_1 (k s : Int) (sg bg : Bool) (NA NU ME BA : LL) (ct low high i : Int) : Bool := sumIs (qm_R7 k s sg bg NA NU ME BA ct low high i)
def qm_o7_2 (k s : Int) (sg bg : Bool) (NA NU ME BA : LL) (ct low high i : Int) : Bool := is (i = 0 ∧ Typed tab (.slice 9) (.l NA) ∧ NU.length = NA.length)
def qm_o7_3 (k s : Int) (sg bg : Bool) (NA NU ME BA : LL) (ct low high i : Int) : Bool := is (i = 0 ∧ Typed tab (.slice 9) (.l NA) ∧ NU.length = NA.length)
def qm_7_fin (k s : Int) (sg bg : Bool) (NA NU ME BA : LL) (ct low high i : Int) : Told qm_7_ω := (.br (qm_k7_1 k s sg bg NA NU ME BA ct low high i) (.leaf (qm_o7_2 k s sg bg NA NU ME BA ct low high i) (.inl ())) (.leaf (qm_o7_3 k s sg bg NA NU ME BA ct low high i) (.inr ())))
def qm_7_sl (x : qm_7_σ) : List Slot := [⟨.bx 32 [⟨.int .i64, .sh, TC.i (x.1)⟩, ⟨.int .i64, .sh, TC.i (x.2.1)⟩, ⟨.bool, .sh, TC.b (x.2.2.1)⟩, ⟨.bool, .sh, TC.b (x.2.2.2.1)⟩, ⟨.slice 9, .sh, TC.l (x.2.2.2.2.1)⟩, ⟨.slice 2, .sh, TC.l (x.2.2.2.2.2.1)⟩, ⟨.slice 71, .sh, TC.l (x.2.2.2.2.2.2.1)⟩, ⟨.slice 32, .sh, TC.l (x.2.2.2.2.2.2.2.1)⟩, ⟨.int .i64, .sh, TC.i (x.2.2.2.2.2.2.2.2.1)⟩], ⟨0, 0⟩⟩, ⟨.val false [⟨.int .i64, .sh, TC.i (x.2.2.2.2.2.2.2.2.2.1)⟩], ⟨0, 0⟩⟩, ⟨.val false [⟨.int .i64, .sh, TC.i (x.2.2.2.2.2.2.2.2.2.2.1)⟩], ⟨0, 0⟩⟩, ⟨.val false [⟨.int .i64, .sh, TC.i (x.2.2.2.2.2.2.2.2.2.2.2)⟩], ⟨0, 0⟩⟩]
def qm_7_out : qm_7_ω → Ex × List Slot := (Sum.elim (fun x => (.ret, [⟨.val false [⟨.bool, .sh, TC.b false⟩], ⟨0, 0⟩⟩])) (fun x => (.exit 0, [Slot.none])))
def qm_lo7 : List Slot → Option (Told (Ex × List Slot)) := fun s => match s with
  | [⟨.bx 32 [⟨.int .i64, .sh, TC.i k⟩, ⟨.int .i64, .sh, TC.i s⟩, ⟨.bool, .sh, TC.b sg⟩, ⟨.bool, .sh, TC.b bg⟩, ⟨.slice 9, .sh, TC.l NA⟩, ⟨.slice 2, .sh, TC.l NU⟩, ⟨.slice 71, .sh, TC.l ME⟩, ⟨.slice 32, .sh, TC.l BA⟩, ⟨.int .i64, .sh, TC.i ct⟩], ⟨0, 0⟩⟩, ⟨.val false [⟨.int .i64, .sh, TC.i low⟩], ⟨0, 0⟩⟩, ⟨.val false [⟨.int .i64, .sh, TC.i high⟩], ⟨0, 0⟩⟩, ⟨.val false [⟨.int .i64, .sh, TC.i i⟩], ⟨0, 0⟩⟩] => some (((qm_7_fin k s sg bg NA NU ME BA ct low high i)).map qm_7_out)
  | _ => .none
def qm_lo : LoopTeller := fun r s => bif Nat.beq r 7 then qm_lo7 s else bif Nat.beq r 12 then qm_lo12 s else .none
theorem qm_12_r (k s : Int) (sg bg : Bool) (NA NU ME BA : LL) (ct low high ix q : Int) (fuel : Nat) : rounds (rnd tab FT D22 live 65 qm_lo 1 12) leave (fuel + 1) (qm_12_sl (k, s, sg, bg, NA, NU, ME, BA, ct, low, high, ix, q)) = ((qm_12_step k s sg bg NA NU ME BA ct low high ix q)).run (goOn (fun s => rounds (rnd tab FT D22 live 65 qm_lo 1 12) leave fuel (qm_12_sl s)) fun w => some (qm_12_out w)) := by kernel_rfl
theorem qm_f12_eq (k s : Int) (sg bg : Bool) (NA NU ME BA : LL) (ct low high : Int) (ix i : Int) : qm_f12 k s sg bg NA NU ME BA ct low high ix i = bif !(strAt NA i == strAt NA ix) then Sum.inl () else Sum.inr (Sum.inl (k, s, sg, bg, NA, NU, ME, BA, ct, low, high, ix)) := by
  unfold qm_f12 strAt
  skip
  generalize ((nth (row NA i) 0).str == (nth (row NA ix) 0).str) = p0
  cases p0 <;> rfl
theorem qm_R12_eq (k s : Int) (sg bg : Bool) (NA NU ME BA : LL) (ct low high : Int) (ix : Int)  : qm_R12 k s sg bg NA NU ME BA ct low high ix 0 = bif allI (fun i : Nat => !(strAt NA (i : Int) == strAt NA ix)) (ix.toNat) then Sum.inr (k, s, sg, bg, NA, NU, ME, BA, ct, low, high, ix) else (Sum.inl (k, s, sg, bg, NA, NU, ME, BA, ct, low, high, ix)) := by
  unfold qm_R12
  exact (iter_all (P := (fun i : Nat => !(strAt NA (i : Int) == strAt NA ix))) (g := fun _ a => a) (w := Sum.inl (k, s, sg, bg, NA, NU, ME, BA, ct, low, high, ix)) fun j a _ => qm_f12_eq k s sg bg NA NU ME BA ct low high ix _)
theorem qm_12_h (k s : Int) (sg bg : Bool) (NA NU ME BA : LL) (ct low high ix q : Int) (ow : qm_12_ω) : ((qm_12_fin k s sg bg NA NU ME BA ct low high ix q)).val = some ow → ∃ fuel, loopN qm_12_st fuel (k, s, sg, bg, NA, NU, ME, BA, ct, low, high, ix, q) = some ow := by
  refine auto_const (R := (qm_R12 k s sg bg NA NU ME BA ct low high ix q)) rfl (iter_onR (f := (fun i a => (qm_f12 k s sg bg NA NU ME BA ct low high ix (i : Int)))) (fin := (fun a => (qm_e12 k s sg bg NA NU ME BA ct low high ix))) (Q := endsAs (k, s, sg, bg, NA, NU, ME, BA, ct, low, high, ix) (k, s, sg, bg, NA, NU, ME, BA, ct, low, high, ix)) (fun i a => by unfold qm_f12; exact (onR_bif rfl trivial)) (fun _ => rfl) _ _ _) ?_
  intro ho
  have ho : is (q = 0 ∧ 0 ≤ ix ∧ ix < (NA.length : Int) ∧ NA.length ≤ 140737488355328) = true := ho.elim id id
  obtain ⟨rfl, h0, h1, h2⟩ := is_iff.1 ho
  skip
  refine ⟨(ix.toNat) + 1, ?_⟩
  refine iter_loop (step := qm_12_st) (ix.toNat) (fun i a => (qm_f12 k s sg bg NA NU ME BA ct low high ix (i : Int))) (fun a => (qm_e12 k s sg bg NA NU ME BA ct low high ix)) (fun i a => (k, s, sg, bg, NA, NU, ME, BA, ct, low, high, ix, (i : Int))) (fun _ _ => True) trivial (fun i a hi hI => ⟨?_, fun _ _ => trivial⟩) (fun a hI => ?_)
  · show (qm_12_step k s sg bg NA NU ME BA ct low high ix (i : Int)).val = _
    unfold qm_12_step qm_f12
    skip
    refine Tr.t (by simp; omega) ?_
    exact (Tr.t (by first | omega | (constructor <;> omega)) (Tr.t (by first | omega | (constructor <;> omega)) (Tr.bf rfl (by rw [Tr.val_ok, wrap64 (i := (i : Int) + 1) (by omega) (by omega)]; rfl))))
  · show (qm_12_step k s sg bg NA NU ME BA ct low high ix (ix.toNat : Int)).val = _
    refine Tr.n (by first | (simp; done) | (simp; omega) | omega) ?_
    rfl
theorem qm_is12 : LoopIs tab FT D22 live 65 qm_lo 1 12 := by
  refine loop_told (sl := qm_12_sl) (step := qm_12_st) (out := qm_12_out) (lor := qm_lo12) (fin := fun x => (qm_12_fin (x.1) (x.2.1) (x.2.2.1) (x.2.2.2.1) (x.2.2.2.2.1) (x.2.2.2.2.2.1) (x.2.2.2.2.2.2.1) (x.2.2.2.2.2.2.2.1) (x.2.2.2.2.2.2.2.2.1) (x.2.2.2.2.2.2.2.2.2.1) (x.2.2.2.2.2.2.2.2.2.2.1) (x.2.2.2.2.2.2.2.2.2.2.2.1) (x.2.2.2.2.2.2.2.2.2.2.2.2))) (fun _ => rfl) ?_ (fun x n => qm_12_r x.1 x.2.1 x.2.2.1 x.2.2.2.1 x.2.2.2.2.1 x.2.2.2.2.2.1 x.2.2.2.2.2.2.1 x.2.2.2.2.2.2.2.1 x.2.2.2.2.2.2.2.2.1 x.2.2.2.2.2.2.2.2.2.1 x.2.2.2.2.2.2.2.2.2.2.1 x.2.2.2.2.2.2.2.2.2.2.2.1 x.2.2.2.2.2.2.2.2.2.2.2.2 n) (fun x ow => qm_12_h x.1 x.2.1 x.2.2.1 x.2.2.2.1 x.2.2.2.2.1 x.2.2.2.2.2.1 x.2.2.2.2.2.2.1 x.2.2.2.2.2.2.2.1 x.2.2.2.2.2.2.2.2.1 x.2.2.2.2.2.2.2.2.2.1 x.2.2.2.2.2.2.2.2.2.2.1 x.2.2.2.2.2.2.2.2.2.2.2.1 x.2.2.2.2.2.2.2.2.2.2.2.2 ow)
  intro s t h
  unfold qm_lo12 at h
  split at h
  · cases h; exact ⟨(_, _, _, _, _, _, _, _, _, _, _, _, _), rfl, rfl⟩
  · cases h
theorem qm_7_r (k s : Int) (sg bg : Bool) (NA NU ME BA : LL) (ct low high i : Int) (fuel : Nat) : rounds (rnd tab FT D22 live 65 qm_lo 0 7) leave (fuel + 1) (qm_7_sl (k, s, sg, bg, NA, NU, ME, BA, ct, low, high, i)) = ((qm_7_step k s sg bg NA NU ME BA ct low high i)).run (goOn (fun s => rounds (rnd tab FT D22 live 65 qm_lo 0 7) leave fuel (qm_7_sl s)) fun w => some (qm_7_out w)) := by kernel_rfl
theorem qm_f7_eq (k s : Int) (sg bg : Bool) (NA NU ME BA : LL) (ct low high : Int) (i : Int) : qm_f7 k s sg bg NA NU ME BA ct low high i = bif enumP NA NU low high i then Sum.inl () else Sum.inr (Sum.inl ()) := by
  unfold qm_f7 enumP ascB strAt intAt
  rw [show qm_k12_1 k s sg bg NA NU ME BA ct low high i 0 = !(noDupN NA i) from by unfold qm_k12_1 noDupN; rw [qm_R12_eq]; generalize allI _ _ = q; cases q <;> rfl]
  rw [show qdf_v (nth (row NU i) 0).int low high = inB (nth (row NU i) 0).int low high from rfl, qz_vv]
  generalize nameOk (nth (row NA i) 0).str = p0, inB (nth (row NU i) 0).int low high = p1, decide (i > 0) = p2, decide ((nth (row NU (IntKind.wrap .i64 (i - (1 : Int)))) 0).int ≥ (nth (row NU i) 0).int) = p3, noDupN NA i = p4
  cases p0 <;> cases p1 <;> cases p2 <;> cases p3 <;> cases p4 <;> rfl
theorem qm_R7_eq (k s : Int) (sg bg : Bool) (NA NU ME BA : LL) (ct low high : Int)  : qm_R7 k s sg bg NA NU ME BA ct low high 0 = bif allI (fun i : Nat => enumP NA NU low high (i : Int)) (NA.length) then Sum.inr () else (Sum.inl ()) := by
  unfold qm_R7
  exact (iter_all (P := (fun i : Nat => enumP NA NU low high (i : Int))) (g := fun _ a => a) (w := Sum.inl ()) fun j a _ => qm_f7_eq k s sg bg NA NU ME BA ct low high _)
theorem qm_7_h (k s : Int) (sg bg : Bool) (NA NU ME BA : LL) (ct low high i : Int) (ow : qm_7_ω) : ((qm_7_fin k s sg bg NA NU ME BA ct low high i)).val = some ow → ∃ fuel, loopN qm_7_st fuel (k, s, sg, bg, NA, NU, ME, BA, ct, low, high, i) = some ow := by
  refine auto_const (R := (qm_R7 k s sg bg NA NU ME BA ct low high i)) rfl (iter_onR (f := (fun i a => (qm_f7 k s sg bg NA NU ME BA ct low high (i : Int)))) (fin := (fun a => (qm_e7 k s sg bg NA NU ME BA ct low high))) (Q := endsAs () ()) (fun i a => by unfold qm_f7; exact (onR_bif rfl (onR_bif rfl (onR_bif (onR_bif rfl (onR_bif rfl trivial)) (onR_bif rfl trivial))))) (fun _ => rfl) _ _ _) ?_
  intro ho
  have ho : is (i = 0 ∧ Typed tab (.slice 9) (.l NA) ∧ NU.length = NA.length) = true := ho.elim id id
  obtain ⟨rfl, ht, hU⟩ := is_iff.1 ho
  have hlen : NA.length ≤ 140737488351232 := by have := typed_room ht; simp only [show (tab 9).bytes = 16 from rfl] at this; omega
  refine ⟨(NA.length) + 1, ?_⟩
  refine iter_loop (step := qm_7_st) (NA.length) (fun i a => (qm_f7 k s sg bg NA NU ME BA ct low high (i : Int))) (fun a => (qm_e7 k s sg bg NA NU ME BA ct low high)) (fun i a => (k, s, sg, bg, NA, NU, ME, BA, ct, low, high, (i : Int))) (fun _ _ => True) trivial (fun i a hi hI => ⟨?_, fun _ _ => trivial⟩) (fun a hI => ?_)
  · show (qm_7_step k s sg bg NA NU ME BA ct low high (i : Int)).val = _
    unfold qm_7_step qm_f7
    have c0 : Typed tab (.str) (.s (nth (NA.getD i []) 0).str) := typed_s (typed_cell ht (NA.getD i []) (mem_getD hi) 0 (by decide))
    refine Tr.t (by simp; omega) ?_
    exact (Tr.t (by first | omega | (constructor <;> omega) | (exact is_true ⟨rfl, by omega, by omega, by omega⟩) | (simp only [decide_eq_true_eq] at *; rw [wrap64 (by omega) (by omega)]; constructor <;> omega)) (Tr.t (by first | (exact is_true ⟨rfl, by omega, by omega, by omega⟩) | (simp only [decide_eq_true_eq] at *; rw [wrap64 (by omega) (by omega)]; constructor <;> omega) | (first | (apply qz_cc <;> assumption) | (first | (apply is_true; and_intros <;> (first | rfl | assumption | (apply qq_cc <;> assumption) | (apply qbv_cc <;> assumption) | (apply qv_cc <;> assumption) | (apply qba_cc <;> assumption) | (apply qbf_cc <;> assumption) | (apply qbj_cc <;> assumption) | (apply qz_cc <;> assumption) | (first | (apply is_true; and_intros <;> (first | rfl | assumption | (apply qq_cc <;> assumption) | (apply qbv_cc <;> assumption) | (apply qv_cc <;> assumption) | (apply qba_cc <;> assumption) | (apply qbf_cc <;> assumption) | (apply qbj_cc <;> assumption) | (apply qz_cc <;> assumption))) | (apply qq_cc <;> assumption) | (apply qbv_cc <;> assumption) | (apply qv_cc <;> assumption) | (apply qba_cc <;> assumption) | (apply qbf_cc <;> assumption) | (apply qbj_cc <;> assumption) | (apply qz_cc <;> assumption)))) | (apply qq_cc <;> assumption) | (apply qbv_cc <;> assumption) | (apply qv_cc <;> assumption) | (apply qba_cc <;> assumption) | (apply qbf_cc <;> assumption) | (apply qbj_cc <;> assumption) | (apply qz_cc <;> assumption)))) (Tr.bh (fun _ => rfl) (fun _ => (Tr.t (by first | omega | (constructor <;> omega) | (exact is_true ⟨rfl, by omega, by omega, by omega⟩) | (simp only [decide_eq_true_eq] at *; rw [wrap64 (by omega) (by omega)]; constructor <;> omega)) (Tr.bh (fun _ => rfl) (fun _ => (Tr.bh (fun _ => (Tr.t (by first | omega | (constructor <;> omega) | (exact is_true ⟨rfl, by omega, by omega, by omega⟩) | (simp only [decide_eq_true_eq] at *; rw [wrap64 (by omega) (by omega)]; constructor <;> omega)) (Tr.t (by first | omega | (constructor <;> omega) | (exact is_true ⟨rfl, by omega, by omega, by omega⟩) | (simp only [decide_eq_true_eq] at *; rw [wrap64 (by omega) (by omega)]; constructor <;> omega)) (Tr.bh (fun _ => rfl) (fun _ => (Tr.bh (fun _ => (Tr.t (by first | (exact is_true ⟨rfl, by omega, by omega, by omega⟩) | (simp only [decide_eq_true_eq] at *; rw [wrap64 (by omega) (by omega)]; constructor <;> omega) | (first | (apply is_true; and_intros <;> (first | rfl | assumption | (apply qq_cc <;> assumption) | (apply qbv_cc <;> assumption) | (apply qv_cc <;> assumption) | (apply qba_cc <;> assumption) | (apply qbf_cc <;> assumption) | (apply qbj_cc <;> assumption) | (apply qz_cc <;> assumption) | (first | (apply is_true; and_intros <;> (first | rfl | assumption | (apply qq_cc <;> assumption) | (apply qbv_cc <;> assumption) | (apply qv_cc <;> assumption) | (apply qba_cc <;> assumption) | (apply qbf_cc <;> assumption) | (apply qbj_cc <;> assumption) | (apply qz_cc <;> assumption) | (first | (apply is_true; and_intros <;> (first | rfl | assumption | (apply qq_cc <;> assumption) | (apply qbv_cc <;> assumption) | (apply qv_cc <;> assumption) | (apply qba_cc <;> assumption) | (apply qbf_cc <;> assumption) | (apply qbj_cc <;> assumption) | (apply qz_cc <;> assumption))) | (apply qq_cc <;> assumption) | (apply qbv_cc <;> assumption) | (apply qv_cc <;> assumption) | (apply qba_cc <;> assumption) | (apply qbf_cc <;> assumption) | (apply qbj_cc <;> assumption) | (apply qz_cc <;> assumption)))) | (apply qq_cc <;> assumption) | (apply qbv_cc <;> assumption) | (apply qv_cc <;> assumption) | (apply qba_cc <;> assumption) | (apply qbf_cc <;> assumption) | (apply qbj_cc <;> assumption) | (apply qz_cc <;> assumption)))) | (apply qq_cc <;> assumption) | (apply qbv_cc <;> assumption) | (apply qv_cc <;> assumption) | (apply qba_cc <;> assumption) | (apply qbf_cc <;> assumption) | (apply qbj_cc <;> assumption) | (apply qz_cc <;> assumption))) rfl)) (fun _ => (Tr.t (by first | (exact is_true ⟨rfl, by omega, by omega, by omega⟩) | (simp only [decide_eq_true_eq] at *; rw [wrap64 (by omega) (by omega)]; constructor <;> omega) | (first | (apply is_true; and_intros <;> (first | rfl | assumption | (apply qq_cc <;> assumption) | (apply qbv_cc <;> assumption) | (apply qv_cc <;> assumption) | (apply qba_cc <;> assumption) | (apply qbf_cc <;> assumption) | (apply qbj_cc <;> assumption) | (apply qz_cc <;> assumption) | (first | (apply is_true; and_intros <;> (first | rfl | assumption | (apply qq_cc <;> assumption) | (apply qbv_cc <;> assumption) | (apply qv_cc <;> assumption) | (apply qba_cc <;> assumption) | (apply qbf_cc <;> assumption) | (apply qbj_cc <;> assumption) | (apply qz_cc <;> assumption) | (first | (apply is_true; and_intros <;> (first | rfl | assumption | (apply qq_cc <;> assumption) | (apply qbv_cc <;> assumption) | (apply qv_cc <;> assumption) | (apply qba_cc <;> assumption) | (apply qbf_cc <;> assumption) | (apply qbj_cc <;> assumption) | (apply qz_cc <;> assumption))) | (apply qq_cc <;> assumption) | (apply qbv_cc <;> assumption) | (apply qv_cc <;> assumption) | (apply qba_cc <;> assumption) | (apply qbf_cc <;> assumption) | (apply qbj_cc <;> assumption) | (apply qz_cc <;> assumption)))) | (apply qq_cc <;> assumption) | (apply qbv_cc <;> assumption) | (apply qv_cc <;> assumption) | (apply qba_cc <;> assumption) | (apply qbf_cc <;> assumption) | (apply qbj_cc <;> assumption) | (apply qz_cc <;> assumption)))) | (apply qq_cc <;> assumption) | (apply qbv_cc <;> assumption) | (apply qv_cc <;> assumption) | (apply qba_cc <;> assumption) | (apply qbf_cc <;> assumption) | (apply qbj_cc <;> assumption) | (apply qz_cc <;> assumption))) (by rw [Tr.val_ok, wrap64 (i := (i : Int) + 1) (by omega) (by omega)]; rfl))))))))) (fun _ => (Tr.bh (fun _ => (Tr.t (by first | (exact is_true ⟨rfl, by omega, by omega, by omega⟩) | (simp only [decide_eq_true_eq] at *; rw [wrap64 (by omega) (by omega)]; constructor <;> omega) | (first | (apply is_true; and_intros <;> (first | rfl | assumption | (apply qq_cc <;> assumption) | (apply qbv_cc <;> assumption) | (apply qv_cc <;> assumption) | (apply qba_cc <;> assumption) | (apply qbf_cc <;> assumption) | (apply qbj_cc <;> assumption) | (apply qz_cc <;> assumption) | (first | (apply is_true; and_intros <;> (first | rfl | assumption | (apply qq_cc <;> assumption) | (apply qbv_cc <;> assumption) | (apply qv_cc <;> assumption) | (apply qba_cc <;> assumption) | (apply qbf_cc <;> assumption) | (apply qbj_cc <;> assumption) | (apply qz_cc <;> assumption) | (first | (apply is_true; and_intros <;> (first | rfl | assumption | (apply qq_cc <;> assumption) | (apply qbv_cc <;> assumption) | (apply qv_cc <;> assumption) | (apply qba_cc <;> assumption) | (apply qbf_cc <;> assumption) | (apply qbj_cc <;> assumption) | (apply qz_cc <;> assumption))) | (apply qq_cc <;> assumption) | (apply qbv_cc <;> assumption) | (apply qv_cc <;> assumption) | (apply qba_cc <;> assumption) | (apply qbf_cc <;> assumption) | (apply qbj_cc <;> assumption) | (apply qz_cc <;> assumption)))) | (apply qq_cc <;> assumption) | (apply qbv_cc <;> assumption) | (apply qv_cc <;> assumption) | (apply qba_cc <;> assumption) | (apply qbf_cc <;> assumption) | (apply qbj_cc <;> assumption) | (apply qz_cc <;> assumption)))) | (apply qq_cc <;> assumption) | (apply qbv_cc <;> assumption) | (apply qv_cc <;> assumption) | (apply qba_cc <;> assumption) | (apply qbf_cc <;> assumption) | (apply qbj_cc <;> assumption) | (apply qz_cc <;> assumption))) rfl)) (fun _ => (Tr.t (by first | (exact is_true ⟨rfl, by omega, by omega, by omega⟩) | (simp only [decide_eq_true_eq] at *; rw [wrap64 (by omega) (by omega)]; constructor <;> omega) | (first | (apply is_true; and_intros <;> (first | rfl | assumption | (apply qq_cc <;> assumption) | (apply qbv_cc <;> assumption) | (apply qv_cc <;> assumption) | (apply qba_cc <;> assumption) | (apply qbf_cc <;> assumption) | (apply qbj_cc <;> assumption) | (apply qz_cc <;> assumption) | (first | (apply is_true; and_intros <;> (first | rfl | assumption | (apply qq_cc <;> assumption) | (apply qbv_cc <;> assumption) | (apply qv_cc <;> assumption) | (apply qba_cc <;> assumption) | (apply qbf_cc <;> assumption) | (apply qbj_cc <;> assumption) | (apply qz_cc <;> assumption) | (first | (apply is_true; and_intros <;> (first | rfl | assumption | (apply qq_cc <;> assumption) | (apply qbv_cc <;> assumption) | (apply qv_cc <;> assumption) | (apply qba_cc <;> assumption) | (apply qbf_cc <;> assumption) | (apply qbj_cc <;> assumption) | (apply qz_cc <;> assumption))) | (apply qq_cc <;> assumption) | (apply qbv_cc <;> assumption) | (apply qv_cc <;> assumption) | (apply qba_cc <;> assumption) | (apply qbf_cc <;> assumption) | (apply qbj_cc <;> assumption) | (apply qz_cc <;> assumption)))) | (apply qq_cc <;> assumption) | (apply qbv_cc <;> assumption) | (apply qv_cc <;> assumption) | (apply qba_cc <;> assumption) | (apply qbf_cc <;> assumption) | (apply qbj_cc <;> assumption) | (apply qz_cc <;> assumption)))) | (apply qq_cc <;> assumption) | (apply qbv_cc <;> assumption) | (apply qv_cc <;> assumption) | (apply qba_cc <;> assumption) | (apply qbf_cc <;> assumption) | (apply qbj_cc <;> assumption) | (apply qz_cc <;> assumption))) (by rw [Tr.val_ok, wrap64 (i := (i : Int) + 1) (by omega) (by omega)]; rfl)))))))))))))
  · show (qm_7_step k s sg bg NA NU ME BA ct low high (NA.length : Int)).val = _
    refine Tr.n (by first | (simp; done) | (simp; omega) | omega) ?_
    rfl
theorem qm_is7 : LoopIs tab FT D22 live 65 qm_lo 0 7 := by
  refine loop_told (sl := qm_7_sl) (step := qm_7_st) (out := qm_7_out) (lor := qm_lo7) (fin := fun x => (qm_7_fin (x.1) (x.2.1) (x.2.2.1) (x.2.2.2.1) (x.2.2.2.2.1) (x.2.2.2.2.2.1) (x.2.2.2.2.2.2.1) (x.2.2.2.2.2.2.2.1) (x.2.2.2.2.2.2.2.2.1) (x.2.2.2.2.2.2.2.2.2.1) (x.2.2.2.2.2.2.2.2.2.2.1) (x.2.2.2.2.2.2.2.2.2.2.2))) (fun _ => rfl) ?_ (fun x n => qm_7_r x.1 x.2.1 x.2.2.1 x.2.2.2.1 x.2.2.2.2.1 x.2.2.2.2.2.1 x.2.2.2.2.2.2.1 x.2.2.2.2.2.2.2.1 x.2.2.2.2.2.2.2.2.1 x.2.2.2.2.2.2.2.2.2.1 x.2.2.2.2.2.2.2.2.2.2.1 x.2.2.2.2.2.2.2.2.2.2.2 n) (fun x ow => qm_7_h x.1 x.2.1 x.2.2.1 x.2.2.2.1 x.2.2.2.2.1 x.2.2.2.2.2.1 x.2.2.2.2.2.2.1 x.2.2.2.2.2.2.2.1 x.2.2.2.2.2.2.2.2.1 x.2.2.2.2.2.2.2.2.2.1 x.2.2.2.2.2.2.2.2.2.2.1 x.2.2.2.2.2.2.2.2.2.2.2 ow)
  intro s t h
  unfold qm_lo7 at h
  split at h
  · cases h; exact ⟨(_, _, _, _, _, _, _, _, _, _, _, _), rfl, rfl⟩
  · cases h
def qm_t (k s : Int) (sg bg : Bool) (NA NU ME BA : LL) (ct : Int) : Tr (Bool) := (.ite ((!(s == (0 : Int))) = true) (.ok false)
  (.ite ((!(qcg_v k s sg bg NA NU ME BA ct)) = true) (.ok false)
   (.ite ((decide ((ME.length : Int) > (0 : Int))) = true) (.ok false)
    (.ite ((!(ct == (0 : Int))) = true) (.ok false)
     (.ite ((!((BA.length : Int) == (1 : Int))) = true) (.ok false)
      (.ite ((0 : Int) ≤ (0 : Int) ∧ (0 : Int) < (BA.length : Int)) (.ite ((!((nth (row BA (0 : Int)) 0).int == (1 : Int))) = true) (.ok false)
        (.ite ((0 : Int) ≤ (0 : Int) ∧ (0 : Int) < (BA.length : Int)) (.ite ((!(qdh_v ((nth (row BA (0 : Int)) 0).int) ((nth (row BA (0 : Int)) 1).int) ((nth (row BA (0 : Int)) 2).bool) ((nth (row BA (0 : Int)) 3).bool) ((nth (row BA (0 : Int)) 4).list) ((nth (row BA (0 : Int)) 5).list) ((nth (row BA (0 : Int)) 6).list) ((nth (row BA (0 : Int)) 7).list) ((nth (row BA (0 : Int)) 8).int))) = true) (.ok false)
          (.ite ((decide ((NA.length : Int) < (1 : Int))) = true) (.ok false)
           (.ite ((decide ((NA.length : Int) > (6 : Int))) = true) (.ok false)
            (.ite ((!((NU.length : Int) == (NA.length : Int))) = true) (.ok false)
             (.ite ((0 : Int) ≤ (0 : Int) ∧ (0 : Int) < (BA.length : Int)) (.ite ((qbj_c ((nth (row BA (0 : Int)) 0).int) ((nth (row BA (0 : Int)) 1).int) ((nth (row BA (0 : Int)) 2).bool) ((nth (row BA (0 : Int)) 3).bool) ((nth (row BA (0 : Int)) 4).list) ((nth (row BA (0 : Int)) 5).list) ((nth (row BA (0 : Int)) 6).list) ((nth (row BA (0 : Int)) 7).list) ((nth (row BA (0 : Int)) 8).int)) = true) (.ite ((qm_k7_1 k s sg bg NA NU ME BA ct ((qbj_v ((nth (row BA (0 : Int)) 0).int) ((nth (row BA (0 : Int)) 1).int) ((nth (row BA (0 : Int)) 2).bool) ((nth (row BA (0 : Int)) 3).bool) ((nth (row BA (0 : Int)) 4).list) ((nth (row BA (0 : Int)) 5).list) ((nth (row BA (0 : Int)) 6).list) ((nth (row BA (0 : Int)) 7).list) ((nth (row BA (0 : Int)) 8).int)).1) ((qbj_v ((nth (row BA (0 : Int)) 0).int) ((nth (row BA (0 : Int)) 1).int) ((nth (row BA (0 : Int)) 2).bool) ((nth (row BA (0 : Int)) 3).bool) ((nth (row BA (0 : Int)) 4).list) ((nth (row BA (0 : Int)) 5).list) ((nth (row BA (0 : Int)) 6).list) ((nth (row BA (0 : Int)) 7).list) ((nth (row BA (0 : Int)) 8).int)).2) (0 : Int)) = true) (.ite ((qm_o7_2 k s sg bg NA NU ME BA ct ((qbj_v ((nth (row BA (0 : Int)) 0).int) ((nth (row BA (0 : Int)) 1).int) ((nth (row BA (0 : Int)) 2).bool) ((nth (row BA (0 : Int)) 3).bool) ((nth (row BA (0 : Int)) 4).list) ((nth (row BA (0 : Int)) 5).list) ((nth (row BA (0 : Int)) 6).list) ((nth (row BA (0 : Int)) 7).list) ((nth (row BA (0 : Int)) 8).int)).1) ((qbj_v ((nth (row BA (0 : Int)) 0).int) ((nth (row BA (0 : Int)) 1).int) ((nth (row BA (0 : Int)) 2).bool) ((nth (row BA (0 : Int)) 3).bool) ((nth (row BA (0 : Int)) 4).list) ((nth (row BA (0 : Int)) 5).list) ((nth (row BA (0 : Int)) 6).list) ((nth (row BA (0 : Int)) 7).list) ((nth (row BA (0 : Int)) 8).int)).2) (0 : Int)) = true) (.ok false)
                 .no)
                (.ite ((qm_o7_3 k s sg bg NA NU ME BA ct ((qbj_v ((nth (row BA (0 : Int)) 0).int) ((nth (row BA (0 : Int)) 1).int) ((nth (row BA (0 : Int)) 2).bool) ((nth (row BA (0 : Int)) 3).bool) ((nth (row BA (0 : Int)) 4).list) ((nth (row BA (0 : Int)) 5).list) ((nth (row BA (0 : Int)) 6).list) ((nth (row BA (0 : Int)) 7).list) ((nth (row BA (0 : Int)) 8).int)).1) ((qbj_v ((nth (row BA (0 : Int)) 0).int) ((nth (row BA (0 : Int)) 1).int) ((nth (row BA (0 : Int)) 2).bool) ((nth (row BA (0 : Int)) 3).bool) ((nth (row BA (0 : Int)) 4).list) ((nth (row BA (0 : Int)) 5).list) ((nth (row BA (0 : Int)) 6).list) ((nth (row BA (0 : Int)) 7).list) ((nth (row BA (0 : Int)) 8).int)).2) (0 : Int)) = true) (.ok true)
                 .no))
               .no)
              .no)))))
         .no))
       .no))))))
def qm_mk (p : Bool) : Res := [(false, [⟨.bool, .sh, TC.b p⟩])]
def qm_c (k s : Int) (sg bg : Bool) (NA NU ME BA : LL) (ct : Int) : Bool := (bif (!(s == (0 : Int))) then true else (bif (!(qcg_v k s sg bg NA NU ME BA ct)) then true else (bif (decide ((ME.length : Int) > (0 : Int))) then true else (bif (!(ct == (0 : Int))) then true else (bif (!((BA.length : Int) == (1 : Int))) then true else (is ((0 : Int) ≤ (0 : Int) ∧ (0 : Int) < (BA.length : Int)) && (bif (!((nth (row BA (0 : Int)) 0).int == (1 : Int))) then true else (is ((0 : Int) ≤ (0 : Int) ∧ (0 : Int) < (BA.length : Int)) && (bif (!(qdh_v ((nth (row BA (0 : Int)) 0).int) ((nth (row BA (0 : Int)) 1).int) ((nth (row BA (0 : Int)) 2).bool) ((nth (row BA (0 : Int)) 3).bool) ((nth (row BA (0 : Int)) 4).list) ((nth (row BA (0 : Int)) 5).list) ((nth (row BA (0 : Int)) 6).list) ((nth (row BA (0 : Int)) 7).list) ((nth (row BA (0 : Int)) 8).int))) then true else (bif (decide ((NA.length : Int) < (1 : Int))) then true else (bif (decide ((NA.length : Int) > (6 : Int))) then true else (bif (!((NU.length : Int) == (NA.length : Int))) then true else (is ((0 : Int) ≤ (0 : Int) ∧ (0 : Int) < (BA.length : Int)) && ((qbj_c ((nth (row BA (0 : Int)) 0).int) ((nth (row BA (0 : Int)) 1).int) ((nth (row BA (0 : Int)) 2).bool) ((nth (row BA (0 : Int)) 3).bool) ((nth (row BA (0 : Int)) 4).list) ((nth (row BA (0 : Int)) 5).list) ((nth (row BA (0 : Int)) 6).list) ((nth (row BA (0 : Int)) 7).list) ((nth (row BA (0 : Int)) 8).int)) && (bif (qm_k7_1 k s sg bg NA NU ME BA ct ((qbj_v ((nth (row BA (0 : Int)) 0).int) ((nth (row BA (0 : Int)) 1).int) ((nth (row BA (0 : Int)) 2).bool) ((nth (row BA (0 : Int)) 3).bool) ((nth (row BA (0 : Int)) 4).list) ((nth (row BA (0 : Int)) 5).list) ((nth (row BA (0 : Int)) 6).list) ((nth (row BA (0 : Int)) 7).list) ((nth (row BA (0 : Int)) 8).int)).1) ((qbj_v ((nth (row BA (0 : Int)) 0).int) ((nth (row BA (0 : Int)) 1).int) ((nth (row BA (0 : Int)) 2).bool) ((nth (row BA (0 : Int)) 3).bool) ((nth (row BA (0 : Int)) 4).list) ((nth (row BA (0 : Int)) 5).list) ((nth (row BA (0 : Int)) 6).list) ((nth (row BA (0 : Int)) 7).list) ((nth (row BA (0 : Int)) 8).int)).2) (0 : Int)) then ((qm_o7_2 k s sg bg NA NU ME BA ct ((qbj_v ((nth (row BA (0 : Int)) 0).int) ((nth (row BA (0 : Int)) 1).int) ((nth (row BA (0 : Int)) 2).bool) ((nth (row BA (0 : Int)) 3).bool) ((nth (row BA (0 : Int)) 4).list) ((nth (row BA (0 : Int)) 5).list) ((nth (row BA (0 : Int)) 6).list) ((nth (row BA (0 : Int)) 7).list) ((nth (row BA (0 : Int)) 8).int)).1) ((qbj_v ((nth (row BA (0 : Int)) 0).int) ((nth (row BA (0 : Int)) 1).int) ((nth (row BA (0 : Int)) 2).bool) ((nth (row BA (0 : Int)) 3).bool) ((nth (row BA (0 : Int)) 4).list) ((nth (row BA (0 : Int)) 5).list) ((nth (row BA (0 : Int)) 6).list) ((nth (row BA (0 : Int)) 7).list) ((nth (row BA (0 : Int)) 8).int)).2) (0 : Int)) && true) else ((qm_o7_3 k s sg bg NA NU ME BA ct ((qbj_v ((nth (row BA (0 : Int)) 0).int) ((nth (row BA (0 : Int)) 1).int) ((nth (row BA (0 : Int)) 2).bool) ((nth (row BA (0 : Int)) 3).bool) ((nth (row BA (0 : Int)) 4).list) ((nth (row BA (0 : Int)) 5).list) ((nth (row BA (0 : Int)) 6).list) ((nth (row BA (0 : Int)) 7).list) ((nth (row BA (0 : Int)) 8).int)).1) ((qbj_v ((nth (row BA (0 : Int)) 0).int) ((nth (row BA (0 : Int)) 1).int) ((nth (row BA (0 : Int)) 2).bool) ((nth (row BA (0 : Int)) 3).bool) ((nth (row BA (0 : Int)) 4).list) ((nth (row BA (0 : Int)) 5).list) ((nth (row BA (0 : Int)) 6).list) ((nth (row BA (0 : Int)) 7).list) ((nth (row BA (0 : Int)) 8).int)).2) (0 : Int)) && true))))))))))))))))
def qm_v (k s : Int) (sg bg : Bool) (NA NU ME BA : LL) (ct : Int) : Bool := (bif (!(s == (0 : Int))) then false else (bif (!(qcg_v k s sg bg NA NU ME BA ct)) then false else (bif (decide ((ME.length : Int) > (0 : Int))) then false else (bif (!(ct == (0 : Int))) then false else (bif (!((BA.length : Int) == (1 : Int))) then false else (bif (!((nth (row BA (0 : Int)) 0).int == (1 : Int))) then false else (bif (!(qdh_v ((nth (row BA (0 : Int)) 0).int) ((nth (row BA (0 : Int)) 1).int) ((nth (row BA (0 : Int)) 2).bool) ((nth (row BA (0 : Int)) 3).bool) ((nth (row BA (0 : Int)) 4).list) ((nth (row BA (0 : Int)) 5).list) ((nth (row BA (0 : Int)) 6).list) ((nth (row BA (0 : Int)) 7).list) ((nth (row BA (0 : Int)) 8).int))) then false else (bif (decide ((NA.length : Int) < (1 : Int))) then false else (bif (decide ((NA.length : Int) > (6 : Int))) then false else (bif (!((NU.length : Int) == (NA.length : Int))) then false else (bif (qm_k7_1 k s sg bg NA NU ME BA ct ((qbj_v ((nth (row BA (0 : Int)) 0).int) ((nth (row BA (0 : Int)) 1).int) ((nth (row BA (0 : Int)) 2).bool) ((nth (row BA (0 : Int)) 3).bool) ((nth (row BA (0 : Int)) 4).list) ((nth (row BA (0 : Int)) 5).list) ((nth (row BA (0 : Int)) 6).list) ((nth (row BA (0 : Int)) 7).list) ((nth (row BA (0 : Int)) 8).int)).1) ((qbj_v ((nth (row BA (0 : Int)) 0).int) ((nth (row BA (0 : Int)) 1).int) ((nth (row BA (0 : Int)) 2).bool) ((nth (row BA (0 : Int)) 3).bool) ((nth (row BA (0 : Int)) 4).list) ((nth (row BA (0 : Int)) 5).list) ((nth (row BA (0 : Int)) 6).list) ((nth (row BA (0 : Int)) 7).list) ((nth (row BA (0 : Int)) 8).int)).2) (0 : Int)) then false else true)))))))))))
theorem qm_l (k s : Int) (sg bg : Bool) (NA NU ME BA : LL) (ct : Int) : (qm_c k s sg bg NA NU ME BA ct) = true → (qm_t k s sg bg NA NU ME BA ct).val = some (qm_v k s sg bg NA NU ME BA ct) := by
  unfold qm_t qm_v qm_c
  intro h
  repeat' first | refine Tr.gb h fun h => ?_ | refine Tr.gs h fun h => ?_ | refine Tr.ss h (fun h => ?_) fun h => ?_ | exact rfl
def qm_S : List Arg → Option (Bool × Res) := fun xs => match xs with
  | [(true, [(.int .i64, TC.i k), (.int .i64, TC.i s), (.bool, TC.b sg), (.bool, TC.b bg), (.slice 9, TC.l NA), (.slice 2, TC.l NU), (.slice 71, TC.l ME), (.slice 32, TC.l BA), (.int .i64, TC.i ct)])] => some ((qm_c k s sg bg NA NU ME BA ct), qm_mk (qm_v k s sg bg NA NU ME BA ct))
  | _ => .none
theorem qm_e (k s : Int) (sg bg : Bool) (NA NU ME BA : LL) (ct : Int) : runF tab FT D22 live 65 qm_lo [(true, [(.int .i64, TC.i k), (.int .i64, TC.i s), (.bool, TC.b sg), (.bool, TC.b bg), (.slice 9, TC.l NA), (.slice 2, TC.l NU), (.slice 71, TC.l ME), (.slice 32, TC.l BA), (.int .i64, TC.i ct)])] = (qm_t k s sg bg NA NU ME BA ct).run fun p => some (qm_mk p) := by kernel_rfl
theorem qm_s : ∀ xs r, qm_S xs = some (true, r) → runF tab FT D22 live 65 qm_lo xs = some r := by
  intro xs r h
  unfold qm_S at h
  split at h
  · obtain ⟨h1, rfl⟩ := sp h
    exact fun_told (qm_e ..) (qm_l _ _ _ _ _ _ _ _ _) h1
  · cases h
def D23 : Dt := also D22 65 qm_S
theorem d23 : DOk Go.Proofs.Try.prog tab D23 := d22.also mixed_ok tab_ok names_ok (fnLoops_two (by kernel_rfl) qm_is7 qm_is12) qm_s
theorem qm_cc {k : Int} {s : Int} {sg : Bool} {bg : Bool} {NA : LL} {NU : LL} {ME : LL} {BA : LL} {ct : Int} (t4 : Typed tab (.slice 9) (.l NA)) : (qm_c k s sg bg NA NU ME BA ct) = true := by
  unfold qm_c
  refine bifT (fun b1 => ?_) (fun b1 => ?_)
  · skip
    rfl
  · skip
    refine bifT (fun b2 => ?_) (fun b2 => ?_)
    · skip
      rfl
    · skip
      refine bifT (fun b3 => ?_) (fun b3 => ?_)
      · skip
        rfl
      · skip
        refine bifT (fun b4 => ?_) (fun b4 => ?_)
        · skip
          rfl
        · skip
          refine bifT (fun b5 => ?_) (fun b5 => ?_)
          · skip
            rfl
          · skip
            refine andT (is_true (by have e5 := bneF b5; omega)) ?_
            refine bifT (fun b6 => ?_) (fun b6 => ?_)
            · skip
              rfl
            · skip
              refine andT (is_true (by have e5 := bneF b5; omega)) ?_
              refine bifT (fun b7 => ?_) (fun b7 => ?_)
              · skip
                rfl
              · skip
                refine bifT (fun b8 => ?_) (fun b8 => ?_)
                · skip
                  rfl
                · skip
                  refine bifT (fun b9 => ?_) (fun b9 => ?_)
                  · skip
                    rfl
                  · skip
                    refine bifT (fun b10 => ?_) (fun b10 => ?_)
                    · skip
                      rfl
                    · skip
                      refine andT (is_true (by have e5 := bneF b5; omega)) ?_
                      refine andT (by exact qbj_cc) ?_
                      refine bifT (fun b11 => ?_) (fun b11 => ?_)
                      · skip
                        refine andT (by have e5 := bneF b5; have e10 := bneF b10; exact is_true ⟨rfl, t4, by omega⟩) ?_
                        rfl
                      · skip
                        refine andT (by have e5 := bneF b5; have e10 := bneF b10; exact is_true ⟨rfl, t4, by omega⟩) ?_
                        rfl
theorem range_lo {k s : Int} {sg bg : Bool} {NA NU ME BA : LL} {ct : Int} (h : intV s sg bg NA NU ME BA ct = true) : (qbj_v k s sg bg NA NU ME BA ct).1 = loV s sg ∧ (qbj_v k s sg bg NA NU ME BA ct).2 = hiV s sg := by
  unfold intV has4 at h
  simp only [Bool.and_eq_true, Bool.or_eq_true, beq_iff_eq] at h
  have hs := h.1.1.1
  have h8 := h.1.1.2
  rcases hs with ((rfl | rfl) | rfl) | rfl <;> cases sg <;> first | (exact ⟨by unfold qbj_v loV; decide, by unfold qbj_v hiV; decide⟩) | (exact absurd h8 (by decide))
theorem qm_vv (k s : Int) (sg bg : Bool) (NA NU ME BA : LL) (ct : Int) : qm_v k s sg bg NA NU ME BA ct = enumV s sg bg NA NU ME BA ct := by
  unfold qm_v enumV
  rw [show qcg_v k s sg bg NA NU ME BA ct = plain sg bg from by unfold qcg_v plain; cases sg <;> cases bg <;> rfl, show qdh_v (nth (row BA (0 : Int)) 0).int (nth (row BA (0 : Int)) 1).int (nth (row BA (0 : Int)) 2).bool (nth (row BA (0 : Int)) 3).bool (nth (row BA (0 : Int)) 4).list (nth (row BA (0 : Int)) 5).list (nth (row BA (0 : Int)) 6).list (nth (row BA (0 : Int)) 7).list (nth (row BA (0 : Int)) 8).int = intV (nth (row BA (0 : Int)) 1).int (nth (row BA (0 : Int)) 2).bool (nth (row BA (0 : Int)) 3).bool (nth (row BA (0 : Int)) 4).list (nth (row BA (0 : Int)) 5).list (nth (row BA (0 : Int)) 6).list (nth (row BA (0 : Int)) 7).list (nth (row BA (0 : Int)) 8).int from rfl]
  cases hI : intV (nth (row BA (0 : Int)) 1).int (nth (row BA (0 : Int)) 2).bool (nth (row BA (0 : Int)) 3).bool (nth (row BA (0 : Int)) 4).list (nth (row BA (0 : Int)) 5).list (nth (row BA (0 : Int)) 6).list (nth (row BA (0 : Int)) 7).list (nth (row BA (0 : Int)) 8).int with
  | false => simp only [bif_nf, bif_tf, bif_ft, Bool.not_not, Bool.false_and, Bool.and_false]
  | true =>
    rw [show ∀ lo hi, qm_k7_1 k s sg bg NA NU ME BA ct lo hi 0 = !(allI (fun i : Nat => enumP NA NU lo hi (i : Int)) NA.length) from fun lo hi => by unfold qm_k7_1; rw [qm_R7_eq]; generalize allI _ _ = q; cases q <;> rfl]
    rw [(range_lo (k := (nth (row BA (0 : Int)) 0).int) hI).1, (range_lo (k := (nth (row BA (0 : Int)) 0).int) hI).2]
    simp only [bif_nf, bif_tf, bif_ft, Bool.not_not, Bool.and_true]
section
class qbs_O where n : Nat
variable [i_spec_l02Ok : qbs_O]
def qbs_rc (k s : Int) (sg bg : Bool) (NA NU ME BA : LL) (ct : Int) : Bool := is (max (rowsDep ME) (rowsDep BA) < qbs_O.n ∧ max (rowsDep ME) (rowsDep BA) < qu_O.n ∧ max (rowsDep ME) (rowsDep BA) < qh_O.n ∧ Typed tab (.slice 9) (.l NA) ∧ Typed tab (.slice 2) (.l NU) ∧ Typed tab (.slice 71) (.l ME) ∧ Typed tab (.slice 32) (.l BA))
def qbs_rv (k s : Int) (sg bg : Bool) (NA NU ME BA : LL) (ct : Int) : Bool := okV k s sg bg NA NU ME BA ct
def qbs_rmk (p : Bool) : Res := [(false, [⟨.bool, .sh, TC.b p⟩])]
def qbs_rS : List Arg → Option (Bool × Res) := fun xs => match xs with
  | [(true, [(.int .i64, TC.i k), (.int .i64, TC.i s), (.bool, TC.b sg), (.bool, TC.b bg), (.slice 9, TC.l NA), (.slice 2, TC.l NU), (.slice 71, TC.l ME), (.slice 32, TC.l BA), (.int .i64, TC.i ct)])] => some ((qbs_rc k s sg bg NA NU ME BA ct), qbs_rmk (qbs_rv k s sg bg NA NU ME BA ct))
  | _ => .none
def D24 : Dt := also D23 30 qbs_rS
class qbs_G : Prop where ok : DOk Go.Proofs.Try.prog tab D24
variable [g_spec_l02Ok : qbs_G]
theorem d24 : DOk Go.Proofs.Try.prog tab D24 := qbs_G.ok
def qd_f13 (k s : Int) (sg bg : Bool) (NA NU ME BA : LL) (ct en ix : Int) (mn : BS) (mo mk ms : Int) (msg mbg : Bool) (mNA mNU mME mBA : LL) (mct q : Int) : (Unit) ⊕ ((Int × Int × Bool × Bool × LL × LL × LL × LL × Int × Int × Int × BS × Int × Int × Int × Bool × Bool × LL × LL × LL × LL × Int) ⊕ (Int × Int × Bool × Bool × LL × LL × LL × LL × Int × Int × Int × BS × Int × Int × Int × Bool × Bool × LL × LL × LL × LL × Int)) := (bif ((nth (row ME q) 0).str == mn) then (.inr (.inl (k, s, sg, bg, NA, NU, ME, BA, ct, en, ix, mn, mo, mk, ms, msg, mbg, mNA, mNU, mME, mBA, mct))) else (.inl ()))
def qd_e13 (k s : Int) (sg bg : Bool) (NA NU ME BA : LL) (ct en ix : Int) (mn : BS) (mo mk ms : Int) (msg mbg : Bool) (mNA mNU mME mBA : LL) (mct : Int) : (Int × Int × Bool × Bool × LL × LL × LL × LL × Int × Int × Int × BS × Int × Int × Int × Bool × Bool × LL × LL × LL × LL × Int) ⊕ (Int × Int × Bool × Bool × LL × LL × LL × LL × Int × Int × Int × BS × Int × Int × Int × Bool × Bool × LL × LL × LL × LL × Int) := .inr (k, s, sg, bg, NA, NU, ME, BA, ct, en, ix, mn, mo, mk, ms, msg, mbg, mNA, mNU, mME, mBA, mct)
def qd_R13 (k s : Int) (sg bg : Bool) (NA NU ME BA : LL) (ct en ix : Int) (mn : BS) (mo mk ms : Int) (msg mbg : Bool) (mNA mNU mME mBA : LL) (mct q : Int) : (Int × Int × Bool × Bool × LL × LL × LL × LL × Int × Int × Int × BS × Int × Int × Int × Bool × Bool × LL × LL × LL × LL × Int) ⊕ (Int × Int × Bool × Bool × LL × LL × LL × LL × Int × Int × Int × BS × Int × Int × Int × Bool × Bool × LL × LL × LL × LL × Int) := iter (fun i a => (qd_f13 k s sg bg NA NU ME BA ct en ix mn mo mk ms msg mbg mNA mNU mME mBA mct (i : Int))) (fun a => (qd_e13 k s sg bg NA NU ME BA ct en ix mn mo mk ms msg mbg mNA mNU mME mBA mct)) (ix.toNat) 0 ()
abbrev qd_13_σ := Int × Int × Bool × Bool × LL × LL × LL × LL × Int × Int × Int × BS × Int × Int × Int × Bool × Bool × LL × LL × LL × LL × Int × Int
abbrev qd_13_ω := (Int × Int × Bool × Bool × LL × LL × LL × LL × Int × Int × Int × BS × Int × Int × Int × Bool × Bool × LL × LL × LL × LL × Int) ⊕ (Int × Int × Bool × Bool × LL × LL × LL × LL × Int × Int × Int × BS × Int × Int × Int × Bool × Bool × LL × LL × LL × LL × Int)
def qd_13_step (k s : Int) (sg bg : Bool) (NA NU ME BA : LL) (ct en ix : Int) (mn : BS) (mo mk ms : Int) (msg mbg : Bool) (mNA mNU mME mBA : LL) (mct q : Int) : Tr (qd_13_σ ⊕ qd_13_ω) := (.ite ((decide (q < ix)) = true) (.ite ((0 : Int) ≤ q ∧ q < (ME.length : Int)) (.ite (((nth (row ME q) 0).str == mn) = true) (.ok (.inr (.inl (k, s, sg, bg, NA, NU, ME, BA, ct, en, ix, mn, mo, mk, ms, msg, mbg, mNA, mNU, mME, mBA, mct))))
    (.ok (.inl (k, s, sg, bg, NA, NU, ME, BA, ct, en, ix, mn, mo, mk, ms, msg, mbg, mNA, mNU, mME, mBA, mct, (IntKind.wrap .i64 (q + (1 : Int)))))))
   .no)
  (.ok (.inr (.inr (k, s, sg, bg, NA, NU, ME, BA, ct, en, ix, mn, mo, mk, ms, msg, mbg, mNA, mNU, mME, mBA, mct)))))
def qd_13_st : qd_13_σ → Tr (qd_13_σ ⊕ qd_13_ω) := fun x => (qd_13_step (x.1) (x.2.1) (x.2.2.1) (x.2.2.2.1) (x.2.2.2.2.1) (x.2.2.2.2.2.1) (x.2.2.2.2.2.2.1) (x.2.2.2.2.2.2.2.1) (x.2.2.2.2.2.2.2.2.1) (x.2.2.2.2.2.2.2.2.2.1) (x.2.2.2.2.2.2.2.2.2.2.1) (x.2.2.2.2.2.2.2.2.2.2.2.1) (x.2.2.2.2.2.2.2.2.2.2.2.2.1) (x.2.2.2.2.2.2.2.2.2.2.2.2.2.1) (x.2.2.2.2.2.2.2.2.2.2.2.2.2.2.1) (x.2.2.2.2.2.2.2.2.2.2.2.2.2.2.2.1) (x.2.2.2.2.2.2.2.2.2.2.2.2.2.2.2.2.1) (x.2.2.2.2.2.2.2.2.2.2.2.2.2.2.2.2.2.1) (x.2.2.2.2.2.2.2.2.2.2.2.2.2.2.2.2.2.2.1) (x.2.2.2.2.2.2.2.2.2.2.2.2.2.2.2.2.2.2.2.1) (x.2.2.2.2.2.2.2.2.2.2.2.2.2.2.2.2.2.2.2.2.1) (x.2.2.2.2.2.2.2.2.2.2.2.2.2.2.2.2.2.2.2.2.2.1) (x.2.2.2.2.2.2.2.2.2.2.2.2.2.2.2.2.2.2.2.2.2.2))
def qd_k13_1 (k s : Int) (sg bg : Bool) (NA NU ME BA : LL) (ct en ix : Int) (mn : BS) (mo mk ms : Int) (msg mbg : Bool) (mNA mNU mME mBA : LL) (mct q : Int) : Bool := sumIs (qd_R13 k s sg bg NA NU ME BA ct en ix mn mo mk ms msg mbg mNA mNU mME mBA mct q)
def qd_o13_2 (k s : Int) (sg bg : Bool) (NA NU ME BA : LL) (ct en ix : Int) (mn : BS) (mo mk ms : Int) (msg mbg : Bool) (mNA mNU mME mBA : LL) (mct q : Int) : Bool := is (q = 0 ∧ 0 ≤ ix ∧ ix < (ME.length : Int) ∧ ME.length ≤ 140737488355328)
def qd_o13_3 (k s : Int) (sg bg : Bool) (NA NU ME BA : LL) (ct en ix : Int) (mn : BS) (mo mk ms : Int) (msg mbg : Bool) (mNA mNU mME mBA : LL) (mct q : Int) : Bool := is (q = 0 ∧ 0 ≤ ix ∧ ix < (ME.length : Int) ∧ ME.length ≤ 140737488355328)
def qd_13_fin (k s : Int) (sg bg : Bool) (NA NU ME BA : LL) (ct en ix : Int) (mn : BS) (mo mk ms : Int) (msg mbg : Bool) (mNA mNU mME mBA : LL) (mct q : Int) : Told qd_13_ω := (.br (qd_k13_1 k s sg bg NA NU ME BA ct en ix mn mo mk ms msg mbg mNA mNU mME mBA mct q) (.leaf (qd_o13_2 k s sg bg NA NU ME BA ct en ix mn mo mk ms msg mbg mNA mNU mME mBA mct q) (.inl (k, s, sg, bg, NA, NU, ME, BA, ct, en, ix, mn, mo, mk, ms, msg, mbg, mNA, mNU, mME, mBA, mct))) (.leaf (qd_o13_3 k s sg bg NA NU ME BA ct en ix mn mo mk ms msg mbg mNA mNU mME mBA mct q) (.inr (k, s, sg, bg, NA, NU, ME, BA, ct, en, ix, mn, mo, mk, ms, msg, mbg, mNA, mNU, mME, mBA, mct))))
def qd_13_sl : qd_13_σ → List Slot := fun x => match x with | (k, s, sg, bg, NA, NU, ME, BA, ct, en, ix, mn, mo, mk, ms, msg, mbg, mNA, mNU, mME, mBA, mct, q) => [⟨.bx 32 [⟨.int .i64, .sh, TC.i k⟩, ⟨.int .i64, .sh, TC.i s⟩, ⟨.bool, .sh, TC.b sg⟩, ⟨.bool, .sh, TC.b bg⟩, ⟨.slice 9, .sh, TC.l NA⟩, ⟨.slice 2, .sh, TC.l NU⟩, ⟨.slice 71, .sh, TC.l ME⟩, ⟨.slice 32, .sh, TC.l BA⟩, ⟨.int .i64, .sh, TC.i ct⟩], ⟨0, 0⟩⟩, ⟨.val false [⟨.int .i64, .sh, TC.i en⟩], ⟨0, 0⟩⟩, ⟨.val false [⟨.int .i64, .sh, TC.i ix⟩], ⟨0, 0⟩⟩, ⟨.bx 71 [⟨.str, .sh, TC.s mn⟩, ⟨.int .i64, .sh, TC.i mo⟩, ⟨.int .i64, .sh, TC.i mk⟩, ⟨.int .i64, .sh, TC.i ms⟩, ⟨.bool, .sh, TC.b msg⟩, ⟨.bool, .sh, TC.b mbg⟩, ⟨.slice 9, .sh, TC.l mNA⟩, ⟨.slice 2, .sh, TC.l mNU⟩, ⟨.slice 71, .sh, TC.l mME⟩, ⟨.slice 32, .sh, TC.l mBA⟩, ⟨.int .i64, .sh, TC.i mct⟩], ⟨0, 0⟩⟩, ⟨.val false [⟨.int .i64, .sh, TC.i q⟩], ⟨0, 0⟩⟩]
def qd_13_out : qd_13_ω → Ex × List Slot := (Sum.elim (fun x => (.ret, [⟨.bx 32 [⟨.int .i64, .sh, TC.i (x.1)⟩, ⟨.int .i64, .sh, TC.i (x.2.1)⟩, ⟨.bool, .sh, TC.b (x.2.2.1)⟩, ⟨.bool, .sh, TC.b (x.2.2.2.1)⟩, ⟨.slice 9, .sh, TC.l (x.2.2.2.2.1)⟩, ⟨.slice 2, .sh, TC.l (x.2.2.2.2.2.1)⟩, ⟨.slice 71, .sh, TC.l (x.2.2.2.2.2.2.1)⟩, ⟨.slice 32, .sh, TC.l (x.2.2.2.2.2.2.2.1)⟩, ⟨.int .i64, .sh, TC.i (x.2.2.2.2.2.2.2.2.1)⟩], ⟨0, 0⟩⟩, ⟨.val false [⟨.bool, .sh, TC.b false⟩], ⟨0, 0⟩⟩, ⟨.val false [⟨.int .i64, .sh, TC.i (x.2.2.2.2.2.2.2.2.2.1)⟩], ⟨0, 0⟩⟩, ⟨.val false [⟨.int .i64, .sh, TC.i (x.2.2.2.2.2.2.2.2.2.2.1)⟩], ⟨0, 0⟩⟩, ⟨.bx 71 [⟨.str, .sh, TC.s (x.2.2.2.2.2.2.2.2.2.2.2.1)⟩, ⟨.int .i64, .sh, TC.i (x.2.2.2.2.2.2.2.2.2.2.2.2.1)⟩, ⟨.int .i64, .sh, TC.i (x.2.2.2.2.2.2.2.2.2.2.2.2.2.1)⟩, ⟨.int .i64, .sh, TC.i (x.2.2.2.2.2.2.2.2.2.2.2.2.2.2.1)⟩, ⟨.bool, .sh, TC.b (x.2.2.2.2.2.2.2.2.2.2.2.2.2.2.2.1)⟩, ⟨.bool, .sh, TC.b (x.2.2.2.2.2.2.2.2.2.2.2.2.2.2.2.2.1)⟩, ⟨.slice 9, .sh, TC.l (x.2.2.2.2.2.2.2.2.2.2.2.2.2.2.2.2.2.1)⟩, ⟨.slice 2, .sh, TC.l (x.2.2.2.2.2.2.2.2.2.2.2.2.2.2.2.2.2.2.1)⟩, ⟨.slice 71, .sh, TC.l (x.2.2.2.2.2.2.2.2.2.2.2.2.2.2.2.2.2.2.2.1)⟩, ⟨.slice 32, .sh, TC.l (x.2.2.2.2.2.2.2.2.2.2.2.2.2.2.2.2.2.2.2.2.1)⟩, ⟨.int .i64, .sh, TC.i (x.2.2.2.2.2.2.2.2.2.2.2.2.2.2.2.2.2.2.2.2.2)⟩], ⟨0, 0⟩⟩])) (fun x => (.exit 2, [⟨.bx 32 [⟨.int .i64, .sh, TC.i (x.1)⟩, ⟨.int .i64, .sh, TC.i (x.2.1)⟩, ⟨.bool, .sh, TC.b (x.2.2.1)⟩, ⟨.bool, .sh, TC.b (x.2.2.2.1)⟩, ⟨.slice 9, .sh, TC.l (x.2.2.2.2.1)⟩, ⟨.slice 2, .sh, TC.l (x.2.2.2.2.2.1)⟩, ⟨.slice 71, .sh, TC.l (x.2.2.2.2.2.2.1)⟩, ⟨.slice 32, .sh, TC.l (x.2.2.2.2.2.2.2.1)⟩, ⟨.int .i64, .sh, TC.i (x.2.2.2.2.2.2.2.2.1)⟩], ⟨0, 0⟩⟩, Slot.none, ⟨.val false [⟨.int .i64, .sh, TC.i (x.2.2.2.2.2.2.2.2.2.1)⟩], ⟨0, 0⟩⟩, ⟨.val false [⟨.int .i64, .sh, TC.i (x.2.2.2.2.2.2.2.2.2.2.1)⟩], ⟨0, 0⟩⟩, ⟨.bx 71 [⟨.str, .sh, TC.s (x.2.2.2.2.2.2.2.2.2.2.2.1)⟩, ⟨.int .i64, .sh, TC.i (x.2.2.2.2.2.2.2.2.2.2.2.2.1)⟩, ⟨.int .i64, .sh, TC.i (x.2.2.2.2.2.2.2.2.2.2.2.2.2.1)⟩, ⟨.int .i64, .sh, TC.i (x.2.2.2.2.2.2.2.2.2.2.2.2.2.2.1)⟩, ⟨.bool, .sh, TC.b (x.2.2.2.2.2.2.2.2.2.2.2.2.2.2.2.1)⟩, ⟨.bool, .sh, TC.b (x.2.2.2.2.2.2.2.2.2.2.2.2.2.2.2.2.1)⟩, ⟨.slice 9, .sh, TC.l (x.2.2.2.2.2.2.2.2.2.2.2.2.2.2.2.2.2.1)⟩, ⟨.slice 2, .sh, TC.l (x.2.2.2.2.2.2.2.2.2.2.2.2.2.2.2.2.2.2.1)⟩, ⟨.slice 71, .sh, TC.l (x.2.2.2.2.2.2.2.2.2.2.2.2.2.2.2.2.2.2.2.1)⟩, ⟨.slice 32, .sh, TC.l (x.2.2.2.2.2.2.2.2.2.2.2.2.2.2.2.2.2.2.2.2.1)⟩, ⟨.int .i64, .sh, TC.i (x.2.2.2.2.2.2.2.2.2.2.2.2.2.2.2.2.2.2.2.2.2)⟩], ⟨0, 0⟩⟩])))
def qd_lo13 : List Slot → Option (Told (Ex × List Slot)) := fun s => match s with
  | [⟨.bx 32 [⟨.int .i64, .sh, TC.i k⟩, ⟨.int .i64, .sh, TC.i s⟩, ⟨.bool, .sh, TC.b sg⟩, ⟨.bool, .sh, TC.b bg⟩, ⟨.slice 9, .sh, TC.l NA⟩, ⟨.slice 2, .sh, TC.l NU⟩, ⟨.slice 71, .sh, TC.l ME⟩, ⟨.slice 32, .sh, TC.l BA⟩, ⟨.int .i64, .sh, TC.i ct⟩], ⟨0, 0⟩⟩, ⟨.val false [⟨.int .i64, .sh, TC.i en⟩], ⟨0, 0⟩⟩, ⟨.val false [⟨.int .i64, .sh, TC.i ix⟩], ⟨0, 0⟩⟩, ⟨.bx 71 [⟨.str, .sh, TC.s mn⟩, ⟨.int .i64, .sh, TC.i mo⟩, ⟨.int .i64, .sh, TC.i mk⟩, ⟨.int .i64, .sh, TC.i ms⟩, ⟨.bool, .sh, TC.b msg⟩, ⟨.bool, .sh, TC.b mbg⟩, ⟨.slice 9, .sh, TC.l mNA⟩, ⟨.slice 2, .sh, TC.l mNU⟩, ⟨.slice 71, .sh, TC.l mME⟩, ⟨.slice 32, .sh, TC.l mBA⟩, ⟨.int .i64, .sh, TC.i mct⟩], ⟨0, 0⟩⟩, ⟨.val false [⟨.int .i64, .sh, TC.i q⟩], ⟨0, 0⟩⟩] => some (((qd_13_fin k s sg bg NA NU ME BA ct en ix mn mo mk ms msg mbg mNA mNU mME mBA mct q)).map qd_13_out)
  | _ => .none
def qd_f7 (k s : Int) (sg bg : Bool) (NA NU ME BA : LL) (ct i en : Int) : (Int) ⊕ ((Int × Int × Bool × Bool × LL × LL × LL × LL × Int × Int) ⊕ (Int × Int × Bool × Bool × LL × LL × LL × LL × Int × Int)) := (bif (!(qz_v ((nth (row ME i) 0).str))) then (.inr (.inl (k, s, sg, bg, NA, NU, ME, BA, ct, en))) else (bif (decide ((nth (row ME i) 1).int < en)) then (.inr (.inl (k, s, sg, bg, NA, NU, ME, BA, ct, en))) else (bif (decide ((nth (row ME i) 1).int > (24 : Int))) then (.inr (.inl (k, s, sg, bg, NA, NU, ME, BA, ct, en))) else (bif (!(qbs_rv ((nth (row ME i) 2).int) ((nth (row ME i) 3).int) ((nth (row ME i) 4).bool) ((nth (row ME i) 5).bool) ((nth (row ME i) 6).list) ((nth (row ME i) 7).list) ((nth (row ME i) 8).list) ((nth (row ME i) 9).list) ((nth (row ME i) 10).int))) then (.inr (.inl (k, s, sg, bg, NA, NU, ME, BA, ct, en))) else (bif (qd_k13_1 k s sg bg NA NU ME BA ct en i ((nth (row ME i) 0).str) ((nth (row ME i) 1).int) ((nth (row ME i) 2).int) ((nth (row ME i) 3).int) ((nth (row ME i) 4).bool) ((nth (row ME i) 5).bool) ((nth (row ME i) 6).list) ((nth (row ME i) 7).list) ((nth (row ME i) 8).list) ((nth (row ME i) 9).list) ((nth (row ME i) 10).int) (0 : Int)) then (.inr (.inl (k, s, sg, bg, NA, NU, ME, BA, ct, en))) else (.inl (IntKind.wrap .i64 ((nth (row ME i) 1).int + (qu_rv ((nth (row ME i) 2).int) ((nth (row ME i) 3).int) ((nth (row ME i) 4).bool) ((nth (row ME i) 5).bool) ((nth (row ME i) 6).list) ((nth (row ME i) 7).list) ((nth (row ME i) 8).list) ((nth (row ME i) 9).list) ((nth (row ME i) 10).int))))))))))
def qd_e7 (k s : Int) (sg bg : Bool) (NA NU ME BA : LL) (ct en : Int) : (Int × Int × Bool × Bool × LL × LL × LL × LL × Int × Int) ⊕ (Int × Int × Bool × Bool × LL × LL × LL × LL × Int × Int) := .inr (k, s, sg, bg, NA, NU, ME, BA, ct, en)
def qd_R7 (k s : Int) (sg bg : Bool) (NA NU ME BA : LL) (ct en i : Int) : (Int × Int × Bool × Bool × LL × LL × LL × LL × Int × Int) ⊕ (Int × Int × Bool × Bool × LL × LL × LL × LL × Int × Int) := iter (fun i a => (qd_f7 k s sg bg NA NU ME BA ct (i : Int) a)) (fun a => (qd_e7 k s sg bg NA NU ME BA ct a)) (ME.length) 0 en
abbrev qd_7_σ := Int × Int × Bool × Bool × LL × LL × LL × LL × Int × Int × Int
abbrev qd_7_ω := (Int × Int × Bool × Bool × LL × LL × LL × LL × Int × Int) ⊕ (Int × Int × Bool × Bool × LL × LL × LL × LL × Int × Int)
def qd_7_step (k s : Int) (sg bg : Bool) (NA NU ME BA : LL) (ct en i : Int) : Tr (qd_7_σ ⊕ qd_7_ω) := (.ite ((decide (i < (ME.length : Int))) = true) (.ite ((0 : Int) ≤ i ∧ i < (ME.length : Int)) (.ite ((qz_c ((nth (row ME i) 0).str)) = true) (.ite ((!(qz_v ((nth (row ME i) 0).str))) = true) (.ok (.inr (.inl (k, s, sg, bg, NA, NU, ME, BA, ct, en))))
     (.ite ((decide ((nth (row ME i) 1).int < en)) = true) (.ok (.inr (.inl (k, s, sg, bg, NA, NU, ME, BA, ct, en))))
      (.ite ((decide ((nth (row ME i) 1).int > (24 : Int))) = true) (.ok (.inr (.inl (k, s, sg, bg, NA, NU, ME, BA, ct, en))))
       (.ite ((qbs_rc ((nth (row ME i) 2).int) ((nth (row ME i) 3).int) ((nth (row ME i) 4).bool) ((nth (row ME i) 5).bool) ((nth (row ME i) 6).list) ((nth (row ME i) 7).list) ((nth (row ME i) 8).list) ((nth (row ME i) 9).list) ((nth (row ME i) 10).int)) = true) (.ite ((!(qbs_rv ((nth (row ME i) 2).int) ((nth (row ME i) 3).int) ((nth (row ME i) 4).bool) ((nth (row ME i) 5).bool) ((nth (row ME i) 6).list) ((nth (row ME i) 7).list) ((nth (row ME i) 8).list) ((nth (row ME i) 9).list) ((nth (row ME i) 10).int))) = true) (.ok (.inr (.inl (k, s, sg, bg, NA, NU, ME, BA, ct, en))))
         (.ite ((qd_k13_1 k s sg bg NA NU ME BA ct en i ((nth (row ME i) 0).str) ((nth (row ME i) 1).int) ((nth (row ME i) 2).int) ((nth (row ME i) 3).int) ((nth (row ME i) 4).bool) ((nth (row ME i) 5).bool) ((nth (row ME i) 6).list) ((nth (row ME i) 7).list) ((nth (row ME i) 8).list) ((nth (row ME i) 9).list) ((nth (row ME i) 10).int) (0 : Int)) = true) (.ite ((qd_o13_2 k s sg bg NA NU ME BA ct en i ((nth (row ME i) 0).str) ((nth (row ME i) 1).int) ((nth (row ME i) 2).int) ((nth (row ME i) 3).int) ((nth (row ME i) 4).bool) ((nth (row ME i) 5).bool) ((nth (row ME i) 6).list) ((nth (row ME i) 7).list) ((nth (row ME i) 8).list) ((nth (row ME i) 9).list) ((nth (row ME i) 10).int) (0 : Int)) = true) (.ok (.inr (.inl (k, s, sg, bg, NA, NU, ME, BA, ct, en))))
           .no)
          (.ite ((qd_o13_3 k s sg bg NA NU ME BA ct en i ((nth (row ME i) 0).str) ((nth (row ME i) 1).int) ((nth (row ME i) 2).int) ((nth (row ME i) 3).int) ((nth (row ME i) 4).bool) ((nth (row ME i) 5).bool) ((nth (row ME i) 6).list) ((nth (row ME i) 7).list) ((nth (row ME i) 8).list) ((nth (row ME i) 9).list) ((nth (row ME i) 10).int) (0 : Int)) = true) (.ite ((qu_rc ((nth (row ME i) 2).int) ((nth (row ME i) 3).int) ((nth (row ME i) 4).bool) ((nth (row ME i) 5).bool) ((nth (row ME i) 6).list) ((nth (row ME i) 7).list) ((nth (row ME i) 8).list) ((nth (row ME i) 9).list) ((nth (row ME i) 10).int)) = true) (.ok (.inl (k, s, sg, bg, NA, NU, ME, BA, ct, (IntKind.wrap .i64 ((nth (row ME i) 1).int + (qu_rv ((nth (row ME i) 2).int) ((nth (row ME i) 3).int) ((nth (row ME i) 4).bool) ((nth (row ME i) 5).bool) ((nth (row ME i) 6).list) ((nth (row ME i) 7).list) ((nth (row ME i) 8).list) ((nth (row ME i) 9).list) ((nth (row ME i) 10).int)))), (IntKind.wrap .i64 (i + (1 : Int))))))
            .no)
           .no)))
        .no))))
    .no)
   .no)
  (.ok (.inr (.inr (k, s, sg, bg, NA, NU, ME, BA, ct, en)))))
def qd_7_st : qd_7_σ → Tr (qd_7_σ ⊕ qd_7_ω) := fun x => (qd_7_step (x.1) (x.2.1) (x.2.2.1) (x.2.2.2.1) (x.2.2.2.2.1) (x.2.2.2.2.2.1) (x.2.2.2.2.2.2.1) (x.2.2.2.2.2.2.2.1) (x.2.2.2.2.2.2.2.2.1) (x.2.2.2.2.2.2.2.2.2.1) (x.2.2.2.2.2.2.2.2.2.2))
def qd_k7_1 (k s : Int) (sg bg : Bool) (NA NU ME BA : LL) (ct en i : Int) : Bool := sumIs (qd_R7 k s sg bg NA NU ME BA ct en i)
def qd_o7_2 (k s : Int) (sg bg : Bool) (NA NU ME BA : LL) (ct en i : Int) : Bool := is (i = 0 ∧ Typed tab (.slice 71) (.l ME) ∧ (∀ x : List TC, x ∈ ME → qbs_rc (nth x 2).int (nth x 3).int (nth x 4).bool (nth x 5).bool (nth x 6).list (nth x 7).list (nth x 8).list (nth x 9).list (nth x 10).int = true) ∧ (∀ x : List TC, x ∈ ME → (!(qbs_rv (nth x 2).int (nth x 3).int (nth x 4).bool (nth x 5).bool (nth x 6).list (nth x 7).list (nth x 8).list (nth x 9).list (nth x 10).int)) = false → qu_rc (nth x 2).int (nth x 3).int (nth x 4).bool (nth x 5).bool (nth x 6).list (nth x 7).list (nth x 8).list (nth x 9).list (nth x 10).int = true))
def qd_u7_2_0 (k s : Int) (sg bg : Bool) (NA NU ME BA : LL) (ct en i : Int) : Int := (sumL (qd_R7 k s sg bg NA NU ME BA ct en i)).1
def qd_u7_2_1 (k s : Int) (sg bg : Bool) (NA NU ME BA : LL) (ct en i : Int) : Int := (sumL (qd_R7 k s sg bg NA NU ME BA ct en i)).2.1
def qd_u7_2_2 (k s : Int) (sg bg : Bool) (NA NU ME BA : LL) (ct en i : Int) : Bool := (sumL (qd_R7 k s sg bg NA NU ME BA ct en i)).2.2.1
def qd_u7_2_3 (k s : Int) (sg bg : Bool) (NA NU ME BA : LL) (ct en i : Int) : Bool := (sumL (qd_R7 k s sg bg NA NU ME BA ct en i)).2.2.2.1
def qd_u7_2_4 (k s : Int) (sg bg : Bool) (NA NU ME BA : LL) (ct en i : Int) : LL := (sumL (qd_R7 k s sg bg NA NU ME BA ct en i)).2.2.2.2.1
def qd_u7_2_5 (k s : Int) (sg bg : Bool) (NA NU ME BA : LL) (ct en i : Int) : LL := (sumL (qd_R7 k s sg bg NA NU ME BA ct en i)).2.2.2.2.2.1
def qd_u7_2_6 (k s : Int) (sg bg : Bool) (NA NU ME BA : LL) (ct en i : Int) : LL := (sumL (qd_R7 k s sg bg NA NU ME BA ct en i)).2.2.2.2.2.2.1
def qd_u7_2_7 (k s : Int) (sg bg : Bool) (NA NU ME BA : LL) (ct en i : Int) : LL := (sumL (qd_R7 k s sg bg NA NU ME BA ct en i)).2.2.2.2.2.2.2.1
def qd_u7_2_8 (k s : Int) (sg bg : Bool) (NA NU ME BA : LL) (ct en i : Int) : Int := (sumL (qd_R7 k s sg bg NA NU ME BA ct en i)).2.2.2.2.2.2.2.2.1
def qd_u7_2_9 (k s : Int) (sg bg : Bool) (NA NU ME BA : LL) (ct en i : Int) : Int := (sumL (qd_R7 k s sg bg NA NU ME BA ct en i)).2.2.2.2.2.2.2.2.2
def qd_o7_3 (k s : Int) (sg bg : Bool) (NA NU ME BA : LL) (ct en i : Int) : Bool := (qd_o7_2 k s sg bg NA NU ME BA ct en i)
def qd_u7_3_0 (k s : Int) (sg bg : Bool) (NA NU ME BA : LL) (ct en i : Int) : Int := (sumR (qd_R7 k s sg bg NA NU ME BA ct en i)).1
def qd_u7_3_1 (k s : Int) (sg bg : Bool) (NA NU ME BA : LL) (ct en i : Int) : Int := (sumR (qd_R7 k s sg bg NA NU ME BA ct en i)).2.1
def qd_u7_3_2 (k s : Int) (sg bg : Bool) (NA NU ME BA : LL) (ct en i : Int) : Bool := (sumR (qd_R7 k s sg bg NA NU ME BA ct en i)).2.2.1
def qd_u7_3_3 (k s : Int) (sg bg : Bool) (NA NU ME BA : LL) (ct en i : Int) : Bool := (sumR (qd_R7 k s sg bg NA NU ME BA ct en i)).2.2.2.1
def qd_u7_3_4 (k s : Int) (sg bg : Bool) (NA NU ME BA : LL) (ct en i : Int) : LL := (sumR (qd_R7 k s sg bg NA NU ME BA ct en i)).2.2.2.2.1
def qd_u7_3_5 (k s : Int) (sg bg : Bool) (NA NU ME BA : LL) (ct en i : Int) : LL := (sumR (qd_R7 k s sg bg NA NU ME BA ct en i)).2.2.2.2.2.1
def qd_u7_3_6 (k s : Int) (sg bg : Bool) (NA NU ME BA : LL) (ct en i : Int) : LL := (sumR (qd_R7 k s sg bg NA NU ME BA ct en i)).2.2.2.2.2.2.1
def qd_u7_3_7 (k s : Int) (sg bg : Bool) (NA NU ME BA : LL) (ct en i : Int) : LL := (sumR (qd_R7 k s sg bg NA NU ME BA ct en i)).2.2.2.2.2.2.2.1
def qd_u7_3_8 (k s : Int) (sg bg : Bool) (NA NU ME BA : LL) (ct en i : Int) : Int := (sumR (qd_R7 k s sg bg NA NU ME BA ct en i)).2.2.2.2.2.2.2.2.1
def qd_u7_3_9 (k s : Int) (sg bg : Bool) (NA NU ME BA : LL) (ct en i : Int) : Int := (sumR (qd_R7 k s sg bg NA NU ME BA ct en i)).2.2.2.2.2.2.2.2.2
def qd_7_fin (k s : Int) (sg bg : Bool) (NA NU ME BA : LL) (ct en i : Int) : Told qd_7_ω := (.br (qd_k7_1 k s sg bg NA NU ME BA ct en i) (.leaf (qd_o7_2 k s sg bg NA NU ME BA ct en i) (.inl ((qd_u7_2_0 k s sg bg NA NU ME BA ct en i), (qd_u7_2_1 k s sg bg NA NU ME BA ct en i), (qd_u7_2_2 k s sg bg NA NU ME BA ct en i), (qd_u7_2_3 k s sg bg NA NU ME BA ct en i), (qd_u7_2_4 k s sg bg NA NU ME BA ct en i), (qd_u7_2_5 k s sg bg NA NU ME BA ct en i), (qd_u7_2_6 k s sg bg NA NU ME BA ct en i), (qd_u7_2_7 k s sg bg NA NU ME BA ct en i), (qd_u7_2_8 k s sg bg NA NU ME BA ct en i), (qd_u7_2_9 k s sg bg NA NU ME BA ct en i)))) (.leaf (qd_o7_3 k s sg bg NA NU ME BA ct en i) (.inr ((qd_u7_3_0 k s sg bg NA NU ME BA ct en i), (qd_u7_3_1 k s sg bg NA NU ME BA ct en i), (qd_u7_3_2 k s sg bg NA NU ME BA ct en i), (qd_u7_3_3 k s sg bg NA NU ME BA ct en i), (qd_u7_3_4 k s sg bg NA NU ME BA ct en i), (qd_u7_3_5 k s sg bg NA NU ME BA ct en i), (qd_u7_3_6 k s sg bg NA NU ME BA ct en i), (qd_u7_3_7 k s sg bg NA NU ME BA ct en i), (qd_u7_3_8 k s sg bg NA NU ME BA ct en i), (qd_u7_3_9 k s sg bg NA NU ME BA ct en i)))))
def qd_7_sl (x : qd_7_σ) : List Slot := [⟨.bx 32 [⟨.int .i64, .sh, TC.i (x.1)⟩, ⟨.int .i64, .sh, TC.i (x.2.1)⟩, ⟨.bool, .sh, TC.b (x.2.2.1)⟩, ⟨.bool, .sh, TC.b (x.2.2.2.1)⟩, ⟨.slice 9, .sh, TC.l (x.2.2.2.2.1)⟩, ⟨.slice 2, .sh, TC.l (x.2.2.2.2.2.1)⟩, ⟨.slice 71, .sh, TC.l (x.2.2.2.2.2.2.1)⟩, ⟨.slice 32, .sh, TC.l (x.2.2.2.2.2.2.2.1)⟩, ⟨.int .i64, .sh, TC.i (x.2.2.2.2.2.2.2.2.1)⟩], ⟨0, 0⟩⟩, ⟨.val false [⟨.int .i64, .sh, TC.i (x.2.2.2.2.2.2.2.2.2.1)⟩], ⟨0, 0⟩⟩, ⟨.val false [⟨.int .i64, .sh, TC.i (x.2.2.2.2.2.2.2.2.2.2)⟩], ⟨0, 0⟩⟩]
def qd_7_out : qd_7_ω → Ex × List Slot := (Sum.elim (fun x => (.ret, [⟨.bx 32 [⟨.int .i64, .sh, TC.i (x.1)⟩, ⟨.int .i64, .sh, TC.i (x.2.1)⟩, ⟨.bool, .sh, TC.b (x.2.2.1)⟩, ⟨.bool, .sh, TC.b (x.2.2.2.1)⟩, ⟨.slice 9, .sh, TC.l (x.2.2.2.2.1)⟩, ⟨.slice 2, .sh, TC.l (x.2.2.2.2.2.1)⟩, ⟨.slice 71, .sh, TC.l (x.2.2.2.2.2.2.1)⟩, ⟨.slice 32, .sh, TC.l (x.2.2.2.2.2.2.2.1)⟩, ⟨.int .i64, .sh, TC.i (x.2.2.2.2.2.2.2.2.1)⟩], ⟨0, 0⟩⟩, ⟨.val false [⟨.bool, .sh, TC.b false⟩], ⟨0, 0⟩⟩, ⟨.val false [⟨.int .i64, .sh, TC.i (x.2.2.2.2.2.2.2.2.2)⟩], ⟨0, 0⟩⟩])) (fun x => (.exit 0, [⟨.bx 32 [⟨.int .i64, .sh, TC.i (x.1)⟩, ⟨.int .i64, .sh, TC.i (x.2.1)⟩, ⟨.bool, .sh, TC.b (x.2.2.1)⟩, ⟨.bool, .sh, TC.b (x.2.2.2.1)⟩, ⟨.slice 9, .sh, TC.l (x.2.2.2.2.1)⟩, ⟨.slice 2, .sh, TC.l (x.2.2.2.2.2.1)⟩, ⟨.slice 71, .sh, TC.l (x.2.2.2.2.2.2.1)⟩, ⟨.slice 32, .sh, TC.l (x.2.2.2.2.2.2.2.1)⟩, ⟨.int .i64, .sh, TC.i (x.2.2.2.2.2.2.2.2.1)⟩], ⟨0, 0⟩⟩, Slot.none, ⟨.val false [⟨.int .i64, .sh, TC.i (x.2.2.2.2.2.2.2.2.2)⟩], ⟨0, 0⟩⟩])))
def qd_lo7 : List Slot → Option (Told (Ex × List Slot)) := fun s => match s with
  | [⟨.bx 32 [⟨.int .i64, .sh, TC.i k⟩, ⟨.int .i64, .sh, TC.i s⟩, ⟨.bool, .sh, TC.b sg⟩, ⟨.bool, .sh, TC.b bg⟩, ⟨.slice 9, .sh, TC.l NA⟩, ⟨.slice 2, .sh, TC.l NU⟩, ⟨.slice 71, .sh, TC.l ME⟩, ⟨.slice 32, .sh, TC.l BA⟩, ⟨.int .i64, .sh, TC.i ct⟩], ⟨0, 0⟩⟩, ⟨.val false [⟨.int .i64, .sh, TC.i en⟩], ⟨0, 0⟩⟩, ⟨.val false [⟨.int .i64, .sh, TC.i i⟩], ⟨0, 0⟩⟩] => some (((qd_7_fin k s sg bg NA NU ME BA ct en i)).map qd_7_out)
  | _ => .none
def qd_lo : LoopTeller := fun r s => bif Nat.beq r 7 then qd_lo7 s else bif Nat.beq r 13 then qd_lo13 s else .none
theorem qd_13_r (k s : Int) (sg bg : Bool) (NA NU ME BA : LL) (ct en ix : Int) (mn : BS) (mo mk ms : Int) (msg mbg : Bool) (mNA mNU mME mBA : LL) (mct q : Int) (fuel : Nat) : rounds (rnd tab FT D24 live 66 qd_lo 1 13) leave (fuel + 1) (qd_13_sl (k, s, sg, bg, NA, NU, ME, BA, ct, en, ix, mn, mo, mk, ms, msg, mbg, mNA, mNU, mME, mBA, mct, q)) = ((qd_13_step k s sg bg NA NU ME BA ct en ix mn mo mk ms msg mbg mNA mNU mME mBA mct q)).run (goOn (fun s => rounds (rnd tab FT D24 live 66 qd_lo 1 13) leave fuel (qd_13_sl s)) fun w => some (qd_13_out w)) := by kernel_rfl
theorem qd_f13_eq (k s : Int) (sg bg : Bool) (NA NU ME BA : LL) (ct : Int) (en ix : Int) (mn : BS) (mo mk ms : Int) (msg mbg : Bool) (mNA mNU mME mBA : LL) (mct i : Int) : qd_f13 k s sg bg NA NU ME BA ct en ix mn mo mk ms msg mbg mNA mNU mME mBA mct i = bif !(strAt ME i == mn) then Sum.inl () else Sum.inr (Sum.inl (k, s, sg, bg, NA, NU, ME, BA, ct, en, ix, mn, mo, mk, ms, msg, mbg, mNA, mNU, mME, mBA, mct)) := by
  unfold qd_f13 strAt
  skip
  generalize ((nth (row ME i) 0).str == mn) = p0
  cases p0 <;> rfl
theorem qd_R13_eq (k s : Int) (sg bg : Bool) (NA NU ME BA : LL) (ct : Int) (en ix : Int) (mn : BS) (mo mk ms : Int) (msg mbg : Bool) (mNA mNU mME mBA : LL) (mct : Int)  : qd_R13 k s sg bg NA NU ME BA ct en ix mn mo mk ms msg mbg mNA mNU mME mBA mct 0 = bif allI (fun i : Nat => !(strAt ME (i : Int) == mn)) (ix.toNat) then Sum.inr (k, s, sg, bg, NA, NU, ME, BA, ct, en, ix, mn, mo, mk, ms, msg, mbg, mNA, mNU, mME, mBA, mct) else (Sum.inl (k, s, sg, bg, NA, NU, ME, BA, ct, en, ix, mn, mo, mk, ms, msg, mbg, mNA, mNU, mME, mBA, mct)) := by
  unfold qd_R13
  exact (iter_all (P := (fun i : Nat => !(strAt ME (i : Int) == mn))) (g := fun _ a => a) (w := Sum.inl (k, s, sg, bg, NA, NU, ME, BA, ct, en, ix, mn, mo, mk, ms, msg, mbg, mNA, mNU, mME, mBA, mct)) fun j a _ => qd_f13_eq k s sg bg NA NU ME BA ct en ix mn mo mk ms msg mbg mNA mNU mME mBA mct _)
theorem qd_13_h (k s : Int) (sg bg : Bool) (NA NU ME BA : LL) (ct en ix : Int) (mn : BS) (mo mk ms : Int) (msg mbg : Bool) (mNA mNU mME mBA : LL) (mct q : Int) (ow : qd_13_ω) : ((qd_13_fin k s sg bg NA NU ME BA ct en ix mn mo mk ms msg mbg mNA mNU mME mBA mct q)).val = some ow → ∃ fuel, loopN qd_13_st fuel (k, s, sg, bg, NA, NU, ME, BA, ct, en, ix, mn, mo, mk, ms, msg, mbg, mNA, mNU, mME, mBA, mct, q) = some ow := by
  refine auto_const (R := (qd_R13 k s sg bg NA NU ME BA ct en ix mn mo mk ms msg mbg mNA mNU mME mBA mct q)) rfl (iter_onR (f := (fun i a => (qd_f13 k s sg bg NA NU ME BA ct en ix mn mo mk ms msg mbg mNA mNU mME mBA mct (i : Int)))) (fin := (fun a => (qd_e13 k s sg bg NA NU ME BA ct en ix mn mo mk ms msg mbg mNA mNU mME mBA mct))) (Q := endsAs (k, s, sg, bg, NA, NU, ME, BA, ct, en, ix, mn, mo, mk, ms, msg, mbg, mNA, mNU, mME, mBA, mct) (k, s, sg, bg, NA, NU, ME, BA, ct, en, ix, mn, mo, mk, ms, msg, mbg, mNA, mNU, mME, mBA, mct)) (fun i a => by unfold qd_f13; exact (onR_bif rfl trivial)) (fun _ => rfl) _ _ _) ?_
  intro ho
  have ho : is (q = 0 ∧ 0 ≤ ix ∧ ix < (ME.length : Int) ∧ ME.length ≤ 140737488355328) = true := ho.elim id id
  obtain ⟨rfl, h0, h1, h2⟩ := is_iff.1 ho
  skip
  refine ⟨(ix.toNat) + 1, ?_⟩
  refine iter_loop (step := qd_13_st) (ix.toNat) (fun i a => (qd_f13 k s sg bg NA NU ME BA ct en ix mn mo mk ms msg mbg mNA mNU mME mBA mct (i : Int))) (fun a => (qd_e13 k s sg bg NA NU ME BA ct en ix mn mo mk ms msg mbg mNA mNU mME mBA mct)) (fun i a => (k, s, sg, bg, NA, NU, ME, BA, ct, en, ix, mn, mo, mk, ms, msg, mbg, mNA, mNU, mME, mBA, mct, (i : Int))) (fun _ _ => True) trivial (fun i a hi hI => ⟨?_, fun _ _ => trivial⟩) (fun a hI => ?_)
  · show (qd_13_step k s sg bg NA NU ME BA ct en ix mn mo mk ms msg mbg mNA mNU mME mBA mct (i : Int)).val = _
    unfold qd_13_step qd_f13
    skip
    refine Tr.t (by simp; omega) ?_
    exact (Tr.t (by first | omega | (constructor <;> omega)) (Tr.bf rfl (by rw [Tr.val_ok, wrap64 (i := (i : Int) + 1) (by omega) (by omega)]; rfl)))
  · show (qd_13_step k s sg bg NA NU ME BA ct en ix mn mo mk ms msg mbg mNA mNU mME mBA mct (ix.toNat : Int)).val = _
    refine Tr.n (by first | (simp; done) | (simp; omega) | omega) ?_
    rfl
theorem qd_is13 : LoopIs tab FT D24 live 66 qd_lo 1 13 := by
  refine loop_told (sl := qd_13_sl) (step := qd_13_st) (out := qd_13_out) (lor := qd_lo13) (fin := fun x => (qd_13_fin (x.1) (x.2.1) (x.2.2.1) (x.2.2.2.1) (x.2.2.2.2.1) (x.2.2.2.2.2.1) (x.2.2.2.2.2.2.1) (x.2.2.2.2.2.2.2.1) (x.2.2.2.2.2.2.2.2.1) (x.2.2.2.2.2.2.2.2.2.1) (x.2.2.2.2.2.2.2.2.2.2.1) (x.2.2.2.2.2.2.2.2.2.2.2.1) (x.2.2.2.2.2.2.2.2.2.2.2.2.1) (x.2.2.2.2.2.2.2.2.2.2.2.2.2.1) (x.2.2.2.2.2.2.2.2.2.2.2.2.2.2.1) (x.2.2.2.2.2.2.2.2.2.2.2.2.2.2.2.1) (x.2.2.2.2.2.2.2.2.2.2.2.2.2.2.2.2.1) (x.2.2.2.2.2.2.2.2.2.2.2.2.2.2.2.2.2.1) (x.2.2.2.2.2.2.2.2.2.2.2.2.2.2.2.2.2.2.1) (x.2.2.2.2.2.2.2.2.2.2.2.2.2.2.2.2.2.2.2.1) (x.2.2.2.2.2.2.2.2.2.2.2.2.2.2.2.2.2.2.2.2.1) (x.2.2.2.2.2.2.2.2.2.2.2.2.2.2.2.2.2.2.2.2.2.1) (x.2.2.2.2.2.2.2.2.2.2.2.2.2.2.2.2.2.2.2.2.2.2))) (fun _ => rfl) ?_ (fun x n => qd_13_r x.1 x.2.1 x.2.2.1 x.2.2.2.1 x.2.2.2.2.1 x.2.2.2.2.2.1 x.2.2.2.2.2.2.1 x.2.2.2.2.2.2.2.1 x.2.2.2.2.2.2.2.2.1 x.2.2.2.2.2.2.2.2.2.1 x.2.2.2.2.2.2.2.2.2.2.1 x.2.2.2.2.2.2.2.2.2.2.2.1 x.2.2.2.2.2.2.2.2.2.2.2.2.1 x.2.2.2.2.2.2.2.2.2.2.2.2.2.1 x.2.2.2.2.2.2.2.2.2.2.2.2.2.2.1 x.2.2.2.2.2.2.2.2.2.2.2.2.2.2.2.1 x.2.2.2.2.2.2.2.2.2.2.2.2.2.2.2.2.1 x.2.2.2.2.2.2.2.2.2.2.2.2.2.2.2.2.2.1 x.2.2.2.2.2.2.2.2.2.2.2.2.2.2.2.2.2.2.1 x.2.2.2.2.2.2.2.2.2.2.2.2.2.2.2.2.2.2.2.1 x.2.2.2.2.2.2.2.2.2.2.2.2.2.2.2.2.2.2.2.2.1 x.2.2.2.2.2.2.2.2.2.2.2.2.2.2.2.2.2.2.2.2.2.1 x.2.2.2.2.2.2.2.2.2.2.2.2.2.2.2.2.2.2.2.2.2.2 n) (fun x ow => qd_13_h x.1 x.2.1 x.2.2.1 x.2.2.2.1 x.2.2.2.2.1 x.2.2.2.2.2.1 x.2.2.2.2.2.2.1 x.2.2.2.2.2.2.2.1 x.2.2.2.2.2.2.2.2.1 x.2.2.2.2.2.2.2.2.2.1 x.2.2.2.2.2.2.2.2.2.2.1 x.2.2.2.2.2.2.2.2.2.2.2.1 x.2.2.2.2.2.2.2.2.2.2.2.2.1 x.2.2.2.2.2.2.2.2.2.2.2.2.2.1 x.2.2.2.2.2.2.2.2.2.2.2.2.2.2.1 x.2.2.2.2.2.2.2.2.2.2.2.2.2.2.2.1 x.2.2.2.2.2.2.2.2.2.2.2.2.2.2.2.2.1 x.2.2.2.2.2.2.2.2.2.2.2.2.2.2.2.2.2.1 x.2.2.2.2.2.2.2.2.2.2.2.2.2.2.2.2.2.2.1 x.2.2.2.2.2.2.2.2.2.2.2.2.2.2.2.2.2.2.2.1 x.2.2.2.2.2.2.2.2.2.2.2.2.2.2.2.2.2.2.2.2.1 x.2.2.2.2.2.2.2.2.2.2.2.2.2.2.2.2.2.2.2.2.2.1 x.2.2.2.2.2.2.2.2.2.2.2.2.2.2.2.2.2.2.2.2.2.2 ow)
  intro s t h
  unfold qd_lo13 at h
  split at h
  · cases h; exact ⟨(_, _, _, _, _, _, _, _, _, _, _, _, _, _, _, _, _, _, _, _, _, _, _), rfl, rfl⟩
  · cases h
theorem qd_7_r (k s : Int) (sg bg : Bool) (NA NU ME BA : LL) (ct en i : Int) (fuel : Nat) : rounds (rnd tab FT D24 live 66 qd_lo 0 7) leave (fuel + 1) (qd_7_sl (k, s, sg, bg, NA, NU, ME, BA, ct, en, i)) = ((qd_7_step k s sg bg NA NU ME BA ct en i)).run (goOn (fun s => rounds (rnd tab FT D24 live 66 qd_lo 0 7) leave fuel (qd_7_sl s)) fun w => some (qd_7_out w)) := by kernel_rfl
theorem qd_f7_eq (k s : Int) (sg bg : Bool) (NA NU ME BA : LL) (ct : Int) (i e : Int) : qd_f7 k s sg bg NA NU ME BA ct i e = bif (nameOk (strAt ME i) && (!decide ((nth (row ME i) 1).int < e) && (!decide ((nth (row ME i) 1).int > 24) && (okV (nth (row ME i) 2).int (nth (row ME i) 3).int (nth (row ME i) 4).bool (nth (row ME i) 5).bool (nth (row ME i) 6).list (nth (row ME i) 7).list (nth (row ME i) 8).list (nth (row ME i) 9).list (nth (row ME i) 10).int && noDupN ME i)))) then Sum.inl (IntKind.wrap .i64 ((nth (row ME i) 1).int + sizeV (nth (row ME i) 2).int (nth (row ME i) 3).int (nth (row ME i) 9).list (nth (row ME i) 10).int)) else Sum.inr (Sum.inl (k, s, sg, bg, NA, NU, ME, BA, ct, e)) := by
  unfold qd_f7
  rw [show ∀ e, qd_k13_1 k s sg bg NA NU ME BA ct e i (nth (row ME i) 0).str (nth (row ME i) 1).int (nth (row ME i) 2).int (nth (row ME i) 3).int (nth (row ME i) 4).bool (nth (row ME i) 5).bool (nth (row ME i) 6).list (nth (row ME i) 7).list (nth (row ME i) 8).list (nth (row ME i) 9).list (nth (row ME i) 10).int 0 = !(noDupN ME i) from fun e => by unfold qd_k13_1 noDupN; rw [qd_R13_eq]; unfold strAt; generalize allI _ _ = q; cases q <;> rfl]
  rw [qz_vv, show qbs_rv (nth (row ME i) 2).int (nth (row ME i) 3).int (nth (row ME i) 4).bool (nth (row ME i) 5).bool (nth (row ME i) 6).list (nth (row ME i) 7).list (nth (row ME i) 8).list (nth (row ME i) 9).list (nth (row ME i) 10).int = okV (nth (row ME i) 2).int (nth (row ME i) 3).int (nth (row ME i) 4).bool (nth (row ME i) 5).bool (nth (row ME i) 6).list (nth (row ME i) 7).list (nth (row ME i) 8).list (nth (row ME i) 9).list (nth (row ME i) 10).int from rfl, show strAt ME i = (nth (row ME i) 0).str from rfl]
  generalize nameOk _ = p0, decide ((nth (row ME i) 1).int < e) = p1, decide ((nth (row ME i) 1).int > 24) = p2, okV (nth (row ME i) 2).int (nth (row ME i) 3).int (nth (row ME i) 4).bool (nth (row ME i) 5).bool (nth (row ME i) 6).list (nth (row ME i) 7).list (nth (row ME i) 8).list (nth (row ME i) 9).list (nth (row ME i) 10).int = p3, noDupN ME i = p4
  cases p0 <;> cases p1 <;> cases p2 <;> cases p3 <;> cases p4 <;> rfl
theorem qd_R7_eq (k s : Int) (sg bg : Bool) (NA NU ME BA : LL) (ct : Int) : ∃ e, qd_R7 k s sg bg NA NU ME BA ct 0 0 = bif (allI (memP ME) ME.length && ME.all fun x => okV (nth x 2).int (nth x 3).int (nth x 4).bool (nth x 5).bool (nth x 6).list (nth x 7).list (nth x 8).list (nth x 9).list (nth x 10).int) then Sum.inr (k, s, sg, bg, NA, NU, ME, BA, ct, endAt ME ME.length) else Sum.inl (k, s, sg, bg, NA, NU, ME, BA, ct, e) := by
  unfold qd_R7
  obtain ⟨a, ha⟩ := iter_along (f := fun i a => qd_f7 k s sg bg NA NU ME BA ct (i : Int) a) (fin := fun a => qd_e7 k s sg bg NA NU ME BA ct a) (P := fun i : Nat => nameOk (strAt ME (i : Int)) && (!decide ((nth (row ME (i : Int)) 1).int < endAt ME i) && (!decide ((nth (row ME (i : Int)) 1).int > 24) && (okV (nth (row ME (i : Int)) 2).int (nth (row ME (i : Int)) 3).int (nth (row ME (i : Int)) 4).bool (nth (row ME (i : Int)) 5).bool (nth (row ME (i : Int)) 6).list (nth (row ME (i : Int)) 7).list (nth (row ME (i : Int)) 8).list (nth (row ME (i : Int)) 9).list (nth (row ME (i : Int)) 10).int && noDupN ME (i : Int))))) (A := endAt ME) (w := fun e => Sum.inl (k, s, sg, bg, NA, NU, ME, BA, ct, e)) (N := ME.length) (fun j _ => qd_f7_eq k s sg bg NA NU ME BA ct (j : Int) (endAt ME j))
  refine ⟨a, ha.trans ?_⟩
  rw [show allI (fun i : Nat => nameOk (strAt ME (i : Int)) && (!decide ((nth (row ME (i : Int)) 1).int < endAt ME i) && (!decide ((nth (row ME (i : Int)) 1).int > 24) && (okV (nth (row ME (i : Int)) 2).int (nth (row ME (i : Int)) 3).int (nth (row ME (i : Int)) 4).bool (nth (row ME (i : Int)) 5).bool (nth (row ME (i : Int)) 6).list (nth (row ME (i : Int)) 7).list (nth (row ME (i : Int)) 8).list (nth (row ME (i : Int)) 9).list (nth (row ME (i : Int)) 10).int && noDupN ME (i : Int))))) ME.length = (allI (memP ME) ME.length && ME.all fun x => okV (nth x 2).int (nth x 3).int (nth x 4).bool (nth x 5).bool (nth x 6).list (nth x 7).list (nth x 8).list (nth x 9).list (nth x 10).int) from by
    rw [← allI_rows, ← allI_and]
    refine allI_congr fun i _ => ?_
    unfold memP
    generalize nameOk _ = p0, decide ((nth (row ME (i : Int)) 1).int < endAt ME i) = p1, decide ((nth (row ME (i : Int)) 1).int > 24) = p2, okV (nth (row ME (i : Int)) 2).int (nth (row ME (i : Int)) 3).int (nth (row ME (i : Int)) 4).bool (nth (row ME (i : Int)) 5).bool (nth (row ME (i : Int)) 6).list (nth (row ME (i : Int)) 7).list (nth (row ME (i : Int)) 8).list (nth (row ME (i : Int)) 9).list (nth (row ME (i : Int)) 10).int = p3, noDupN ME _ = p4
    cases p0 <;> cases p1 <;> cases p2 <;> cases p3 <;> cases p4 <;> rfl]
  rfl
theorem qd_7_h (k s : Int) (sg bg : Bool) (NA NU ME BA : LL) (ct en i : Int) (ow : qd_7_ω) : ((qd_7_fin k s sg bg NA NU ME BA ct en i)).val = some ow → ∃ fuel, loopN qd_7_st fuel (k, s, sg, bg, NA, NU, ME, BA, ct, en, i) = some ow := by
  refine auto_sum (R := (qd_R7 k s sg bg NA NU ME BA ct en i)) rfl rfl rfl ?_
  intro ho
  have ho : is (i = 0 ∧ Typed tab (.slice 71) (.l ME) ∧ (∀ x : List TC, x ∈ ME → qbs_rc (nth x 2).int (nth x 3).int (nth x 4).bool (nth x 5).bool (nth x 6).list (nth x 7).list (nth x 8).list (nth x 9).list (nth x 10).int = true) ∧ (∀ x : List TC, x ∈ ME → (!(qbs_rv (nth x 2).int (nth x 3).int (nth x 4).bool (nth x 5).bool (nth x 6).list (nth x 7).list (nth x 8).list (nth x 9).list (nth x 10).int)) = false → qu_rc (nth x 2).int (nth x 3).int (nth x 4).bool (nth x 5).bool (nth x 6).list (nth x 7).list (nth x 8).list (nth x 9).list (nth x 10).int = true)) = true := ho.elim id id
  obtain ⟨rfl, ht, hr, hz⟩ := is_iff.1 ho
  have hlen : ME.length ≤ 140737488351232 := by have := typed_room ht; simp only [show (tab 71).bytes = 152 from rfl] at this; omega
  refine ⟨(ME.length) + 1, ?_⟩
  refine iter_loop (step := qd_7_st) (ME.length) (fun i a => (qd_f7 k s sg bg NA NU ME BA ct (i : Int) a)) (fun a => (qd_e7 k s sg bg NA NU ME BA ct a)) (fun i a => (k, s, sg, bg, NA, NU, ME, BA, ct, a, (i : Int))) (fun _ _ => True) trivial (fun i a hi hI => ⟨?_, fun _ _ => trivial⟩) (fun a hI => ?_)
  · show (qd_7_step k s sg bg NA NU ME BA ct a (i : Int)).val = _
    unfold qd_7_step qd_f7
    have c0 : Typed tab (.str) (.s (nth (ME.getD i []) 0).str) := typed_s (typed_cell ht (ME.getD i []) (mem_getD hi) 0 (by decide))
    have c6 : Typed tab (.slice 9) (.l (nth (ME.getD i []) 6).list) := typed_list (typed_cell ht (ME.getD i []) (mem_getD hi) 6 (by decide))
    have c7 : Typed tab (.slice 2) (.l (nth (ME.getD i []) 7).list) := typed_list (typed_cell ht (ME.getD i []) (mem_getD hi) 7 (by decide))
    have c8 : Typed tab (.slice 71) (.l (nth (ME.getD i []) 8).list) := typed_list (typed_cell ht (ME.getD i []) (mem_getD hi) 8 (by decide))
    have c9 : Typed tab (.slice 32) (.l (nth (ME.getD i []) 9).list) := typed_list (typed_cell ht (ME.getD i []) (mem_getD hi) 9 (by decide))
    refine Tr.t (by simp; omega) ?_
    exact (Tr.t (by first | omega | (constructor <;> omega) | (exact is_true ⟨rfl, by omega, by omega, by omega⟩) | (exact hr _ (mem_getD (by omega))) | (exact hz _ (mem_getD (by omega)) (by assumption))) (Tr.t (by first | (exact is_true ⟨rfl, by omega, by omega, by omega⟩) | (exact hr _ (mem_getD (by omega))) | (exact hz _ (mem_getD (by omega)) (by assumption)) | (first | (apply qz_cc <;> assumption) | (first | (apply is_true; and_intros <;> (first | rfl | assumption | (apply qq_cc <;> assumption) | (apply qbv_cc <;> assumption) | (apply qv_cc <;> assumption) | (apply qba_cc <;> assumption) | (apply qbf_cc <;> assumption) | (apply qbj_cc <;> assumption) | (apply qz_cc <;> assumption) | (apply qm_cc <;> assumption) | (first | (apply is_true; and_intros <;> (first | rfl | assumption | (apply qq_cc <;> assumption) | (apply qbv_cc <;> assumption) | (apply qv_cc <;> assumption) | (apply qba_cc <;> assumption) | (apply qbf_cc <;> assumption) | (apply qbj_cc <;> assumption) | (apply qz_cc <;> assumption) | (apply qm_cc <;> assumption))) | (apply qq_cc <;> assumption) | (apply qbv_cc <;> assumption) | (apply qv_cc <;> assumption) | (apply qba_cc <;> assumption) | (apply qbf_cc <;> assumption) | (apply qbj_cc <;> assumption) | (apply qz_cc <;> assumption) | (apply qm_cc <;> assumption)))) | (apply qq_cc <;> assumption) | (apply qbv_cc <;> assumption) | (apply qv_cc <;> assumption) | (apply qba_cc <;> assumption) | (apply qbf_cc <;> assumption) | (apply qbj_cc <;> assumption) | (apply qz_cc <;> assumption) | (apply qm_cc <;> assumption)))) (Tr.bh (fun _ => rfl) (fun _ => (Tr.bh (fun _ => rfl) (fun _ => (Tr.bh (fun _ => rfl) (fun _ => (Tr.t (by first | omega | (constructor <;> omega) | (exact is_true ⟨rfl, by omega, by omega, by omega⟩) | (exact hr _ (mem_getD (by omega))) | (exact hz _ (mem_getD (by omega)) (by assumption))) (Tr.bh (fun _ => rfl) (fun _ => (Tr.bh (fun _ => (Tr.t (by first | (exact is_true ⟨rfl, by omega, by omega, by omega⟩) | (exact hr _ (mem_getD (by omega))) | (exact hz _ (mem_getD (by omega)) (by assumption)) | (first | (apply is_true; and_intros <;> (first | rfl | assumption | (apply qq_cc <;> assumption) | (apply qbv_cc <;> assumption) | (apply qv_cc <;> assumption) | (apply qba_cc <;> assumption) | (apply qbf_cc <;> assumption) | (apply qbj_cc <;> assumption) | (apply qz_cc <;> assumption) | (apply qm_cc <;> assumption) | (first | (apply is_true; and_intros <;> (first | rfl | assumption | (apply qq_cc <;> assumption) | (apply qbv_cc <;> assumption) | (apply qv_cc <;> assumption) | (apply qba_cc <;> assumption) | (apply qbf_cc <;> assumption) | (apply qbj_cc <;> assumption) | (apply qz_cc <;> assumption) | (apply qm_cc <;> assumption) | (first | (apply is_true; and_intros <;> (first | rfl | assumption | (apply qq_cc <;> assumption) | (apply qbv_cc <;> assumption) | (apply qv_cc <;> assumption) | (apply qba_cc <;> assumption) | (apply qbf_cc <;> assumption) | (apply qbj_cc <;> assumption) | (apply qz_cc <;> assumption) | (apply qm_cc <;> assumption))) | (apply qq_cc <;> assumption) | (apply qbv_cc <;> assumption) | (apply qv_cc <;> assumption) | (apply qba_cc <;> assumption) | (apply qbf_cc <;> assumption) | (apply qbj_cc <;> assumption) | (apply qz_cc <;> assumption) | (apply qm_cc <;> assumption)))) | (apply qq_cc <;> assumption) | (apply qbv_cc <;> assumption) | (apply qv_cc <;> assumption) | (apply qba_cc <;> assumption) | (apply qbf_cc <;> assumption) | (apply qbj_cc <;> assumption) | (apply qz_cc <;> assumption) | (apply qm_cc <;> assumption)))) | (apply qq_cc <;> assumption) | (apply qbv_cc <;> assumption) | (apply qv_cc <;> assumption) | (apply qba_cc <;> assumption) | (apply qbf_cc <;> assumption) | (apply qbj_cc <;> assumption) | (apply qz_cc <;> assumption) | (apply qm_cc <;> assumption))) rfl)) (fun _ => (Tr.t (by first | (exact is_true ⟨rfl, by omega, by omega, by omega⟩) | (exact hr _ (mem_getD (by omega))) | (exact hz _ (mem_getD (by omega)) (by assumption)) | (first | (apply is_true; and_intros <;> (first | rfl | assumption | (apply qq_cc <;> assumption) | (apply qbv_cc <;> assumption) | (apply qv_cc <;> assumption) | (apply qba_cc <;> assumption) | (apply qbf_cc <;> assumption) | (apply qbj_cc <;> assumption) | (apply qz_cc <;> assumption) | (apply qm_cc <;> assumption) | (first | (apply is_true; and_intros <;> (first | rfl | assumption | (apply qq_cc <;> assumption) | (apply qbv_cc <;> assumption) | (apply qv_cc <;> assumption) | (apply qba_cc <;> assumption) | (apply qbf_cc <;> assumption) | (apply qbj_cc <;> assumption) | (apply qz_cc <;> assumption) | (apply qm_cc <;> assumption) | (first | (apply is_true; and_intros <;> (first | rfl | assumption | (apply qq_cc <;> assumption) | (apply qbv_cc <;> assumption) | (apply qv_cc <;> assumption) | (apply qba_cc <;> assumption) | (apply qbf_cc <;> assumption) | (apply qbj_cc <;> assumption) | (apply qz_cc <;> assumption) | (apply qm_cc <;> assumption))) | (apply qq_cc <;> assumption) | (apply qbv_cc <;> assumption) | (apply qv_cc <;> assumption) | (apply qba_cc <;> assumption) | (apply qbf_cc <;> assumption) | (apply qbj_cc <;> assumption) | (apply qz_cc <;> assumption) | (apply qm_cc <;> assumption)))) | (apply qq_cc <;> assumption) | (apply qbv_cc <;> assumption) | (apply qv_cc <;> assumption) | (apply qba_cc <;> assumption) | (apply qbf_cc <;> assumption) | (apply qbj_cc <;> assumption) | (apply qz_cc <;> assumption) | (apply qm_cc <;> assumption)))) | (apply qq_cc <;> assumption) | (apply qbv_cc <;> assumption) | (apply qv_cc <;> assumption) | (apply qba_cc <;> assumption) | (apply qbf_cc <;> assumption) | (apply qbj_cc <;> assumption) | (apply qz_cc <;> assumption) | (apply qm_cc <;> assumption))) (Tr.t (by first | omega | (constructor <;> omega) | (exact is_true ⟨rfl, by omega, by omega, by omega⟩) | (exact hr _ (mem_getD (by omega))) | (exact hz _ (mem_getD (by omega)) (by assumption))) (by rw [Tr.val_ok, wrap64 (i := (i : Int) + 1) (by omega) (by omega)]; rfl))))))))))))))))
  · show (qd_7_step k s sg bg NA NU ME BA ct a (ME.length : Int)).val = _
    refine Tr.n (by first | (simp; done) | (simp; omega) | omega) ?_
    rfl
theorem qd_is7 : LoopIs tab FT D24 live 66 qd_lo 0 7 := by
  refine loop_told (sl := qd_7_sl) (step := qd_7_st) (out := qd_7_out) (lor := qd_lo7) (fin := fun x => (qd_7_fin (x.1) (x.2.1) (x.2.2.1) (x.2.2.2.1) (x.2.2.2.2.1) (x.2.2.2.2.2.1) (x.2.2.2.2.2.2.1) (x.2.2.2.2.2.2.2.1) (x.2.2.2.2.2.2.2.2.1) (x.2.2.2.2.2.2.2.2.2.1) (x.2.2.2.2.2.2.2.2.2.2))) (fun _ => rfl) ?_ (fun x n => qd_7_r x.1 x.2.1 x.2.2.1 x.2.2.2.1 x.2.2.2.2.1 x.2.2.2.2.2.1 x.2.2.2.2.2.2.1 x.2.2.2.2.2.2.2.1 x.2.2.2.2.2.2.2.2.1 x.2.2.2.2.2.2.2.2.2.1 x.2.2.2.2.2.2.2.2.2.2 n) (fun x ow => qd_7_h x.1 x.2.1 x.2.2.1 x.2.2.2.1 x.2.2.2.2.1 x.2.2.2.2.2.1 x.2.2.2.2.2.2.1 x.2.2.2.2.2.2.2.1 x.2.2.2.2.2.2.2.2.1 x.2.2.2.2.2.2.2.2.2.1 x.2.2.2.2.2.2.2.2.2.2 ow)
  intro s t h
  unfold qd_lo7 at h
  split at h
  · cases h; exact ⟨(_, _, _, _, _, _, _, _, _, _, _), rfl, rfl⟩
  · cases h
def qd_t (k s : Int) (sg bg : Bool) (NA NU ME BA : LL) (ct : Int) : Tr (Bool) := (.ite ((!(qdf_v s (1 : Int) (24 : Int))) = true) (.ok false)
  (.ite ((!(qcg_v k s sg bg NA NU ME BA ct)) = true) (.ok false)
   (.ite ((decide ((NA.length : Int) > (0 : Int))) = true) (.ok false)
    (.ite ((decide ((NU.length : Int) > (0 : Int))) = true) (.ok false)
     (.ite ((decide ((BA.length : Int) > (0 : Int))) = true) (.ok false)
      (.ite ((!(ct == (0 : Int))) = true) (.ok false)
       (.ite ((decide ((ME.length : Int) < (1 : Int))) = true) (.ok false)
        (.ite ((decide ((ME.length : Int) > (4 : Int))) = true) (.ok false)
         (.ite ((qd_k7_1 k s sg bg NA NU ME BA ct (0 : Int) (0 : Int)) = true) (.ite ((qd_o7_2 k s sg bg NA NU ME BA ct (0 : Int) (0 : Int)) = true) (.ok false)
           .no)
          (.ite ((qd_o7_3 k s sg bg NA NU ME BA ct (0 : Int) (0 : Int)) = true) (.ok (decide ((qd_u7_3_9 k s sg bg NA NU ME BA ct (0 : Int) (0 : Int)) ≤ (qd_u7_3_1 k s sg bg NA NU ME BA ct (0 : Int) (0 : Int)))))
           .no))))))))))
def qd_mk (p : Bool) : Res := [(false, [⟨.bool, .sh, TC.b p⟩])]
def qd_c (k s : Int) (sg bg : Bool) (NA NU ME BA : LL) (ct : Int) : Bool := (bif (!(qdf_v s (1 : Int) (24 : Int))) then true else (bif (!(qcg_v k s sg bg NA NU ME BA ct)) then true else (bif (decide ((NA.length : Int) > (0 : Int))) then true else (bif (decide ((NU.length : Int) > (0 : Int))) then true else (bif (decide ((BA.length : Int) > (0 : Int))) then true else (bif (!(ct == (0 : Int))) then true else (bif (decide ((ME.length : Int) < (1 : Int))) then true else (bif (decide ((ME.length : Int) > (4 : Int))) then true else (bif (qd_k7_1 k s sg bg NA NU ME BA ct (0 : Int) (0 : Int)) then ((qd_o7_2 k s sg bg NA NU ME BA ct (0 : Int) (0 : Int)) && true) else ((qd_o7_3 k s sg bg NA NU ME BA ct (0 : Int) (0 : Int)) && true))))))))))
def qd_v (k s : Int) (sg bg : Bool) (NA NU ME BA : LL) (ct : Int) : Bool := (bif (!(qdf_v s (1 : Int) (24 : Int))) then false else (bif (!(qcg_v k s sg bg NA NU ME BA ct)) then false else (bif (decide ((NA.length : Int) > (0 : Int))) then false else (bif (decide ((NU.length : Int) > (0 : Int))) then false else (bif (decide ((BA.length : Int) > (0 : Int))) then false else (bif (!(ct == (0 : Int))) then false else (bif (decide ((ME.length : Int) < (1 : Int))) then false else (bif (decide ((ME.length : Int) > (4 : Int))) then false else (bif (qd_k7_1 k s sg bg NA NU ME BA ct (0 : Int) (0 : Int)) then false else (decide ((qd_u7_3_9 k s sg bg NA NU ME BA ct (0 : Int) (0 : Int)) ≤ (qd_u7_3_1 k s sg bg NA NU ME BA ct (0 : Int) (0 : Int)))))))))))))
theorem qd_l (k s : Int) (sg bg : Bool) (NA NU ME BA : LL) (ct : Int) : (qd_c k s sg bg NA NU ME BA ct) = true → (qd_t k s sg bg NA NU ME BA ct).val = some (qd_v k s sg bg NA NU ME BA ct) := by
  unfold qd_t qd_v qd_c
  intro h
  repeat' first | refine Tr.gb h fun h => ?_ | refine Tr.gs h fun h => ?_ | refine Tr.ss h (fun h => ?_) fun h => ?_ | exact rfl
def qd_S : List Arg → Option (Bool × Res) := fun xs => match xs with
  | [(true, [(.int .i64, TC.i k), (.int .i64, TC.i s), (.bool, TC.b sg), (.bool, TC.b bg), (.slice 9, TC.l NA), (.slice 2, TC.l NU), (.slice 71, TC.l ME), (.slice 32, TC.l BA), (.int .i64, TC.i ct)])] => some ((qd_c k s sg bg NA NU ME BA ct), qd_mk (qd_v k s sg bg NA NU ME BA ct))
  | _ => .none
theorem qd_e (k s : Int) (sg bg : Bool) (NA NU ME BA : LL) (ct : Int) : runF tab FT D24 live 66 qd_lo [(true, [(.int .i64, TC.i k), (.int .i64, TC.i s), (.bool, TC.b sg), (.bool, TC.b bg), (.slice 9, TC.l NA), (.slice 2, TC.l NU), (.slice 71, TC.l ME), (.slice 32, TC.l BA), (.int .i64, TC.i ct)])] = (qd_t k s sg bg NA NU ME BA ct).run fun p => some (qd_mk p) := by kernel_rfl
theorem qd_s : ∀ xs r, qd_S xs = some (true, r) → runF tab FT D24 live 66 qd_lo xs = some r := by
  intro xs r h
  unfold qd_S at h
  split at h
  · obtain ⟨h1, rfl⟩ := sp h
    exact fun_told (qd_e ..) (qd_l _ _ _ _ _ _ _ _ _) h1
  · cases h
def D25 : Dt := also D24 66 qd_S
theorem d25 : DOk Go.Proofs.Try.prog tab D25 := d24.also mixed_ok tab_ok names_ok (fnLoops_two (by kernel_rfl) qd_is7 qd_is13) qd_s
theorem qd_cc {k : Int} {s : Int} {sg : Bool} {bg : Bool} {NA : LL} {NU : LL} {ME : LL} {BA : LL} {ct : Int} (ht : Typed tab (.slice 71) (.l ME)) (hr : (∀ x : List TC, x ∈ ME → qbs_rc (nth x 2).int (nth x 3).int (nth x 4).bool (nth x 5).bool (nth x 6).list (nth x 7).list (nth x 8).list (nth x 9).list (nth x 10).int = true)) (hz : (∀ x : List TC, x ∈ ME → (!(qbs_rv (nth x 2).int (nth x 3).int (nth x 4).bool (nth x 5).bool (nth x 6).list (nth x 7).list (nth x 8).list (nth x 9).list (nth x 10).int)) = false → qu_rc (nth x 2).int (nth x 3).int (nth x 4).bool (nth x 5).bool (nth x 6).list (nth x 7).list (nth x 8).list (nth x 9).list (nth x 10).int = true)) : (qd_c k s sg bg NA NU ME BA ct) = true := by
  unfold qd_c
  refine bifT (fun b1 => ?_) (fun b1 => ?_)
  · skip
    rfl
  · skip
    refine bifT (fun b2 => ?_) (fun b2 => ?_)
    · skip
      rfl
    · skip
      refine bifT (fun b3 => ?_) (fun b3 => ?_)
      · skip
        rfl
      · skip
        refine bifT (fun b4 => ?_) (fun b4 => ?_)
        · skip
          rfl
        · skip
          refine bifT (fun b5 => ?_) (fun b5 => ?_)
          · skip
            rfl
          · skip
            refine bifT (fun b6 => ?_) (fun b6 => ?_)
            · skip
              rfl
            · skip
              refine bifT (fun b7 => ?_) (fun b7 => ?_)
              · skip
                rfl
              · skip
                refine bifT (fun b8 => ?_) (fun b8 => ?_)
                · skip
                  rfl
                · skip
                  refine bifT (fun b9 => ?_) (fun b9 => ?_)
                  · skip
                    refine andT (by exact is_true ⟨rfl, ht, hr, hz⟩) ?_
                    rfl
                  · skip
                    refine andT (by exact is_true ⟨rfl, ht, hr, hz⟩) ?_
                    rfl
theorem qd_vv (k s : Int) (sg bg : Bool) (NA NU ME BA : LL) (ct : Int) : qd_v k s sg bg NA NU ME BA ct = (compS s sg bg NA NU ME BA ct && ((allI (memP ME) ME.length && ME.all fun x => okV (nth x 2).int (nth x 3).int (nth x 4).bool (nth x 5).bool (nth x 6).list (nth x 7).list (nth x 8).list (nth x 9).list (nth x 10).int) && decide (endAt ME ME.length ≤ s))) := by
  unfold qd_v compS
  rw [show qcg_v k s sg bg NA NU ME BA ct = plain sg bg from by unfold qcg_v plain; cases sg <;> cases bg <;> rfl, show qdf_v s 1 24 = inB s 1 24 from rfl]
  obtain ⟨e, he⟩ := qd_R7_eq k s sg bg NA NU ME BA ct
  have hv : (bif qd_k7_1 k s sg bg NA NU ME BA ct 0 0 then false else decide (qd_u7_3_9 k s sg bg NA NU ME BA ct 0 0 ≤ qd_u7_3_1 k s sg bg NA NU ME BA ct 0 0)) = ((allI (memP ME) ME.length && ME.all fun x => okV (nth x 2).int (nth x 3).int (nth x 4).bool (nth x 5).bool (nth x 6).list (nth x 7).list (nth x 8).list (nth x 9).list (nth x 10).int) && decide (endAt ME ME.length ≤ s)) := by
    unfold qd_k7_1 qd_u7_3_9 qd_u7_3_1
    rw [he]
    generalize (allI (memP ME) ME.length && ME.all fun x => okV (nth x 2).int (nth x 3).int (nth x 4).bool (nth x 5).bool (nth x 6).list (nth x 7).list (nth x 8).list (nth x 9).list (nth x 10).int) = q
    cases q <;> rfl
  rw [hv]
  simp only [bif_nf, bif_tf, bif_ft, Bool.not_not, Bool.and_assoc]
def qcs_t (k s : Int) (sg bg : Bool) (NA NU ME BA : LL) (ct : Int) : Tr (Bool) := (.ite ((!(s == (0 : Int))) = true) (.ok false)
  (.ite ((!(qcg_v k s sg bg NA NU ME BA ct)) = true) (.ok false)
   (.ite ((decide ((NA.length : Int) > (0 : Int))) = true) (.ok false)
    (.ite ((decide ((NU.length : Int) > (0 : Int))) = true) (.ok false)
     (.ite ((decide ((ME.length : Int) > (0 : Int))) = true) (.ok false)
      (.ite ((!((BA.length : Int) == (1 : Int))) = true) (.ok false)
       (.ite ((qdf_v ct (1 : Int) (4 : Int)) = true) (.ite ((0 : Int) ≤ (0 : Int) ∧ (0 : Int) < (BA.length : Int)) (.ite ((qbs_rc ((nth (row BA (0 : Int)) 0).int) ((nth (row BA (0 : Int)) 1).int) ((nth (row BA (0 : Int)) 2).bool) ((nth (row BA (0 : Int)) 3).bool) ((nth (row BA (0 : Int)) 4).list) ((nth (row BA (0 : Int)) 5).list) ((nth (row BA (0 : Int)) 6).list) ((nth (row BA (0 : Int)) 7).list) ((nth (row BA (0 : Int)) 8).int)) = true) (.ok (qbs_rv ((nth (row BA (0 : Int)) 0).int) ((nth (row BA (0 : Int)) 1).int) ((nth (row BA (0 : Int)) 2).bool) ((nth (row BA (0 : Int)) 3).bool) ((nth (row BA (0 : Int)) 4).list) ((nth (row BA (0 : Int)) 5).list) ((nth (row BA (0 : Int)) 6).list) ((nth (row BA (0 : Int)) 7).list) ((nth (row BA (0 : Int)) 8).int)))
          .no)
         .no)
        (.ok false))))))))
def qcs_mk (p : Bool) : Res := [(false, [⟨.bool, .sh, TC.b p⟩])]
def qcs_c (k s : Int) (sg bg : Bool) (NA NU ME BA : LL) (ct : Int) : Bool := (bif (!(s == (0 : Int))) then true else (bif (!(qcg_v k s sg bg NA NU ME BA ct)) then true else (bif (decide ((NA.length : Int) > (0 : Int))) then true else (bif (decide ((NU.length : Int) > (0 : Int))) then true else (bif (decide ((ME.length : Int) > (0 : Int))) then true else (bif (!((BA.length : Int) == (1 : Int))) then true else (bif (qdf_v ct (1 : Int) (4 : Int)) then (is ((0 : Int) ≤ (0 : Int) ∧ (0 : Int) < (BA.length : Int)) && ((qbs_rc ((nth (row BA (0 : Int)) 0).int) ((nth (row BA (0 : Int)) 1).int) ((nth (row BA (0 : Int)) 2).bool) ((nth (row BA (0 : Int)) 3).bool) ((nth (row BA (0 : Int)) 4).list) ((nth (row BA (0 : Int)) 5).list) ((nth (row BA (0 : Int)) 6).list) ((nth (row BA (0 : Int)) 7).list) ((nth (row BA (0 : Int)) 8).int)) && true)) else true)))))))
def qcs_v (k s : Int) (sg bg : Bool) (NA NU ME BA : LL) (ct : Int) : Bool := (bif (!(s == (0 : Int))) then false else (bif (!(qcg_v k s sg bg NA NU ME BA ct)) then false else (bif (decide ((NA.length : Int) > (0 : Int))) then false else (bif (decide ((NU.length : Int) > (0 : Int))) then false else (bif (decide ((ME.length : Int) > (0 : Int))) then false else (bif (!((BA.length : Int) == (1 : Int))) then false else (bif (qdf_v ct (1 : Int) (4 : Int)) then (qbs_rv ((nth (row BA (0 : Int)) 0).int) ((nth (row BA (0 : Int)) 1).int) ((nth (row BA (0 : Int)) 2).bool) ((nth (row BA (0 : Int)) 3).bool) ((nth (row BA (0 : Int)) 4).list) ((nth (row BA (0 : Int)) 5).list) ((nth (row BA (0 : Int)) 6).list) ((nth (row BA (0 : Int)) 7).list) ((nth (row BA (0 : Int)) 8).int)) else false)))))))
theorem qcs_l (k s : Int) (sg bg : Bool) (NA NU ME BA : LL) (ct : Int) : (qcs_c k s sg bg NA NU ME BA ct) = true → (qcs_t k s sg bg NA NU ME BA ct).val = some (qcs_v k s sg bg NA NU ME BA ct) := by
  unfold qcs_t qcs_v qcs_c
  exact fun h => (Tr.ss h (fun h => rfl) (fun h => (Tr.ss h (fun h => rfl) (fun h => (Tr.ss h (fun h => rfl) (fun h => (Tr.ss h (fun h => rfl) (fun h => (Tr.ss h (fun h => rfl) (fun h => (Tr.ss h (fun h => rfl) (fun h => (Tr.ss h (fun h => (Tr.gs h fun h => (Tr.gb h fun h => rfl))) (fun h => rfl))))))))))))))
def qcs_S : List Arg → Option (Bool × Res) := fun xs => match xs with
  | [(true, [(.int .i64, TC.i k), (.int .i64, TC.i s), (.bool, TC.b sg), (.bool, TC.b bg), (.slice 9, TC.l NA), (.slice 2, TC.l NU), (.slice 71, TC.l ME), (.slice 32, TC.l BA), (.int .i64, TC.i ct)])] => some ((qcs_c k s sg bg NA NU ME BA ct), qcs_mk (qcs_v k s sg bg NA NU ME BA ct))
  | _ => .none
theorem qcs_e (k s : Int) (sg bg : Bool) (NA NU ME BA : LL) (ct : Int) : runF tab FT D25 live 67 noLoops [(true, [(.int .i64, TC.i k), (.int .i64, TC.i s), (.bool, TC.b sg), (.bool, TC.b bg), (.slice 9, TC.l NA), (.slice 2, TC.l NU), (.slice 71, TC.l ME), (.slice 32, TC.l BA), (.int .i64, TC.i ct)])] = (qcs_t k s sg bg NA NU ME BA ct).run fun p => some (qcs_mk p) := by kernel_rfl
theorem qcs_s : ∀ xs r, qcs_S xs = some (true, r) → runF tab FT D25 live 67 noLoops xs = some r := by
  intro xs r h
  unfold qcs_S at h
  split at h
  · obtain ⟨h1, rfl⟩ := sp h
    exact fun_told (qcs_e ..) (qcs_l _ _ _ _ _ _ _ _ _) h1
  · cases h
def D26 : Dt := also D25 67 qcs_S
theorem d26 : DOk Go.Proofs.Try.prog tab D26 := d25.also mixed_ok tab_ok names_ok noLoops_ok qcs_s
theorem qcs_cc {k : Int} {s : Int} {sg : Bool} {bg : Bool} {NA : LL} {NU : LL} {ME : LL} {BA : LL} {ct : Int} (hr : 0 < BA.length → qbs_rc (nth (row BA (0 : Int)) 0).int (nth (row BA (0 : Int)) 1).int (nth (row BA (0 : Int)) 2).bool (nth (row BA (0 : Int)) 3).bool (nth (row BA (0 : Int)) 4).list (nth (row BA (0 : Int)) 5).list (nth (row BA (0 : Int)) 6).list (nth (row BA (0 : Int)) 7).list (nth (row BA (0 : Int)) 8).int = true) : (qcs_c k s sg bg NA NU ME BA ct) = true := by
  unfold qcs_c
  refine bifT (fun b1 => ?_) (fun b1 => ?_)
  · skip
    rfl
  · skip
    refine bifT (fun b2 => ?_) (fun b2 => ?_)
    · skip
      rfl
    · skip
      refine bifT (fun b3 => ?_) (fun b3 => ?_)
      · skip
        rfl
      · skip
        refine bifT (fun b4 => ?_) (fun b4 => ?_)
        · skip
          rfl
        · skip
          refine bifT (fun b5 => ?_) (fun b5 => ?_)
          · skip
            rfl
          · skip
            refine bifT (fun b6 => ?_) (fun b6 => ?_)
            · skip
              rfl
            · skip
              refine bifT (fun b7 => ?_) (fun b7 => ?_)
              · skip
                refine andT (is_true (by have e6 := bneF b6; omega)) ?_
                refine andT (by have e6 := bneF b6; exact hr (by omega)) ?_
                rfl
              · skip
                rfl
theorem qcs_vv (k s : Int) (sg bg : Bool) (NA NU ME BA : LL) (ct : Int) : qcs_v k s sg bg NA NU ME BA ct = (arrS s sg bg NA NU ME BA ct && (if h : 0 < BA.length then okV (nth (row BA (0 : Int)) 0).int (nth (row BA (0 : Int)) 1).int (nth (row BA (0 : Int)) 2).bool (nth (row BA (0 : Int)) 3).bool (nth (row BA (0 : Int)) 4).list (nth (row BA (0 : Int)) 5).list (nth (row BA (0 : Int)) 6).list (nth (row BA (0 : Int)) 7).list (nth (row BA (0 : Int)) 8).int else false)) := by
  unfold qcs_v arrS
  rw [show qcg_v k s sg bg NA NU ME BA ct = plain sg bg from by unfold qcg_v plain; cases sg <;> cases bg <;> rfl, show qdf_v ct 1 4 = inB ct 1 4 from rfl, show qbs_rv (nth (row BA (0 : Int)) 0).int (nth (row BA (0 : Int)) 1).int (nth (row BA (0 : Int)) 2).bool (nth (row BA (0 : Int)) 3).bool (nth (row BA (0 : Int)) 4).list (nth (row BA (0 : Int)) 5).list (nth (row BA (0 : Int)) 6).list (nth (row BA (0 : Int)) 7).list (nth (row BA (0 : Int)) 8).int = okV (nth (row BA (0 : Int)) 0).int (nth (row BA (0 : Int)) 1).int (nth (row BA (0 : Int)) 2).bool (nth (row BA (0 : Int)) 3).bool (nth (row BA (0 : Int)) 4).list (nth (row BA (0 : Int)) 5).list (nth (row BA (0 : Int)) 6).list (nth (row BA (0 : Int)) 7).list (nth (row BA (0 : Int)) 8).int from rfl]
  simp only [bif_nf, bif_tf, bif_ft, Bool.not_not, Bool.and_assoc]
  cases hb : ((BA.length : Int) == 1) with
  | true => rw [dif_pos (by have := beq_iff_eq.1 hb; omega)]
  | false => simp only [Bool.false_and, Bool.and_false]
def qbs_t (k s : Int) (sg bg : Bool) (NA NU ME BA : LL) (ct : Int) : Tr (Bool) := (.ite ((k == (1 : Int)) = true) (.ite ((k == (2 : Int)) = true) (.ite ((qdh_v k s sg bg NA NU ME BA ct) = true) (.ite ((qcg_v k s sg bg NA NU ME BA ct) = true) (.ite (((NA.length : Int) == (0 : Int)) = true) (.ite (((NU.length : Int) == (0 : Int)) = true) (.ite (((ME.length : Int) == (0 : Int)) = true) (.ite (((BA.length : Int) == (0 : Int)) = true) (.ite ((ct == (0 : Int)) = true) (.ite ((qu_rc k s sg bg NA NU ME BA ct) = true) (.ite ((decide ((qu_rv k s sg bg NA NU ME BA ct) ≤ (24 : Int))) = true) (.ite ((qh_rc k s sg bg NA NU ME BA ct) = true) (.ok (decide ((qh_rv k s sg bg NA NU ME BA ct) ≤ (3 : Int))))
             .no)
            (.ok false))
           .no)
          (.ok false))
         (.ok false))
        (.ok false))
       (.ok false))
      (.ok false))
     (.ok false))
    (.ok false))
   (.ite ((k == (6 : Int)) = true) (.ite ((qdh_v k s sg bg NA NU ME BA ct) = true) (.ite ((qcg_v k s sg bg NA NU ME BA ct) = true) (.ite (((NA.length : Int) == (0 : Int)) = true) (.ite (((NU.length : Int) == (0 : Int)) = true) (.ite (((ME.length : Int) == (0 : Int)) = true) (.ite (((BA.length : Int) == (0 : Int)) = true) (.ite ((ct == (0 : Int)) = true) (.ite ((qu_rc k s sg bg NA NU ME BA ct) = true) (.ite ((decide ((qu_rv k s sg bg NA NU ME BA ct) ≤ (24 : Int))) = true) (.ite ((qh_rc k s sg bg NA NU ME BA ct) = true) (.ok (decide ((qh_rv k s sg bg NA NU ME BA ct) ≤ (3 : Int))))
              .no)
             (.ok false))
            .no)
           (.ok false))
          (.ok false))
         (.ok false))
        (.ok false))
       (.ok false))
      (.ok false))
     (.ok false))
    (.ite ((qdh_v k s sg bg NA NU ME BA ct) = true) (.ite ((qu_rc k s sg bg NA NU ME BA ct) = true) (.ite ((decide ((qu_rv k s sg bg NA NU ME BA ct) ≤ (24 : Int))) = true) (.ite ((qh_rc k s sg bg NA NU ME BA ct) = true) (.ok (decide ((qh_rv k s sg bg NA NU ME BA ct) ≤ (3 : Int))))
        .no)
       (.ok false))
      .no)
     (.ok false))))
  (.ite ((k == (2 : Int)) = true) (.ite ((k == (2 : Int)) = true) (.ite ((qdf_v s (1 : Int) (16 : Int)) = true) (.ite ((qcg_v k s sg bg NA NU ME BA ct) = true) (.ite (((NA.length : Int) == (0 : Int)) = true) (.ite (((NU.length : Int) == (0 : Int)) = true) (.ite (((ME.length : Int) == (0 : Int)) = true) (.ite (((BA.length : Int) == (0 : Int)) = true) (.ite ((ct == (0 : Int)) = true) (.ite ((qu_rc k s sg bg NA NU ME BA ct) = true) (.ite ((decide ((qu_rv k s sg bg NA NU ME BA ct) ≤ (24 : Int))) = true) (.ite ((qh_rc k s sg bg NA NU ME BA ct) = true) (.ok (decide ((qh_rv k s sg bg NA NU ME BA ct) ≤ (3 : Int))))
              .no)
             (.ok false))
            .no)
           (.ok false))
          (.ok false))
         (.ok false))
        (.ok false))
       (.ok false))
      (.ok false))
     (.ok false))
    (.ite ((k == (6 : Int)) = true) (.ite ((qdf_v s (1 : Int) (16 : Int)) = true) (.ite ((qcg_v k s sg bg NA NU ME BA ct) = true) (.ite (((NA.length : Int) == (0 : Int)) = true) (.ite (((NU.length : Int) == (0 : Int)) = true) (.ite (((ME.length : Int) == (0 : Int)) = true) (.ite (((BA.length : Int) == (0 : Int)) = true) (.ite ((ct == (0 : Int)) = true) (.ite ((qu_rc k s sg bg NA NU ME BA ct) = true) (.ite ((decide ((qu_rv k s sg bg NA NU ME BA ct) ≤ (24 : Int))) = true) (.ite ((qh_rc k s sg bg NA NU ME BA ct) = true) (.ok (decide ((qh_rv k s sg bg NA NU ME BA ct) ≤ (3 : Int))))
               .no)
              (.ok false))
             .no)
            (.ok false))
           (.ok false))
          (.ok false))
         (.ok false))
        (.ok false))
       (.ok false))
      (.ok false))
     (.ite ((qdf_v s (1 : Int) (16 : Int)) = true) (.ite ((qu_rc k s sg bg NA NU ME BA ct) = true) (.ite ((decide ((qu_rv k s sg bg NA NU ME BA ct) ≤ (24 : Int))) = true) (.ite ((qh_rc k s sg bg NA NU ME BA ct) = true) (.ok (decide ((qh_rv k s sg bg NA NU ME BA ct) ≤ (3 : Int))))
         .no)
        (.ok false))
       .no)
      (.ok false))))
   (.ite ((k == (3 : Int)) = true) (.ite ((qm_c k s sg bg NA NU ME BA ct) = true) (.ite ((k == (2 : Int)) = true) (.ite ((qm_v k s sg bg NA NU ME BA ct) = true) (.ite ((qcg_v k s sg bg NA NU ME BA ct) = true) (.ite (((NA.length : Int) == (0 : Int)) = true) (.ite (((NU.length : Int) == (0 : Int)) = true) (.ite (((ME.length : Int) == (0 : Int)) = true) (.ite (((BA.length : Int) == (0 : Int)) = true) (.ite ((ct == (0 : Int)) = true) (.ite ((qu_rc k s sg bg NA NU ME BA ct) = true) (.ite ((decide ((qu_rv k s sg bg NA NU ME BA ct) ≤ (24 : Int))) = true) (.ite ((qh_rc k s sg bg NA NU ME BA ct) = true) (.ok (decide ((qh_rv k s sg bg NA NU ME BA ct) ≤ (3 : Int))))
                .no)
               (.ok false))
              .no)
             (.ok false))
            (.ok false))
           (.ok false))
          (.ok false))
         (.ok false))
        (.ok false))
       (.ok false))
      (.ite ((k == (6 : Int)) = true) (.ite ((qm_v k s sg bg NA NU ME BA ct) = true) (.ite ((qcg_v k s sg bg NA NU ME BA ct) = true) (.ite (((NA.length : Int) == (0 : Int)) = true) (.ite (((NU.length : Int) == (0 : Int)) = true) (.ite (((ME.length : Int) == (0 : Int)) = true) (.ite (((BA.length : Int) == (0 : Int)) = true) (.ite ((ct == (0 : Int)) = true) (.ite ((qu_rc k s sg bg NA NU ME BA ct) = true) (.ite ((decide ((qu_rv k s sg bg NA NU ME BA ct) ≤ (24 : Int))) = true) (.ite ((qh_rc k s sg bg NA NU ME BA ct) = true) (.ok (decide ((qh_rv k s sg bg NA NU ME BA ct) ≤ (3 : Int))))
                 .no)
                (.ok false))
               .no)
              (.ok false))
             (.ok false))
            (.ok false))
           (.ok false))
          (.ok false))
         (.ok false))
        (.ok false))
       (.ite ((qm_v k s sg bg NA NU ME BA ct) = true) (.ite ((qu_rc k s sg bg NA NU ME BA ct) = true) (.ite ((decide ((qu_rv k s sg bg NA NU ME BA ct) ≤ (24 : Int))) = true) (.ite ((qh_rc k s sg bg NA NU ME BA ct) = true) (.ok (decide ((qh_rv k s sg bg NA NU ME BA ct) ≤ (3 : Int))))
           .no)
          (.ok false))
         .no)
        (.ok false))))
     .no)
    (.ite ((k == (4 : Int)) = true) (.ite ((qd_c k s sg bg NA NU ME BA ct) = true) (.ite ((k == (2 : Int)) = true) (.ite ((qd_v k s sg bg NA NU ME BA ct) = true) (.ite ((qcg_v k s sg bg NA NU ME BA ct) = true) (.ite (((NA.length : Int) == (0 : Int)) = true) (.ite (((NU.length : Int) == (0 : Int)) = true) (.ite (((ME.length : Int) == (0 : Int)) = true) (.ite (((BA.length : Int) == (0 : Int)) = true) (.ite ((ct == (0 : Int)) = true) (.ite ((qu_rc k s sg bg NA NU ME BA ct) = true) (.ite ((decide ((qu_rv k s sg bg NA NU ME BA ct) ≤ (24 : Int))) = true) (.ite ((qh_rc k s sg bg NA NU ME BA ct) = true) (.ok (decide ((qh_rv k s sg bg NA NU ME BA ct) ≤ (3 : Int))))
                 .no)
                (.ok false))
               .no)
              (.ok false))
             (.ok false))
            (.ok false))
           (.ok false))
          (.ok false))
         (.ok false))
        (.ok false))
       (.ite ((k == (6 : Int)) = true) (.ite ((qd_v k s sg bg NA NU ME BA ct) = true) (.ite ((qcg_v k s sg bg NA NU ME BA ct) = true) (.ite (((NA.length : Int) == (0 : Int)) = true) (.ite (((NU.length : Int) == (0 : Int)) = true) (.ite (((ME.length : Int) == (0 : Int)) = true) (.ite (((BA.length : Int) == (0 : Int)) = true) (.ite ((ct == (0 : Int)) = true) (.ite ((qu_rc k s sg bg NA NU ME BA ct) = true) (.ite ((decide ((qu_rv k s sg bg NA NU ME BA ct) ≤ (24 : Int))) = true) (.ite ((qh_rc k s sg bg NA NU ME BA ct) = true) (.ok (decide ((qh_rv k s sg bg NA NU ME BA ct) ≤ (3 : Int))))
                  .no)
                 (.ok false))
                .no)
               (.ok false))
              (.ok false))
             (.ok false))
            (.ok false))
           (.ok false))
          (.ok false))
         (.ok false))
        (.ite ((qd_v k s sg bg NA NU ME BA ct) = true) (.ite ((qu_rc k s sg bg NA NU ME BA ct) = true) (.ite ((decide ((qu_rv k s sg bg NA NU ME BA ct) ≤ (24 : Int))) = true) (.ite ((qh_rc k s sg bg NA NU ME BA ct) = true) (.ok (decide ((qh_rv k s sg bg NA NU ME BA ct) ≤ (3 : Int))))
            .no)
           (.ok false))
          .no)
         (.ok false))))
      .no)
     (.ite ((k == (5 : Int)) = true) (.ite ((qcs_c k s sg bg NA NU ME BA ct) = true) (.ite ((k == (2 : Int)) = true) (.ite ((qcs_v k s sg bg NA NU ME BA ct) = true) (.ite ((qcg_v k s sg bg NA NU ME BA ct) = true) (.ite (((NA.length : Int) == (0 : Int)) = true) (.ite (((NU.length : Int) == (0 : Int)) = true) (.ite (((ME.length : Int) == (0 : Int)) = true) (.ite (((BA.length : Int) == (0 : Int)) = true) (.ite ((ct == (0 : Int)) = true) (.ite ((qu_rc k s sg bg NA NU ME BA ct) = true) (.ite ((decide ((qu_rv k s sg bg NA NU ME BA ct) ≤ (24 : Int))) = true) (.ite ((qh_rc k s sg bg NA NU ME BA ct) = true) (.ok (decide ((qh_rv k s sg bg NA NU ME BA ct) ≤ (3 : Int))))
                  .no)
                 (.ok false))
                .no)
               (.ok false))
              (.ok false))
             (.ok false))
            (.ok false))
           (.ok false))
          (.ok false))
         (.ok false))
        (.ite ((k == (6 : Int)) = true) (.ite ((qcs_v k s sg bg NA NU ME BA ct) = true) (.ite ((qcg_v k s sg bg NA NU ME BA ct) = true) (.ite (((NA.length : Int) == (0 : Int)) = true) (.ite (((NU.length : Int) == (0 : Int)) = true) (.ite (((ME.length : Int) == (0 : Int)) = true) (.ite (((BA.length : Int) == (0 : Int)) = true) (.ite ((ct == (0 : Int)) = true) (.ite ((qu_rc k s sg bg NA NU ME BA ct) = true) (.ite ((decide ((qu_rv k s sg bg NA NU ME BA ct) ≤ (24 : Int))) = true) (.ite ((qh_rc k s sg bg NA NU ME BA ct) = true) (.ok (decide ((qh_rv k s sg bg NA NU ME BA ct) ≤ (3 : Int))))
                   .no)
                  (.ok false))
                 .no)
                (.ok false))
               (.ok false))
              (.ok false))
             (.ok false))
            (.ok false))
           (.ok false))
          (.ok false))
         (.ite ((qcs_v k s sg bg NA NU ME BA ct) = true) (.ite ((qu_rc k s sg bg NA NU ME BA ct) = true) (.ite ((decide ((qu_rv k s sg bg NA NU ME BA ct) ≤ (24 : Int))) = true) (.ite ((qh_rc k s sg bg NA NU ME BA ct) = true) (.ok (decide ((qh_rv k s sg bg NA NU ME BA ct) ≤ (3 : Int))))
             .no)
            (.ok false))
           .no)
          (.ok false))))
       .no)
      (.ite ((k == (6 : Int)) = true) (.ite ((k == (2 : Int)) = true) (.ite ((s == (2 : Int)) = true) (.ite ((qcg_v k s sg bg NA NU ME BA ct) = true) (.ite (((NA.length : Int) == (0 : Int)) = true) (.ite (((NU.length : Int) == (0 : Int)) = true) (.ite (((ME.length : Int) == (0 : Int)) = true) (.ite (((BA.length : Int) == (0 : Int)) = true) (.ite ((ct == (0 : Int)) = true) (.ite ((qu_rc k s sg bg NA NU ME BA ct) = true) (.ite ((decide ((qu_rv k s sg bg NA NU ME BA ct) ≤ (24 : Int))) = true) (.ite ((qh_rc k s sg bg NA NU ME BA ct) = true) (.ok (decide ((qh_rv k s sg bg NA NU ME BA ct) ≤ (3 : Int))))
                  .no)
                 (.ok false))
                .no)
               (.ok false))
              (.ok false))
             (.ok false))
            (.ok false))
           (.ok false))
          (.ok false))
         (.ok false))
        (.ite ((k == (6 : Int)) = true) (.ite ((s == (2 : Int)) = true) (.ite ((qcg_v k s sg bg NA NU ME BA ct) = true) (.ite (((NA.length : Int) == (0 : Int)) = true) (.ite (((NU.length : Int) == (0 : Int)) = true) (.ite (((ME.length : Int) == (0 : Int)) = true) (.ite (((BA.length : Int) == (0 : Int)) = true) (.ite ((ct == (0 : Int)) = true) (.ite ((qu_rc k s sg bg NA NU ME BA ct) = true) (.ite ((decide ((qu_rv k s sg bg NA NU ME BA ct) ≤ (24 : Int))) = true) (.ite ((qh_rc k s sg bg NA NU ME BA ct) = true) (.ok (decide ((qh_rv k s sg bg NA NU ME BA ct) ≤ (3 : Int))))
                   .no)
                  (.ok false))
                 .no)
                (.ok false))
               (.ok false))
              (.ok false))
             (.ok false))
            (.ok false))
           (.ok false))
          (.ok false))
         (.ite ((s == (2 : Int)) = true) (.ite ((qu_rc k s sg bg NA NU ME BA ct) = true) (.ite ((decide ((qu_rv k s sg bg NA NU ME BA ct) ≤ (24 : Int))) = true) (.ite ((qh_rc k s sg bg NA NU ME BA ct) = true) (.ok (decide ((qh_rv k s sg bg NA NU ME BA ct) ≤ (3 : Int))))
             .no)
            (.ok false))
           .no)
          (.ok false))))
       (.ite ((k == (2 : Int)) = true) (.ok false)
        (.ite ((k == (6 : Int)) = true) (.ok false)
         (.ok false)))))))))
def qbs_mk (p : Bool) : Res := [(false, [⟨.bool, .sh, TC.b p⟩])]
def qbs_c (k s : Int) (sg bg : Bool) (NA NU ME BA : LL) (ct : Int) : Bool := (bif (k == (1 : Int)) then (bif (k == (2 : Int)) then (bif (qdh_v k s sg bg NA NU ME BA ct) then (bif (qcg_v k s sg bg NA NU ME BA ct) then (bif ((NA.length : Int) == (0 : Int)) then (bif ((NU.length : Int) == (0 : Int)) then (bif ((ME.length : Int) == (0 : Int)) then (bif ((BA.length : Int) == (0 : Int)) then (bif (ct == (0 : Int)) then ((qu_rc k s sg bg NA NU ME BA ct) && (bif (decide ((qu_rv k s sg bg NA NU ME BA ct) ≤ (24 : Int))) then ((qh_rc k s sg bg NA NU ME BA ct) && true) else true)) else true) else true) else true) else true) else true) else true) else true) else (bif (k == (6 : Int)) then (bif (qdh_v k s sg bg NA NU ME BA ct) then (bif (qcg_v k s sg bg NA NU ME BA ct) then (bif ((NA.length : Int) == (0 : Int)) then (bif ((NU.length : Int) == (0 : Int)) then (bif ((ME.length : Int) == (0 : Int)) then (bif ((BA.length : Int) == (0 : Int)) then (bif (ct == (0 : Int)) then ((qu_rc k s sg bg NA NU ME BA ct) && (bif (decide ((qu_rv k s sg bg NA NU ME BA ct) ≤ (24 : Int))) then ((qh_rc k s sg bg NA NU ME BA ct) && true) else true)) else true) else true) else true) else true) else true) else true) else true) else (bif (qdh_v k s sg bg NA NU ME BA ct) then ((qu_rc k s sg bg NA NU ME BA ct) && (bif (decide ((qu_rv k s sg bg NA NU ME BA ct) ≤ (24 : Int))) then ((qh_rc k s sg bg NA NU ME BA ct) && true) else true)) else true))) else (bif (k == (2 : Int)) then (bif (k == (2 : Int)) then (bif (qdf_v s (1 : Int) (16 : Int)) then (bif (qcg_v k s sg bg NA NU ME BA ct) then (bif ((NA.length : Int) == (0 : Int)) then (bif ((NU.length : Int) == (0 : Int)) then (bif ((ME.length : Int) == (0 : Int)) then (bif ((BA.length : Int) == (0 : Int)) then (bif (ct == (0 : Int)) then ((qu_rc k s sg bg NA NU ME BA ct) && (bif (decide ((qu_rv k s sg bg NA NU ME BA ct) ≤ (24 : Int))) then ((qh_rc k s sg bg NA NU ME BA ct) && true) else true)) else true) else true) else true) else true) else true) else true) else true) else (bif (k == (6 : Int)) then (bif (qdf_v s (1 : Int) (16 : Int)) then (bif (qcg_v k s sg bg NA NU ME BA ct) then (bif ((NA.length : Int) == (0 : Int)) then (bif ((NU.length : Int) == (0 : Int)) then (bif ((ME.length : Int) == (0 : Int)) then (bif ((BA.length : Int) == (0 : Int)) then (bif (ct == (0 : Int)) then ((qu_rc k s sg bg NA NU ME BA ct) && (bif (decide ((qu_rv k s sg bg NA NU ME BA ct) ≤ (24 : Int))) then ((qh_rc k s sg bg NA NU ME BA ct) && true) else true)) else true) else true) else true) else true) else true) else true) else true) else (bif (qdf_v s (1 : Int) (16 : Int)) then ((qu_rc k s sg bg NA NU ME BA ct) && (bif (decide ((qu_rv k s sg bg NA NU ME BA ct) ≤ (24 : Int))) then ((qh_rc k s sg bg NA NU ME BA ct) && true) else true)) else true))) else (bif (k == (3 : Int)) then ((qm_c k s sg bg NA NU ME BA ct) && (bif (k == (2 : Int)) then (bif (qm_v k s sg bg NA NU ME BA ct) then (bif (qcg_v k s sg bg NA NU ME BA ct) then (bif ((NA.length : Int) == (0 : Int)) then (bif ((NU.length : Int) == (0 : Int)) then (bif ((ME.length : Int) == (0 : Int)) then (bif ((BA.length : Int) == (0 : Int)) then (bif (ct == (0 : Int)) then ((qu_rc k s sg bg NA NU ME BA ct) && (bif (decide ((qu_rv k s sg bg NA NU ME BA ct) ≤ (24 : Int))) then ((qh_rc k s sg bg NA NU ME BA ct) && true) else true)) else true) else true) else true) else true) else true) else true) else true) else (bif (k == (6 : Int)) then (bif (qm_v k s sg bg NA NU ME BA ct) then (bif (qcg_v k s sg bg NA NU ME BA ct) then (bif ((NA.length : Int) == (0 : Int)) then (bif ((NU.length : Int) == (0 : Int)) then (bif ((ME.length : Int) == (0 : Int)) then (bif ((BA.length : Int) == (0 : Int)) then (bif (ct == (0 : Int)) then ((qu_rc k s sg bg NA NU ME BA ct) && (bif (decide ((qu_rv k s sg bg NA NU ME BA ct) ≤ (24 : Int))) then ((qh_rc k s sg bg NA NU ME BA ct) && true) else true)) else true) else true) else true) else true) else true) else true) else true) else (bif (qm_v k s sg bg NA NU ME BA ct) then ((qu_rc k s sg bg NA NU ME BA ct) && (bif (decide ((qu_rv k s sg bg NA NU ME BA ct) ≤ (24 : Int))) then ((qh_rc k s sg bg NA NU ME BA ct) && true) else true)) else true)))) else (bif (k == (4 : Int)) then ((qd_c k s sg bg NA NU ME BA ct) && (bif (k == (2 : Int)) then (bif (qd_v k s sg bg NA NU ME BA ct) then (bif (qcg_v k s sg bg NA NU ME BA ct) then (bif ((NA.length : Int) == (0 : Int)) then (bif ((NU.length : Int) == (0 : Int)) then (bif ((ME.length : Int) == (0 : Int)) then (bif ((BA.length : Int) == (0 : Int)) then (bif (ct == (0 : Int)) then ((qu_rc k s sg bg NA NU ME BA ct) && (bif (decide ((qu_rv k s sg bg NA NU ME BA ct) ≤ (24 : Int))) then ((qh_rc k s sg bg NA NU ME BA ct) && true) else true)) else true) else true) else true) else true) else true) else true) else true) else (bif (k == (6 : Int)) then (bif (qd_v k s sg bg NA NU ME BA ct) then (bif (qcg_v k s sg bg NA NU ME BA ct) then (bif ((NA.length : Int) == (0 : Int)) then (bif ((NU.length : Int) == (0 : Int)) then (bif ((ME.length : Int) == (0 : Int)) then (bif ((BA.length : Int) == (0 : Int)) then (bif (ct == (0 : Int)) then ((qu_rc k s sg bg NA NU ME BA ct) && (bif (decide ((qu_rv k s sg bg NA NU ME BA ct) ≤ (24 : Int))) then ((qh_rc k s sg bg NA NU ME BA ct) && true) else true)) else true) else true) else true) else true) else true) else true) else true) else (bif (qd_v k s sg bg NA NU ME BA ct) then ((qu_rc k s sg bg NA NU ME BA ct) && (bif (decide ((qu_rv k s sg bg NA NU ME BA ct) ≤ (24 : Int))) then ((qh_rc k s sg bg NA NU ME BA ct) && true) else true)) else true)))) else (bif (k == (5 : Int)) then ((qcs_c k s sg bg NA NU ME BA ct) && (bif (k == (2 : Int)) then (bif (qcs_v k s sg bg NA NU ME BA ct) then (bif (qcg_v k s sg bg NA NU ME BA ct) then (bif ((NA.length : Int) == (0 : Int)) then (bif ((NU.length : Int) == (0 : Int)) then (bif ((ME.length : Int) == (0 : Int)) then (bif ((BA.length : Int) == (0 : Int)) then (bif (ct == (0 : Int)) then ((qu_rc k s sg bg NA NU ME BA ct) && (bif (decide ((qu_rv k s sg bg NA NU ME BA ct) ≤ (24 : Int))) then ((qh_rc k s sg bg NA NU ME BA ct) && true) else true)) else true) else true) else true) else true) else true) else true) else true) else (bif (k == (6 : Int)) then (bif (qcs_v k s sg bg NA NU ME BA ct) then (bif (qcg_v k s sg bg NA NU ME BA ct) then (bif ((NA.length : Int) == (0 : Int)) then (bif ((NU.length : Int) == (0 : Int)) then (bif ((ME.length : Int) == (0 : Int)) then (bif ((BA.length : Int) == (0 : Int)) then (bif (ct == (0 : Int)) then ((qu_rc k s sg bg NA NU ME BA ct) && (bif (decide ((qu_rv k s sg bg NA NU ME BA ct) ≤ (24 : Int))) then ((qh_rc k s sg bg NA NU ME BA ct) && true) else true)) else true) else true) else true) else true) else true) else true) else true) else (bif (qcs_v k s sg bg NA NU ME BA ct) then ((qu_rc k s sg bg NA NU ME BA ct) && (bif (decide ((qu_rv k s sg bg NA NU ME BA ct) ≤ (24 : Int))) then ((qh_rc k s sg bg NA NU ME BA ct) && true) else true)) else true)))) else (bif (k == (6 : Int)) then (bif (k == (2 : Int)) then (bif (s == (2 : Int)) then (bif (qcg_v k s sg bg NA NU ME BA ct) then (bif ((NA.length : Int) == (0 : Int)) then (bif ((NU.length : Int) == (0 : Int)) then (bif ((ME.length : Int) == (0 : Int)) then (bif ((BA.length : Int) == (0 : Int)) then (bif (ct == (0 : Int)) then ((qu_rc k s sg bg NA NU ME BA ct) && (bif (decide ((qu_rv k s sg bg NA NU ME BA ct) ≤ (24 : Int))) then ((qh_rc k s sg bg NA NU ME BA ct) && true) else true)) else true) else true) else true) else true) else true) else true) else true) else (bif (k == (6 : Int)) then (bif (s == (2 : Int)) then (bif (qcg_v k s sg bg NA NU ME BA ct) then (bif ((NA.length : Int) == (0 : Int)) then (bif ((NU.length : Int) == (0 : Int)) then (bif ((ME.length : Int) == (0 : Int)) then (bif ((BA.length : Int) == (0 : Int)) then (bif (ct == (0 : Int)) then ((qu_rc k s sg bg NA NU ME BA ct) && (bif (decide ((qu_rv k s sg bg NA NU ME BA ct) ≤ (24 : Int))) then ((qh_rc k s sg bg NA NU ME BA ct) && true) else true)) else true) else true) else true) else true) else true) else true) else true) else (bif (s == (2 : Int)) then ((qu_rc k s sg bg NA NU ME BA ct) && (bif (decide ((qu_rv k s sg bg NA NU ME BA ct) ≤ (24 : Int))) then ((qh_rc k s sg bg NA NU ME BA ct) && true) else true)) else true))) else (bif (k == (2 : Int)) then true else (bif (k == (6 : Int)) then true else true))))))))
def qbs_v (k s : Int) (sg bg : Bool) (NA NU ME BA : LL) (ct : Int) : Bool := (bif (k == (1 : Int)) then (bif (k == (2 : Int)) then (bif (qdh_v k s sg bg NA NU ME BA ct) then (bif (qcg_v k s sg bg NA NU ME BA ct) then (bif ((NA.length : Int) == (0 : Int)) then (bif ((NU.length : Int) == (0 : Int)) then (bif ((ME.length : Int) == (0 : Int)) then (bif ((BA.length : Int) == (0 : Int)) then (bif (ct == (0 : Int)) then (bif (decide ((qu_rv k s sg bg NA NU ME BA ct) ≤ (24 : Int))) then (decide ((qh_rv k s sg bg NA NU ME BA ct) ≤ (3 : Int))) else false) else false) else false) else false) else false) else false) else false) else false) else (bif (k == (6 : Int)) then (bif (qdh_v k s sg bg NA NU ME BA ct) then (bif (qcg_v k s sg bg NA NU ME BA ct) then (bif ((NA.length : Int) == (0 : Int)) then (bif ((NU.length : Int) == (0 : Int)) then (bif ((ME.length : Int) == (0 : Int)) then (bif ((BA.length : Int) == (0 : Int)) then (bif (ct == (0 : Int)) then (bif (decide ((qu_rv k s sg bg NA NU ME BA ct) ≤ (24 : Int))) then (decide ((qh_rv k s sg bg NA NU ME BA ct) ≤ (3 : Int))) else false) else false) else false) else false) else false) else false) else false) else false) else (bif (qdh_v k s sg bg NA NU ME BA ct) then (bif (decide ((qu_rv k s sg bg NA NU ME BA ct) ≤ (24 : Int))) then (decide ((qh_rv k s sg bg NA NU ME BA ct) ≤ (3 : Int))) else false) else false))) else (bif (k == (2 : Int)) then (bif (k == (2 : Int)) then (bif (qdf_v s (1 : Int) (16 : Int)) then (bif (qcg_v k s sg bg NA NU ME BA ct) then (bif ((NA.length : Int) == (0 : Int)) then (bif ((NU.length : Int) == (0 : Int)) then (bif ((ME.length : Int) == (0 : Int)) then (bif ((BA.length : Int) == (0 : Int)) then (bif (ct == (0 : Int)) then (bif (decide ((qu_rv k s sg bg NA NU ME BA ct) ≤ (24 : Int))) then (decide ((qh_rv k s sg bg NA NU ME BA ct) ≤ (3 : Int))) else false) else false) else false) else false) else false) else false) else false) else false) else (bif (k == (6 : Int)) then (bif (qdf_v s (1 : Int) (16 : Int)) then (bif (qcg_v k s sg bg NA NU ME BA ct) then (bif ((NA.length : Int) == (0 : Int)) then (bif ((NU.length : Int) == (0 : Int)) then (bif ((ME.length : Int) == (0 : Int)) then (bif ((BA.length : Int) == (0 : Int)) then (bif (ct == (0 : Int)) then (bif (decide ((qu_rv k s sg bg NA NU ME BA ct) ≤ (24 : Int))) then (decide ((qh_rv k s sg bg NA NU ME BA ct) ≤ (3 : Int))) else false) else false) else false) else false) else false) else false) else false) else false) else (bif (qdf_v s (1 : Int) (16 : Int)) then (bif (decide ((qu_rv k s sg bg NA NU ME BA ct) ≤ (24 : Int))) then (decide ((qh_rv k s sg bg NA NU ME BA ct) ≤ (3 : Int))) else false) else false))) else (bif (k == (3 : Int)) then (bif (k == (2 : Int)) then (bif (qm_v k s sg bg NA NU ME BA ct) then (bif (qcg_v k s sg bg NA NU ME BA ct) then (bif ((NA.length : Int) == (0 : Int)) then (bif ((NU.length : Int) == (0 : Int)) then (bif ((ME.length : Int) == (0 : Int)) then (bif ((BA.length : Int) == (0 : Int)) then (bif (ct == (0 : Int)) then (bif (decide ((qu_rv k s sg bg NA NU ME BA ct) ≤ (24 : Int))) then (decide ((qh_rv k s sg bg NA NU ME BA ct) ≤ (3 : Int))) else false) else false) else false) else false) else false) else false) else false) else false) else (bif (k == (6 : Int)) then (bif (qm_v k s sg bg NA NU ME BA ct) then (bif (qcg_v k s sg bg NA NU ME BA ct) then (bif ((NA.length : Int) == (0 : Int)) then (bif ((NU.length : Int) == (0 : Int)) then (bif ((ME.length : Int) == (0 : Int)) then (bif ((BA.length : Int) == (0 : Int)) then (bif (ct == (0 : Int)) then (bif (decide ((qu_rv k s sg bg NA NU ME BA ct) ≤ (24 : Int))) then (decide ((qh_rv k s sg bg NA NU ME BA ct) ≤ (3 : Int))) else false) else false) else false) else false) else false) else false) else false) else false) else (bif (qm_v k s sg bg NA NU ME BA ct) then (bif (decide ((qu_rv k s sg bg NA NU ME BA ct) ≤ (24 : Int))) then (decide ((qh_rv k s sg bg NA NU ME BA ct) ≤ (3 : Int))) else false) else false))) else (bif (k == (4 : Int)) then (bif (k == (2 : Int)) then (bif (qd_v k s sg bg NA NU ME BA ct) then (bif (qcg_v k s sg bg NA NU ME BA ct) then (bif ((NA.length : Int) == (0 : Int)) then (bif ((NU.length : Int) == (0 : Int)) then (bif ((ME.length : Int) == (0 : Int)) then (bif ((BA.length : Int) == (0 : Int)) then (bif (ct == (0 : Int)) then (bif (decide ((qu_rv k s sg bg NA NU ME BA ct) ≤ (24 : Int))) then (decide ((qh_rv k s sg bg NA NU ME BA ct) ≤ (3 : Int))) else false) else false) else false) else false) else false) else false) else false) else false) else (bif (k == (6 : Int)) then (bif (qd_v k s sg bg NA NU ME BA ct) then (bif (qcg_v k s sg bg NA NU ME BA ct) then (bif ((NA.length : Int) == (0 : Int)) then (bif ((NU.length : Int) == (0 : Int)) then (bif ((ME.length : Int) == (0 : Int)) then (bif ((BA.length : Int) == (0 : Int)) then (bif (ct == (0 : Int)) then (bif (decide ((qu_rv k s sg bg NA NU ME BA ct) ≤ (24 : Int))) then (decide ((qh_rv k s sg bg NA NU ME BA ct) ≤ (3 : Int))) else false) else false) else false) else false) else false) else false) else false) else false) else (bif (qd_v k s sg bg NA NU ME BA ct) then (bif (decide ((qu_rv k s sg bg NA NU ME BA ct) ≤ (24 : Int))) then (decide ((qh_rv k s sg bg NA NU ME BA ct) ≤ (3 : Int))) else false) else false))) else (bif (k == (5 : Int)) then (bif (k == (2 : Int)) then (bif (qcs_v k s sg bg NA NU ME BA ct) then (bif (qcg_v k s sg bg NA NU ME BA ct) then (bif ((NA.length : Int) == (0 : Int)) then (bif ((NU.length : Int) == (0 : Int)) then (bif ((ME.length : Int) == (0 : Int)) then (bif ((BA.length : Int) == (0 : Int)) then (bif (ct == (0 : Int)) then (bif (decide ((qu_rv k s sg bg NA NU ME BA ct) ≤ (24 : Int))) then (decide ((qh_rv k s sg bg NA NU ME BA ct) ≤ (3 : Int))) else false) else false) else false) else false) else false) else false) else false) else false) else (bif (k == (6 : Int)) then (bif (qcs_v k s sg bg NA NU ME BA ct) then (bif (qcg_v k s sg bg NA NU ME BA ct) then (bif ((NA.length : Int) == (0 : Int)) then (bif ((NU.length : Int) == (0 : Int)) then (bif ((ME.length : Int) == (0 : Int)) then (bif ((BA.length : Int) == (0 : Int)) then (bif (ct == (0 : Int)) then (bif (decide ((qu_rv k s sg bg NA NU ME BA ct) ≤ (24 : Int))) then (decide ((qh_rv k s sg bg NA NU ME BA ct) ≤ (3 : Int))) else false) else false) else false) else false) else false) else false) else false) else false) else (bif (qcs_v k s sg bg NA NU ME BA ct) then (bif (decide ((qu_rv k s sg bg NA NU ME BA ct) ≤ (24 : Int))) then (decide ((qh_rv k s sg bg NA NU ME BA ct) ≤ (3 : Int))) else false) else false))) else (bif (k == (6 : Int)) then (bif (k == (2 : Int)) then (bif (s == (2 : Int)) then (bif (qcg_v k s sg bg NA NU ME BA ct) then (bif ((NA.length : Int) == (0 : Int)) then (bif ((NU.length : Int) == (0 : Int)) then (bif ((ME.length : Int) == (0 : Int)) then (bif ((BA.length : Int) == (0 : Int)) then (bif (ct == (0 : Int)) then (bif (decide ((qu_rv k s sg bg NA NU ME BA ct) ≤ (24 : Int))) then (decide ((qh_rv k s sg bg NA NU ME BA ct) ≤ (3 : Int))) else false) else false) else false) else false) else false) else false) else false) else false) else (bif (k == (6 : Int)) then (bif (s == (2 : Int)) then (bif (qcg_v k s sg bg NA NU ME BA ct) then (bif ((NA.length : Int) == (0 : Int)) then (bif ((NU.length : Int) == (0 : Int)) then (bif ((ME.length : Int) == (0 : Int)) then (bif ((BA.length : Int) == (0 : Int)) then (bif (ct == (0 : Int)) then (bif (decide ((qu_rv k s sg bg NA NU ME BA ct) ≤ (24 : Int))) then (decide ((qh_rv k s sg bg NA NU ME BA ct) ≤ (3 : Int))) else false) else false) else false) else false) else false) else false) else false) else false) else (bif (s == (2 : Int)) then (bif (decide ((qu_rv k s sg bg NA NU ME BA ct) ≤ (24 : Int))) then (decide ((qh_rv k s sg bg NA NU ME BA ct) ≤ (3 : Int))) else false) else false))) else (bif (k == (2 : Int)) then false else (bif (k == (6 : Int)) then false else false))))))))
theorem qbs_l (k s : Int) (sg bg : Bool) (NA NU ME BA : LL) (ct : Int) : (qbs_c k s sg bg NA NU ME BA ct) = true → (qbs_t k s sg bg NA NU ME BA ct).val = some (qbs_v k s sg bg NA NU ME BA ct) := by
  unfold qbs_t qbs_v qbs_c
  intro h
  repeat' first | refine Tr.gb h fun h => ?_ | refine Tr.gs h fun h => ?_ | refine Tr.ss h (fun h => ?_) fun h => ?_ | exact rfl
theorem qbs_e (k s : Int) (sg bg : Bool) (NA NU ME BA : LL) (ct : Int) : runF tab FT D26 live 30 noLoops [(true, [(.int .i64, TC.i k), (.int .i64, TC.i s), (.bool, TC.b sg), (.bool, TC.b bg), (.slice 9, TC.l NA), (.slice 2, TC.l NU), (.slice 71, TC.l ME), (.slice 32, TC.l BA), (.int .i64, TC.i ct)])] = (qbs_t k s sg bg NA NU ME BA ct).run fun p => some (qbs_mk p) := by kernel_rfl
theorem qbs_nx (k s : Int) (sg bg : Bool) (NA NU ME BA : LL) (ct : Int) : is (max (rowsDep ME) (rowsDep BA) < qbs_O.n + 1 ∧ max (rowsDep ME) (rowsDep BA) < qu_O.n ∧ max (rowsDep ME) (rowsDep BA) < qh_O.n ∧ Typed tab (.slice 9) (.l NA) ∧ Typed tab (.slice 2) (.l NU) ∧ Typed tab (.slice 71) (.l ME) ∧ Typed tab (.slice 32) (.l BA)) = true → (qbs_c k s sg bg NA NU ME BA ct) = true ∧ (qbs_v k s sg bg NA NU ME BA ct) = okV k s sg bg NA NU ME BA ct := by
  intro h
  obtain ⟨hM, hZ, hY, t4, t5, t6, t7⟩ := is_iff.1 h
  have hS : sizeC k BA = true → qu_rc k s sg bg NA NU ME BA ct = true := fun c => is_true ⟨by omega, c⟩
  have hD : depthC k ME BA = true → qh_rc k s sg bg NA NU ME BA ct = true := fun c => is_true ⟨by omega, c, t6, t7⟩
  have hmem : ∀ x, x ∈ ME → qbs_rc (nth x 2).int (nth x 3).int (nth x 4).bool (nth x 5).bool (nth x 6).list (nth x 7).list (nth x 8).list (nth x 9).list (nth x 10).int = true := fun x hx => by
    have := dep_max (BA := BA) hx 8 9
    exact is_true ⟨by omega, by omega, by omega, typed_list ((typed_elem t6 hx).2 6 (by decide)), typed_list ((typed_elem t6 hx).2 7 (by decide)), typed_list ((typed_elem t6 hx).2 8 (by decide)), typed_list ((typed_elem t6 hx).2 9 (by decide))⟩
  have hmz : ∀ x, x ∈ ME → (!(qbs_rv (nth x 2).int (nth x 3).int (nth x 4).bool (nth x 5).bool (nth x 6).list (nth x 7).list (nth x 8).list (nth x 9).list (nth x 10).int)) = false → qu_rc (nth x 2).int (nth x 3).int (nth x 4).bool (nth x 5).bool (nth x 6).list (nth x 7).list (nth x 8).list (nth x 9).list (nth x 10).int = true := fun x hx hk => by
    have := dep_max (BA := BA) hx 8 9
    have hk : qbs_rv (nth x 2).int (nth x 3).int (nth x 4).bool (nth x 5).bool (nth x 6).list (nth x 7).list (nth x 8).list (nth x 9).list (nth x 10).int = true := by simpa using hk
    have hk : okV (nth x 2).int (nth x 3).int (nth x 4).bool (nth x 5).bool (nth x 6).list (nth x 7).list (nth x 8).list (nth x 9).list (nth x 10).int = true := hk
    exact is_true ⟨by omega, okV_size hk⟩
  have hbase : 0 < BA.length → qbs_rc (nth (row BA (0 : Int)) 0).int (nth (row BA (0 : Int)) 1).int (nth (row BA (0 : Int)) 2).bool (nth (row BA (0 : Int)) 3).bool (nth (row BA (0 : Int)) 4).list (nth (row BA (0 : Int)) 5).list (nth (row BA (0 : Int)) 6).list (nth (row BA (0 : Int)) 7).list (nth (row BA (0 : Int)) 8).int = true := fun hb => by
    have := dep_base (ME := ME) hb 6 7
    exact is_true ⟨by omega, by omega, by omega, typed_list ((typed_elem t7 (mem_getD (i := 0) hb)).2 4 (by decide)), typed_list ((typed_elem t7 (mem_getD (i := 0) hb)).2 5 (by decide)), typed_list ((typed_elem t7 (mem_getD (i := 0) hb)).2 6 (by decide)), typed_list ((typed_elem t7 (mem_getD (i := 0) hb)).2 7 (by decide))⟩
  rw [okV, attach_okV]
  unfold qbs_c qbs_v
  rw [qm_cc t4, qd_cc t6 hmem hmz, qcs_cc hbase, qm_vv, qd_vv, qcs_vv, show qcg_v k s sg bg NA NU ME BA ct = plain sg bg from by unfold qcg_v plain; cases sg <;> cases bg <;> rfl, show qdh_v k s sg bg NA NU ME BA ct = intV s sg bg NA NU ME BA ct from rfl, show qdf_v s 1 16 = inB s 1 16 from rfl, show qu_rv k s sg bg NA NU ME BA ct = sizeV k s BA ct from rfl, show qh_rv k s sg bg NA NU ME BA ct = depthV k ME BA from rfl]
  by_cases k1 : k = 1
  · subst k1
    rw [hS (by rw [sizeC]; rfl), hD (by rw [depthC]; rfl)]
    simp only [Int.reduceBEq, cond_true, cond_false, Bool.true_and, Bool.and_true, bif_same, bif_ft, Bool.and_assoc, and_self]
  by_cases k2 : k = 2
  · subst k2
    rw [hS (by rw [sizeC]; rfl), hD (by rw [depthC]; rfl)]
    simp only [Int.reduceBEq, cond_true, cond_false, Bool.true_and, Bool.and_true, bif_same, bif_ft, Bool.and_assoc, and_self, bareV, empt]
  by_cases k6 : k = 6
  · subst k6
    rw [hS (by rw [sizeC]; rfl), hD (by rw [depthC]; rfl)]
    simp only [Int.reduceBEq, cond_true, cond_false, Bool.true_and, Bool.and_true, bif_same, bif_ft, Bool.and_assoc, and_self, bareV, empt]
  by_cases k3 : k = 3
  · subst k3
    rw [hD (by rw [depthC]; rfl)]
    simp only [Int.reduceBEq, cond_true, cond_false, Bool.true_and, Bool.and_true, bif_same, bif_ft, Bool.and_assoc]
    cases hf : enumV s sg bg NA NU ME BA ct with
    | false => exact ⟨rfl, trivial⟩
    | true =>
      have h1 : (BA.length : Int) = 1 := by
        simp only [enumV, Bool.and_eq_true] at hf
        simpa using hf.2.2.2.2.1
      rw [hS (by rw [sizeC]; exact decide_eq_true (by omega))]
      exact ⟨rfl, trivial⟩
  by_cases k4 : k = 4
  · subst k4
    rw [hS (by rw [sizeC]; rfl)]
    simp only [Int.reduceBEq, cond_true, cond_false, Bool.true_and, Bool.and_true, bif_same, bif_ft]
    cases hf : (compS s sg bg NA NU ME BA ct && ((allI (memP ME) ME.length && ME.all fun x => okV (nth x 2).int (nth x 3).int (nth x 4).bool (nth x 5).bool (nth x 6).list (nth x 7).list (nth x 8).list (nth x 9).list (nth x 10).int) && decide (endAt ME ME.length ≤ s))) with
    | false => exact ⟨rfl, trivial⟩
    | true =>
      simp only [Bool.and_eq_true, List.all_eq_true] at hf
      rw [hD (by
        rw [depthC]
        show (ME.attach.all fun x => depthC (nth x.1 2).int (nth x.1 8).list (nth x.1 9).list) = true
        rw [List.all_eq_true]
        exact fun x _ => okV_depth (hf.2.1.2 x.1 x.2))]
      exact ⟨bif_same, trivial⟩
  by_cases k5 : k = 5
  · subst k5
    simp only [Int.reduceBEq, cond_true, cond_false, Bool.true_and, Bool.and_true, bif_same, bif_ft]
    cases hf : (arrS s sg bg NA NU ME BA ct && (if h : 0 < BA.length then okV (nth (row BA (0 : Int)) 0).int (nth (row BA (0 : Int)) 1).int (nth (row BA (0 : Int)) 2).bool (nth (row BA (0 : Int)) 3).bool (nth (row BA (0 : Int)) 4).list (nth (row BA (0 : Int)) 5).list (nth (row BA (0 : Int)) 6).list (nth (row BA (0 : Int)) 7).list (nth (row BA (0 : Int)) 8).int else false)) with
    | false => exact ⟨rfl, trivial⟩
    | true =>
      rw [Bool.and_eq_true] at hf
      have hf := hf.2
      split at hf
      · rename_i hb
        rw [hS (by
          rw [sizeC]
          show (if h : 0 < BA.length then sizeC (nth (row BA (0 : Int)) 0).int (nth (row BA (0 : Int)) 7).list else false) = true
          rw [dif_pos hb]; exact okV_size hf), hD (by
          rw [depthC]
          show (if h : 0 < BA.length then depthC (nth (row BA (0 : Int)) 0).int (nth (row BA (0 : Int)) 6).list (nth (row BA (0 : Int)) 7).list else false) = true
          rw [dif_pos hb]; exact okV_depth hf)]
        exact ⟨bif_same, trivial⟩
      · cases hf
  have e1 : (k == 1) = false := by simpa using k1
  have e2 : (k == 2) = false := by simpa using k2
  have e3 : (k == 3) = false := by simpa using k3
  have e4 : (k == 4) = false := by simpa using k4
  have e5 : (k == 5) = false := by simpa using k5
  have e6 : (k == 6) = false := by simpa using k6
  simp only [e1, e2, e3, e4, e5, e6, cond_false, Bool.false_and, and_self]
theorem qbs_nxr (k s : Int) (sg bg : Bool) (NA NU ME BA : LL) (ct : Int) : qbs_rc (i_spec_l02Ok := ⟨qbs_O.n + 1⟩) k s sg bg NA NU ME BA ct = true → (qbs_c k s sg bg NA NU ME BA ct) = true ∧ (qbs_v k s sg bg NA NU ME BA ct) = (qbs_rv k s sg bg NA NU ME BA ct) := fun h => qbs_nx k s sg bg NA NU ME BA ct h
theorem qbs_rs : ∀ xs r, qbs_rS (i_spec_l02Ok := ⟨qbs_O.n + 1⟩) xs = some (true, r) → runF tab FT D26 live 30 noLoops xs = some r := by
  intro xs r h
  unfold qbs_rS at h
  split at h
  · obtain ⟨h1, rfl⟩ := sp h
    have hx := qbs_nxr _ _ _ _ _ _ _ _ _ h1
    have ht := fun_told (qbs_e ..) (qbs_l _ _ _ _ _ _ _ _ _) hx.1
    rw [hx.2] at ht
    exact ht
  · cases h
end
end
end
end
end
end
end Go.Proofs.Ytdcafhfnkblfkaa.V
