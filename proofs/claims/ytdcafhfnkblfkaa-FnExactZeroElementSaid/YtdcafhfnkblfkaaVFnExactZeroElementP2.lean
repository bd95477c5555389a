/- What the functions of FnExactZeroElement answer. No condition. -/
import Derived.Test.YtdcafhfnkblfkaaVFnExactZeroElementP1
namespace Go.Proofs.Ytdcafhfnkblfkaa.V
open Go
set_option maxRecDepth 100000
set_option linter.unusedVariables false
set_option linter.unusedSectionVars false
set_option linter.unusedSimpArgs false
set_option maxHeartbeats 2000000
noncomputable section
section
variable [i_laws_szType : qbc_O]
variable [g_laws_szType : qbc_G]
section
variable [i_laws_toType : qp_O]
variable [g_laws_toType : qp_G]
section
variable [i_spec_l02Size : qn_O]
variable [g_spec_l02Size : qn_G]
section
variable [i_spec_l02Depth : qe_O]
variable [g_spec_l02Depth : qe_G]
theorem qe_rs : ∀ xs r, qe_rS (i_spec_l02Depth := ⟨qe_O.n + 1⟩) xs = some (true, r) → runF tab FT D15 live 70 qe_lo xs = some r := by
  intro xs r h
  unfold qe_rS at h
  split at h
  · obtain ⟨h1, rfl⟩ := sp h
    have hx := qe_nxr _ _ _ _ _ _ _ _ _ h1
    have ht := fun_told (qe_e ..) (qe_l _ _ _ _ _ _ _ _ _) hx.1
    rw [hx.2] at ht
    exact ht
  · cases h
theorem qe_step : qe_G (i_spec_l02Depth := ⟨qe_O.n + 1⟩) := by
  have h := DOk.also2 (S := qe_rS (i_spec_l02Depth := ⟨qe_O.n + 1⟩)) mixed_ok tab_ok names_ok d13 d15 (fnLoops_one (by kernel_rfl) qe_is5) qe_rs
  refine qe_G.mk (i_spec_l02Depth := ⟨qe_O.n + 1⟩) ?_
  exact h
abbrev qx_2_σ := LL × Int × Int
abbrev qx_2_ω := (Unit) ⊕ (Unit)
def qx_2_step (A : LL) (v i : Int) : Tr (qx_2_σ ⊕ qx_2_ω) := (.ite ((decide (i < (A.length : Int))) = true) (.ite ((0 : Int) ≤ i ∧ i < (A.length : Int)) (.ite (((nth (row A i) 0).int == v) = true) (.ok (.inr (.inl ())))
    (.ok (.inl (A, v, (IntKind.wrap .i64 (i + (1 : Int)))))))
   .no)
  (.ok (.inr (.inr ()))))
def qx_2_st : qx_2_σ → Tr (qx_2_σ ⊕ qx_2_ω) := fun x => (qx_2_step (x.1) (x.2.1) (x.2.2))
def qx_k2_1 (A : LL) (v i : Int) : Bool := A.all (fun x => !((nth x 0).int == v))
def qx_o2_2 (A : LL) (v i : Int) : Bool := is (i = 0 ∧ A.length ≤ 140737488351232)
def qx_o2_3 (A : LL) (v i : Int) : Bool := is (i = 0 ∧ A.length ≤ 140737488351232)
def qx_2_fin (A : LL) (v i : Int) : Told qx_2_ω := (.br (qx_k2_1 A v i) (.leaf (qx_o2_2 A v i) (.inr ())) (.leaf (qx_o2_3 A v i) (.inl ())))
def qx_2_sl (x : qx_2_σ) : List Slot := [⟨.val false [⟨.slice 2, .sh, TC.l (x.1)⟩], ⟨0, 0⟩⟩, ⟨.val false [⟨.int .i64, .sh, TC.i (x.2.1)⟩], ⟨0, 0⟩⟩, ⟨.val false [⟨.int .i64, .sh, TC.i (x.2.2)⟩], ⟨0, 0⟩⟩]
def qx_2_out : qx_2_ω → Ex × List Slot := (Sum.elim (fun x => (.ret, [⟨.val false [⟨.bool, .sh, TC.b true⟩], ⟨0, 0⟩⟩])) (fun x => (.exit 0, [Slot.none])))
def qx_lo2 : List Slot → Option (Told (Ex × List Slot)) := fun s => match s with
  | [⟨.val false [⟨.slice 2, .sh, TC.l A⟩], ⟨0, 0⟩⟩, ⟨.val false [⟨.int .i64, .sh, TC.i v⟩], ⟨0, 0⟩⟩, ⟨.val false [⟨.int .i64, .sh, TC.i i⟩], ⟨0, 0⟩⟩] => some (((qx_2_fin A v i)).map qx_2_out)
  | _ => .none
def qx_lo : LoopTeller := fun r s => bif Nat.beq r 2 then qx_lo2 s else .none
theorem qx_2_r (A : LL) (v i : Int) (fuel : Nat) : rounds (rnd tab FT D15 live 98 qx_lo 0 2) leave (fuel + 1) (qx_2_sl (A, v, i)) = ((qx_2_step A v i)).run (goOn (fun s => rounds (rnd tab FT D15 live 98 qx_lo 0 2) leave fuel (qx_2_sl s)) fun w => some (qx_2_out w)) := by kernel_rfl
theorem qx_2_h (A : LL) (v i : Int) (ow : qx_2_ω) : ((qx_2_fin A v i)).val = some ow → ∃ fuel, loopN qx_2_st fuel (A, v, i) = some ow := by
  intro h
  have key : A.length ≤ 140737488351232 → loopN qx_2_st (A.length + 1) (A, v, (0 : Int)) = some (if A.all (fun x => !((nth x 0).int == v)) = true then (.inr ()) else (.inl ())) := by
    intro ht
    have hlen : A.length ≤ 140737488351232 := ht
    have key := loopN_scan (step := qx_2_st) A [] (fun x => !((nth x 0).int == v)) (fun a _ => a) (fun i a => (A, v, (i : Int))) (fun a => (.inr ())) (fun i a => (.inl ())) (fun i a hi => ?_) (fun a => ?_) A.length 0 () (by omega)
    · first | (rw [Nat.zero_add] at key; exact key) | exact key
    · skip
      show (qx_2_step A v (i : Int)).val = _
      unfold qx_2_step
      refine Tr.t (by simp; omega) ?_
      skip
      refine Tr.t (by first | omega | (constructor <;> omega)) ?_
      refine Tr.b2 (fun hP => ?_) (fun _ => rfl)
      rw [Tr.val_ok, wrap64 (i := (i : Int) + 1) (by omega) (by omega)]; rfl
    · show (qx_2_step A v (A.length : Int)).val = _
      refine Tr.n (by simp) ?_
      rfl
  simp only [qx_2_fin, Told.val] at h
  cases hk : A.all (fun x => !((nth x 0).int == v)) with
  | true =>
    rw [if_pos (show qx_k2_1 A v i = true from hk)] at h
    split at h
    · rename_i ho
      obtain ⟨rfl, ht⟩ := is_iff.1 ho
      cases h
      refine ⟨_, (key ht).trans ?_⟩
      rw [hk]; rfl
    · cases h
  | false =>
    rw [if_neg (show ¬qx_k2_1 A v i = true from by rw [show qx_k2_1 A v i = (A.all (fun x => !((nth x 0).int == v))) from rfl, hk]; simp)] at h
    split at h
    · rename_i ho
      obtain ⟨rfl, ht⟩ := is_iff.1 ho
      cases h
      refine ⟨_, (key ht).trans ?_⟩
      rw [hk]; rfl
    · cases h
theorem qx_is2 : LoopIs tab FT D15 live 98 qx_lo 0 2 := by
  refine loop_told (sl := qx_2_sl) (step := qx_2_st) (out := qx_2_out) (lor := qx_lo2) (fin := fun x => (qx_2_fin (x.1) (x.2.1) (x.2.2))) (fun _ => rfl) ?_ (fun x n => qx_2_r x.1 x.2.1 x.2.2 n) (fun x ow => qx_2_h x.1 x.2.1 x.2.2 ow)
  intro s t h
  unfold qx_lo2 at h
  split at h
  · cases h; exact ⟨(_, _, _), rfl, rfl⟩
  · cases h
def qx_t (A : LL) (v : Int) : Tr (Bool) := (.ite ((qx_k2_1 A v (0 : Int)) = true) (.ite ((qx_o2_2 A v (0 : Int)) = true) (.ok false)
   .no)
  (.ite ((qx_o2_3 A v (0 : Int)) = true) (.ok true)
   .no))
def qx_mk (p : Bool) : Res := [(false, [⟨.bool, .sh, TC.b p⟩])]
def qx_c (A : LL) (v : Int) : Bool := (bif (qx_k2_1 A v (0 : Int)) then ((qx_o2_2 A v (0 : Int)) && true) else ((qx_o2_3 A v (0 : Int)) && true))
def qx_v (A : LL) (v : Int) : Bool := (bif (qx_k2_1 A v (0 : Int)) then false else true)
theorem qx_l (A : LL) (v : Int) : (qx_c A v) = true → (qx_t A v).val = some (qx_v A v) := by
  unfold qx_t qx_v qx_c
  exact fun h => (Tr.ss h (fun h => (Tr.gb h fun h => rfl)) (fun h => (Tr.gb h fun h => rfl)))
def qx_S : List Arg → Option (Bool × Res) := fun xs => match xs with
  | [(false, [(.slice 2, TC.l A)]), (false, [(.int .i64, TC.i v)])] => some ((qx_c A v), qx_mk (qx_v A v))
  | _ => .none
theorem qx_e (A : LL) (v : Int) : runF tab FT D15 live 98 qx_lo [(false, [(.slice 2, TC.l A)]), (false, [(.int .i64, TC.i v)])] = (qx_t A v).run fun p => some (qx_mk p) := by kernel_rfl
theorem qx_s : ∀ xs r, qx_S xs = some (true, r) → runF tab FT D15 live 98 qx_lo xs = some r := by
  intro xs r h
  unfold qx_S at h
  split at h
  · obtain ⟨h1, rfl⟩ := sp h
    exact fun_told (qx_e ..) (qx_l _ _) h1
  · cases h
def D16 : Dt := also D15 98 qx_S
theorem d16 : DOk Go.Proofs.Try.prog tab D16 := d15.also mixed_ok tab_ok names_ok (fnLoops_one (by kernel_rfl) qx_is2) qx_s
theorem qx_cc {A : LL} {v : Int} (hl : A.length ≤ 140737488351232) : (qx_c A v) = true := by
  unfold qx_c
  refine bifT (fun b1 => ?_) (fun b1 => ?_)
  · skip
    refine andT (by exact is_true ⟨rfl, hl⟩) ?_
    rfl
  · skip
    refine andT (by exact is_true ⟨rfl, hl⟩) ?_
    rfl
def qck_t (k s : Int) (sg bg : Bool) (NA NU ME BA : LL) (ct : Int) : Tr (Bool) := (.ite ((qx_c [[TC.i (1 : Int)], [TC.i (2 : Int)], [TC.i (4 : Int)], [TC.i (8 : Int)]] s) = true) (.ite ((!(qx_v [[TC.i (1 : Int)], [TC.i (2 : Int)], [TC.i (4 : Int)], [TC.i (8 : Int)]] s)) = true) (.ok false)
   (.ite ((s == (8 : Int)) = true) (.ite ((!sg) = true) (.ok false)
     (.ite ((s == (1 : Int)) = true) (.ite (bg = true) (.ok false)
       (.ite (((NA.length : Int) == (0 : Int)) = true) (.ite (((NU.length : Int) == (0 : Int)) = true) (.ite (((ME.length : Int) == (0 : Int)) = true) (.ite (((BA.length : Int) == (0 : Int)) = true) (.ok (ct == (0 : Int)))
           (.ok false))
          (.ok false))
         (.ok false))
        (.ok false)))
      (.ite (((NA.length : Int) == (0 : Int)) = true) (.ite (((NU.length : Int) == (0 : Int)) = true) (.ite (((ME.length : Int) == (0 : Int)) = true) (.ite (((BA.length : Int) == (0 : Int)) = true) (.ok (ct == (0 : Int)))
          (.ok false))
         (.ok false))
        (.ok false))
       (.ok false))))
    (.ite ((s == (1 : Int)) = true) (.ite (bg = true) (.ok false)
      (.ite (((NA.length : Int) == (0 : Int)) = true) (.ite (((NU.length : Int) == (0 : Int)) = true) (.ite (((ME.length : Int) == (0 : Int)) = true) (.ite (((BA.length : Int) == (0 : Int)) = true) (.ok (ct == (0 : Int)))
          (.ok false))
         (.ok false))
        (.ok false))
       (.ok false)))
     (.ite (((NA.length : Int) == (0 : Int)) = true) (.ite (((NU.length : Int) == (0 : Int)) = true) (.ite (((ME.length : Int) == (0 : Int)) = true) (.ite (((BA.length : Int) == (0 : Int)) = true) (.ok (ct == (0 : Int)))
         (.ok false))
        (.ok false))
       (.ok false))
      (.ok false)))))
  .no)
def qck_mk (p : Bool) : Res := [(false, [⟨.bool, .sh, TC.b p⟩])]
def qck_c (k s : Int) (sg bg : Bool) (NA NU ME BA : LL) (ct : Int) : Bool := true
def qck_v (k s : Int) (sg bg : Bool) (NA NU ME BA : LL) (ct : Int) : Bool := intV s sg bg NA NU ME BA ct
theorem qck_l (k s : Int) (sg bg : Bool) (NA NU ME BA : LL) (ct : Int) : (qck_c k s sg bg NA NU ME BA ct) = true → (qck_t k s sg bg NA NU ME BA ct).val = some (qck_v k s sg bg NA NU ME BA ct) := by
  intro _
  unfold qck_t
  refine Tr.t (qx_cc (by decide)) ?_
  rw [show qx_v [[TC.i (1 : Int)], [TC.i (2 : Int)], [TC.i (4 : Int)], [TC.i (8 : Int)]] s = has4 s from by
    show (bif [[TC.i (1 : Int)], [TC.i (2 : Int)], [TC.i (4 : Int)], [TC.i (8 : Int)]].all (fun x => !((nth x 0).int == s)) then false else true) = _
    rw [has4_eq]; cases has4 s <;> rfl]
  simp only [Tr.val_br, Tr.val_ok]
  simp only [ite_bif, somebif]
  refine congrArg some ?_
  unfold qck_v intV empt
  generalize has4 s = p0, (s == 8) = p1, (s == 1) = p2, ((NA.length : Int) == 0) = p3, ((NU.length : Int) == 0) = p4, ((ME.length : Int) == 0) = p5, ((BA.length : Int) == 0) = p6, (ct == 0) = p7
  cases p0 <;> cases p1 <;> cases sg <;> cases p2 <;> cases bg <;> cases p3 <;> cases p4 <;> cases p5 <;> cases p6 <;> cases p7 <;> rfl
def qck_S : List Arg → Option (Bool × Res) := fun xs => match xs with
  | [(true, [(.int .i64, TC.i k), (.int .i64, TC.i s), (.bool, TC.b sg), (.bool, TC.b bg), (.slice 9, TC.l NA), (.slice 2, TC.l NU), (.slice 71, TC.l ME), (.slice 32, TC.l BA), (.int .i64, TC.i ct)])] => some (true, qck_mk (qck_v k s sg bg NA NU ME BA ct))
  | _ => .none
theorem qck_e (k s : Int) (sg bg : Bool) (NA NU ME BA : LL) (ct : Int) : runF tab FT D16 live 63 noLoops [(true, [(.int .i64, TC.i k), (.int .i64, TC.i s), (.bool, TC.b sg), (.bool, TC.b bg), (.slice 9, TC.l NA), (.slice 2, TC.l NU), (.slice 71, TC.l ME), (.slice 32, TC.l BA), (.int .i64, TC.i ct)])] = (qck_t k s sg bg NA NU ME BA ct).run fun p => some (qck_mk p) := by kernel_rfl
theorem qck_s : ∀ xs r, qck_S xs = some (true, r) → runF tab FT D16 live 63 noLoops xs = some r := by
  intro xs r h
  unfold qck_S at h
  split at h
  · obtain ⟨h1, rfl⟩ := sp h
    exact fun_told (qck_e ..) (qck_l _ _ _ _ _ _ _ _ _) rfl
  · cases h
def D17 : Dt := also D16 63 qck_S
theorem d17 : DOk Go.Proofs.Try.prog tab D17 := d16.also mixed_ok tab_ok names_ok noLoops_ok qck_s
def qbp_t (a0 a1 : Int) (a2 a3 : Bool) (a4 a5 a6 a7 : LL) (a8 : Int) : Tr (Bool) := (.ite ((!a2) = true) (.ok (!a3))
  (.ok false))
def qbp_mk (p : Bool) : Res := [(false, [⟨.bool, .sh, TC.b p⟩])]
def qbp_c (a0 a1 : Int) (a2 a3 : Bool) (a4 a5 a6 a7 : LL) (a8 : Int) : Bool := true
def qbp_v (a0 a1 : Int) (a2 a3 : Bool) (a4 a5 a6 a7 : LL) (a8 : Int) : Bool := (bif (!a2) then (!a3) else false)
theorem qbp_l (a0 a1 : Int) (a2 a3 : Bool) (a4 a5 a6 a7 : LL) (a8 : Int) : (qbp_c a0 a1 a2 a3 a4 a5 a6 a7 a8) = true → (qbp_t a0 a1 a2 a3 a4 a5 a6 a7 a8).val = some (qbp_v a0 a1 a2 a3 a4 a5 a6 a7 a8) := by
  intro h
  skip
  unfold qbp_t qbp_v
  exact (Tr.s rfl rfl)
def qbp_S : List Arg → Option (Bool × Res) := fun xs => match xs with
  | [(true, [(.int .i64, TC.i a0), (.int .i64, TC.i a1), (.bool, TC.b a2), (.bool, TC.b a3), (.slice 9, TC.l a4), (.slice 2, TC.l a5), (.slice 71, TC.l a6), (.slice 32, TC.l a7), (.int .i64, TC.i a8)])] => some (true, qbp_mk (qbp_v a0 a1 a2 a3 a4 a5 a6 a7 a8))
  | _ => .none
theorem qbp_e (a0 a1 : Int) (a2 a3 : Bool) (a4 a5 a6 a7 : LL) (a8 : Int) : runF tab FT D17 live 68 noLoops [(true, [(.int .i64, TC.i a0), (.int .i64, TC.i a1), (.bool, TC.b a2), (.bool, TC.b a3), (.slice 9, TC.l a4), (.slice 2, TC.l a5), (.slice 71, TC.l a6), (.slice 32, TC.l a7), (.int .i64, TC.i a8)])] = (qbp_t a0 a1 a2 a3 a4 a5 a6 a7 a8).run fun p => some (qbp_mk p) := by kernel_rfl
theorem qbp_s : ∀ xs r, qbp_S xs = some (true, r) → runF tab FT D17 live 68 noLoops xs = some r := by
  intro xs r h
  unfold qbp_S at h
  split at h
  · obtain ⟨h1, rfl⟩ := sp h
    exact fun_told (qbp_e ..) (qbp_l _ _ _ _ _ _ _ _ _) rfl
  · cases h
def D18 : Dt := also D17 68 qbp_S
theorem d18 : DOk Go.Proofs.Try.prog tab D18 := d17.also mixed_ok tab_ok names_ok noLoops_ok qbp_s
def qch_t (a0 a1 a2 : Int) : Tr (Bool) := (.ite ((decide (a0 ≥ a1)) = true) (.ok (decide (a0 ≤ a2)))
  (.ok false))
def qch_mk (p : Bool) : Res := [(false, [⟨.bool, .sh, TC.b p⟩])]
def qch_c (a0 a1 a2 : Int) : Bool := true
def qch_v (a0 a1 a2 : Int) : Bool := (bif (decide (a0 ≥ a1)) then (decide (a0 ≤ a2)) else false)
theorem qch_l (a0 a1 a2 : Int) : (qch_c a0 a1 a2) = true → (qch_t a0 a1 a2).val = some (qch_v a0 a1 a2) := by
  intro h
  skip
  unfold qch_t qch_v
  exact (Tr.s rfl rfl)
def qch_S : List Arg → Option (Bool × Res) := fun xs => match xs with
  | [(false, [(.int .i64, TC.i a0)]), (false, [(.int .i64, TC.i a1)]), (false, [(.int .i64, TC.i a2)])] => some (true, qch_mk (qch_v a0 a1 a2))
  | _ => .none
theorem qch_e (a0 a1 a2 : Int) : runF tab FT D18 live 64 noLoops [(false, [(.int .i64, TC.i a0)]), (false, [(.int .i64, TC.i a1)]), (false, [(.int .i64, TC.i a2)])] = (qch_t a0 a1 a2).run fun p => some (qch_mk p) := by kernel_rfl
theorem qch_s : ∀ xs r, qch_S xs = some (true, r) → runF tab FT D18 live 64 noLoops xs = some r := by
  intro xs r h
  unfold qch_S at h
  split at h
  · obtain ⟨h1, rfl⟩ := sp h
    exact fun_told (qch_e ..) (qch_l _ _ _) rfl
  · cases h
def D19 : Dt := also D18 64 qch_S
theorem d19 : DOk Go.Proofs.Try.prog tab D19 := d18.also mixed_ok tab_ok names_ok noLoops_ok qch_s
def qbb_t (k s : Int) (sg bg : Bool) (NA NU ME BA : LL) (ct : Int) : Tr (Int × Int) := (.ite ((!sg) = true) (.ite (0 ≤ (IntKind.wrap .u64 (IntKind.wrap .i64 ((8 : Int) * s)))) (.ok ((0 : Int), (IntKind.wrap .i64 ((IntKind.wrap .i64 ((1 : Int) * (2 ^ (min ((IntKind.wrap .u64 (IntKind.wrap .i64 ((8 : Int) * s)))).toNat 64)))) - (1 : Int)))))
   .no)
  (.ite (0 ≤ (IntKind.wrap .u64 ((IntKind.wrap .u64 (IntKind.wrap .i64 ((8 : Int) * s))) - (1 : Int)))) (.ok ((IntKind.wrap .i64 ((IntKind.wrap .i64 ((0 : Int) - (IntKind.wrap .i64 ((IntKind.wrap .i64 ((1 : Int) * (2 ^ (min ((IntKind.wrap .u64 ((IntKind.wrap .u64 (IntKind.wrap .i64 ((8 : Int) * s))) - (1 : Int)))).toNat 64)))) - (1 : Int))))) - (1 : Int))), (IntKind.wrap .i64 ((IntKind.wrap .i64 ((1 : Int) * (2 ^ (min ((IntKind.wrap .u64 ((IntKind.wrap .u64 (IntKind.wrap .i64 ((8 : Int) * s))) - (1 : Int)))).toNat 64)))) - (1 : Int)))))
   .no))
def qbb_mk (p : Int × Int) : Res := [(false, [⟨.int .i64, .sh, TC.i (p.1)⟩]), (false, [⟨.int .i64, .sh, TC.i (p.2)⟩])]
def qbb_c (k s : Int) (sg bg : Bool) (NA NU ME BA : LL) (ct : Int) : Bool := (bif (!sg) then (is (0 ≤ (IntKind.wrap .u64 (IntKind.wrap .i64 ((8 : Int) * s)))) && true) else (is (0 ≤ (IntKind.wrap .u64 ((IntKind.wrap .u64 (IntKind.wrap .i64 ((8 : Int) * s))) - (1 : Int)))) && true))
def qbb_v (k s : Int) (sg bg : Bool) (NA NU ME BA : LL) (ct : Int) : Int × Int := (bif (!sg) then ((0 : Int), (IntKind.wrap .i64 ((IntKind.wrap .i64 ((1 : Int) * (2 ^ (min ((IntKind.wrap .u64 (IntKind.wrap .i64 ((8 : Int) * s)))).toNat 64)))) - (1 : Int)))) else ((IntKind.wrap .i64 ((IntKind.wrap .i64 ((0 : Int) - (IntKind.wrap .i64 ((IntKind.wrap .i64 ((1 : Int) * (2 ^ (min ((IntKind.wrap .u64 ((IntKind.wrap .u64 (IntKind.wrap .i64 ((8 : Int) * s))) - (1 : Int)))).toNat 64)))) - (1 : Int))))) - (1 : Int))), (IntKind.wrap .i64 ((IntKind.wrap .i64 ((1 : Int) * (2 ^ (min ((IntKind.wrap .u64 ((IntKind.wrap .u64 (IntKind.wrap .i64 ((8 : Int) * s))) - (1 : Int)))).toNat 64)))) - (1 : Int)))))
theorem qbb_l (k s : Int) (sg bg : Bool) (NA NU ME BA : LL) (ct : Int) : (qbb_c k s sg bg NA NU ME BA ct) = true → (qbb_t k s sg bg NA NU ME BA ct).val = some (qbb_v k s sg bg NA NU ME BA ct) := by
  unfold qbb_t qbb_v qbb_c
  exact fun h => (Tr.ss h (fun h => (Tr.gs h fun h => rfl)) (fun h => (Tr.gs h fun h => rfl)))
def qbb_S : List Arg → Option (Bool × Res) := fun xs => match xs with
  | [(true, [(.int .i64, TC.i k), (.int .i64, TC.i s), (.bool, TC.b sg), (.bool, TC.b bg), (.slice 9, TC.l NA), (.slice 2, TC.l NU), (.slice 71, TC.l ME), (.slice 32, TC.l BA), (.int .i64, TC.i ct)])] => some ((qbb_c k s sg bg NA NU ME BA ct), qbb_mk (qbb_v k s sg bg NA NU ME BA ct))
  | _ => .none
theorem qbb_e (k s : Int) (sg bg : Bool) (NA NU ME BA : LL) (ct : Int) : runF tab FT D19 live 99 noLoops [(true, [(.int .i64, TC.i k), (.int .i64, TC.i s), (.bool, TC.b sg), (.bool, TC.b bg), (.slice 9, TC.l NA), (.slice 2, TC.l NU), (.slice 71, TC.l ME), (.slice 32, TC.l BA), (.int .i64, TC.i ct)])] = (qbb_t k s sg bg NA NU ME BA ct).run fun p => some (qbb_mk p) := by kernel_rfl
theorem qbb_s : ∀ xs r, qbb_S xs = some (true, r) → runF tab FT D19 live 99 noLoops xs = some r := by
  intro xs r h
  unfold qbb_S at h
  split at h
  · obtain ⟨h1, rfl⟩ := sp h
    exact fun_told (qbb_e ..) (qbb_l _ _ _ _ _ _ _ _ _) h1
  · cases h
def D20 : Dt := also D19 99 qbb_S
theorem d20 : DOk Go.Proofs.Try.prog tab D20 := d19.also mixed_ok tab_ok names_ok noLoops_ok qbb_s
theorem qbb_cc {k : Int} {s : Int} {sg : Bool} {bg : Bool} {NA : LL} {NU : LL} {ME : LL} {BA : LL} {ct : Int}  : (qbb_c k s sg bg NA NU ME BA ct) = true := by
  unfold qbb_c
  refine bifT (fun b1 => ?_) (fun b1 => ?_)
  · skip
    refine andT (is_true (by rw [IntKind.wrap_u64]; omega)) ?_
    rfl
  · skip
    refine andT (is_true (by rw [IntKind.wrap_u64]; omega)) ?_
    rfl
def qci_t (a0 : Int) : Tr (Bool) := (.ite ((decide (a0 ≥ (65 : Int))) = true) (.ite ((decide (a0 ≤ (90 : Int))) = true) (.ok true)
   (.ite ((decide (a0 ≥ (97 : Int))) = true) (.ok (decide (a0 ≤ (122 : Int))))
    (.ok false)))
  (.ite ((decide (a0 ≥ (97 : Int))) = true) (.ok (decide (a0 ≤ (122 : Int))))
   (.ok false)))
def qci_mk (p : Bool) : Res := [(false, [⟨.bool, .sh, TC.b p⟩])]
def qci_c (a0 : Int) : Bool := true
def qci_v (a0 : Int) : Bool := (bif (decide (a0 ≥ (65 : Int))) then (bif (decide (a0 ≤ (90 : Int))) then true else (bif (decide (a0 ≥ (97 : Int))) then (decide (a0 ≤ (122 : Int))) else false)) else (bif (decide (a0 ≥ (97 : Int))) then (decide (a0 ≤ (122 : Int))) else false))
theorem qci_l (a0 : Int) : (qci_c a0) = true → (qci_t a0).val = some (qci_v a0) := by
  intro h
  skip
  unfold qci_t qci_v
  exact (Tr.s (Tr.s rfl (Tr.s rfl rfl)) (Tr.s rfl rfl))
def qci_S : List Arg → Option (Bool × Res) := fun xs => match xs with
  | [(false, [(.int .u8, TC.i a0)])] => some (true, qci_mk (qci_v a0))
  | _ => .none
theorem qci_e (a0 : Int) : runF tab FT D20 live 130 noLoops [(false, [(.int .u8, TC.i a0)])] = (qci_t a0).run fun p => some (qci_mk p) := by kernel_rfl
theorem qci_s : ∀ xs r, qci_S xs = some (true, r) → runF tab FT D20 live 130 noLoops xs = some r := by
  intro xs r h
  unfold qci_S at h
  split at h
  · obtain ⟨h1, rfl⟩ := sp h
    exact fun_told (qci_e _) (qci_l _) rfl
  · cases h
def D21 : Dt := also D20 130 qci_S
theorem d21 : DOk Go.Proofs.Try.prog tab D21 := d20.also mixed_ok tab_ok names_ok noLoops_ok qci_s
def qs_f4 (s : BS) (i : Int) : (Unit) ⊕ ((Unit) ⊕ (Unit)) := (bif (!(qci_v ((s.getD (i).toNat 0).toNat : Int))) then (bif (decide (((s.getD (i).toNat 0).toNat : Int) ≥ (48 : Int))) then (bif (!(decide (((s.getD (i).toNat 0).toNat : Int) ≤ (57 : Int)))) then (bif (!(((s.getD (i).toNat 0).toNat : Int) == (95 : Int))) then (.inr (.inl ())) else (.inl ())) else (.inl ())) else (bif (!(((s.getD (i).toNat 0).toNat : Int) == (95 : Int))) then (.inr (.inl ())) else (.inl ()))) else (.inl ()))
def qs_e4 (s : BS) : (Unit) ⊕ (Unit) := .inr ()
def qs_R4 (s : BS) (i : Int) : (Unit) ⊕ (Unit) := iter (fun i a => (qs_f4 s ((i + 1 : Nat) : Int))) (fun a => (qs_e4 s)) (s.length - 1) 0 ()
abbrev qs_4_σ := BS × Int
abbrev qs_4_ω := (Unit) ⊕ (Unit)
def qs_4_step (s : BS) (i : Int) : Tr (qs_4_σ ⊕ qs_4_ω) := (.ite ((decide (i < (s.length : Int))) = true) (.ite ((0 : Int) ≤ i ∧ i < (s.length : Int)) (.ite ((!(qci_v ((s.getD (i).toNat 0).toNat : Int))) = true) (.ite ((0 : Int) ≤ i ∧ i < (s.length : Int)) (.ite ((decide (((s.getD (i).toNat 0).toNat : Int) ≥ (48 : Int))) = true) (.ite ((0 : Int) ≤ i ∧ i < (s.length : Int)) (.ite ((!(decide (((s.getD (i).toNat 0).toNat : Int) ≤ (57 : Int)))) = true) (.ite ((0 : Int) ≤ i ∧ i < (s.length : Int)) (.ite ((!(((s.getD (i).toNat 0).toNat : Int) == (95 : Int))) = true) (.ok (.inr (.inl ())))
          (.ok (.inl (s, (IntKind.wrap .i64 (i + (1 : Int)))))))
         .no)
        (.ok (.inl (s, (IntKind.wrap .i64 (i + (1 : Int)))))))
       .no)
      (.ite ((0 : Int) ≤ i ∧ i < (s.length : Int)) (.ite ((!(((s.getD (i).toNat 0).toNat : Int) == (95 : Int))) = true) (.ok (.inr (.inl ())))
        (.ok (.inl (s, (IntKind.wrap .i64 (i + (1 : Int)))))))
       .no))
     .no)
    (.ok (.inl (s, (IntKind.wrap .i64 (i + (1 : Int)))))))
   .no)
  (.ok (.inr (.inr ()))))
def qs_4_st : qs_4_σ → Tr (qs_4_σ ⊕ qs_4_ω) := fun x => (qs_4_step (x.1) (x.2))
def qs_k4_1 (s : BS) (i : Int) : Bool := sumIs (qs_R4 s i)
def qs_o4_2 (s : BS) (i : Int) : Bool := is (i = 1 ∧ s.length ≤ 140737488355328)
def qs_o4_3 (s : BS) (i : Int) : Bool := is (i = 1 ∧ s.length ≤ 140737488355328)
def qs_4_fin (s : BS) (i : Int) : Told qs_4_ω := (.br (qs_k4_1 s i) (.leaf (qs_o4_2 s i) (.inl ())) (.leaf (qs_o4_3 s i) (.inr ())))
def qs_4_sl (x : qs_4_σ) : List Slot := [⟨.val false [⟨.str, .sh, TC.s (x.1)⟩], ⟨0, 0⟩⟩, ⟨.val false [⟨.int .i64, .sh, TC.i (x.2)⟩], ⟨0, 0⟩⟩]
def qs_4_out : qs_4_ω → Ex × List Slot := (Sum.elim (fun x => (.ret, [⟨.val false [⟨.bool, .sh, TC.b false⟩], ⟨0, 0⟩⟩])) (fun x => (.exit 0, [Slot.none])))
def qs_lo4 : List Slot → Option (Told (Ex × List Slot)) := fun s => match s with
  | [⟨.val false [⟨.str, .sh, TC.s s⟩], ⟨0, 0⟩⟩, ⟨.val false [⟨.int .i64, .sh, TC.i i⟩], ⟨0, 0⟩⟩] => some (((qs_4_fin s i)).map qs_4_out)
  | _ => .none
def qs_lo : LoopTeller := fun r s => bif Nat.beq r 4 then qs_lo4 s else .none
theorem qs_4_r (s : BS) (i : Int) (fuel : Nat) : rounds (rnd tab FT D21 live 100 qs_lo 0 4) leave (fuel + 1) (qs_4_sl (s, i)) = ((qs_4_step s i)).run (goOn (fun s => rounds (rnd tab FT D21 live 100 qs_lo 0 4) leave fuel (qs_4_sl s)) fun w => some (qs_4_out w)) := by kernel_rfl
theorem qs_f4_eq (s : BS) (i : Int) : qs_f4 s i = bif (letterB ((s.getD (i).toNat 0).toNat : Int) || ((decide (((s.getD (i).toNat 0).toNat : Int) ≥ 48) && decide (((s.getD (i).toNat 0).toNat : Int) ≤ 57)) || ((s.getD (i).toNat 0).toNat : Int) == 95)) then Sum.inl () else Sum.inr (Sum.inl ()) := by
  unfold qs_f4 letterB
  simp only [qci_v, dlt, dgt]
  generalize ((s.getD i.toNat 0).toNat : Int) = c
  generalize decide (c ≥ 65) = p0, decide (c ≤ 90) = p1, decide (c ≥ 97) = p2, decide (c ≤ 122) = p3, decide (c ≥ 48) = p4, decide (c ≤ 57) = p5, (c == 95) = p6
  cases p0 <;> cases p1 <;> cases p2 <;> cases p3 <;> cases p4 <;> cases p5 <;> cases p6 <;> rfl
theorem qs_R4_eq (s : BS)  : qs_R4 s 1 = bif allI (fun i : Nat => (letterB ((s.getD (((i + 1 : Nat) : Int)).toNat 0).toNat : Int) || ((decide (((s.getD (((i + 1 : Nat) : Int)).toNat 0).toNat : Int) ≥ 48) && decide (((s.getD (((i + 1 : Nat) : Int)).toNat 0).toNat : Int) ≤ 57)) || ((s.getD (((i + 1 : Nat) : Int)).toNat 0).toNat : Int) == 95))) (s.length - 1) then Sum.inr () else (Sum.inl ()) := by
  unfold qs_R4
  exact (iter_all (P := (fun i : Nat => (letterB ((s.getD (((i + 1 : Nat) : Int)).toNat 0).toNat : Int) || ((decide (((s.getD (((i + 1 : Nat) : Int)).toNat 0).toNat : Int) ≥ 48) && decide (((s.getD (((i + 1 : Nat) : Int)).toNat 0).toNat : Int) ≤ 57)) || ((s.getD (((i + 1 : Nat) : Int)).toNat 0).toNat : Int) == 95)))) (g := fun _ a => a) (w := Sum.inl ()) fun j a _ => qs_f4_eq s _)
theorem qs_4_h (s : BS) (i : Int) (ow : qs_4_ω) : ((qs_4_fin s i)).val = some ow → ∃ fuel, loopN qs_4_st fuel (s, i) = some ow := by
  refine auto_const (R := (qs_R4 s i)) rfl (iter_onR (f := (fun i a => (qs_f4 s ((i + 1 : Nat) : Int)))) (fin := (fun a => (qs_e4 s))) (Q := endsAs () ()) (fun i a => by unfold qs_f4; exact (onR_bif (onR_bif (onR_bif (onR_bif rfl trivial) trivial) (onR_bif rfl trivial)) trivial)) (fun _ => rfl) _ _ _) ?_
  intro ho
  have ho : is (i = 1 ∧ s.length ≤ 140737488355328) = true := ho.elim id id
  obtain ⟨rfl, hs⟩ := is_iff.1 ho
  skip
  refine ⟨(s.length - 1) + 1, ?_⟩
  refine iter_loop (step := qs_4_st) (s.length - 1) (fun i a => (qs_f4 s ((i + 1 : Nat) : Int))) (fun a => (qs_e4 s)) (fun i a => (s, ((i + 1 : Nat) : Int))) (fun _ _ => True) trivial (fun i a hi hI => ⟨?_, fun _ _ => trivial⟩) (fun a hI => ?_)
  · show (qs_4_step s ((i + 1 : Nat) : Int)).val = _
    unfold qs_4_step qs_f4
    skip
    refine Tr.t (by simp; omega) ?_
    exact (Tr.t (by first | omega | (constructor <;> omega)) (Tr.bf (Tr.t (by first | omega | (constructor <;> omega)) (Tr.bf (Tr.t (by first | omega | (constructor <;> omega)) (Tr.bf (Tr.t (by first | omega | (constructor <;> omega)) (Tr.bf rfl (by rw [Tr.val_ok, wrap64 (i := ((i + 1 : Nat) : Int) + 1) (by omega) (by omega)]; rfl))) (by rw [Tr.val_ok, wrap64 (i := ((i + 1 : Nat) : Int) + 1) (by omega) (by omega)]; rfl))) (Tr.t (by first | omega | (constructor <;> omega)) (Tr.bf rfl (by rw [Tr.val_ok, wrap64 (i := ((i + 1 : Nat) : Int) + 1) (by omega) (by omega)]; rfl))))) (by rw [Tr.val_ok, wrap64 (i := ((i + 1 : Nat) : Int) + 1) (by omega) (by omega)]; rfl)))
  · show (qs_4_step s ((s.length - 1 + 1 : Nat) : Int)).val = _
    refine Tr.n (by first | (simp; done) | (simp; omega) | omega) ?_
    rfl
theorem qs_is4 : LoopIs tab FT D21 live 100 qs_lo 0 4 := by
  refine loop_told (sl := qs_4_sl) (step := qs_4_st) (out := qs_4_out) (lor := qs_lo4) (fin := fun x => (qs_4_fin (x.1) (x.2))) (fun _ => rfl) ?_ (fun x n => qs_4_r x.1 x.2 n) (fun x ow => qs_4_h x.1 x.2 ow)
  intro s t h
  unfold qs_lo4 at h
  split at h
  · cases h; exact ⟨(_, _), rfl, rfl⟩
  · cases h
def qs_t (s : BS) : Tr (Bool) := (.ite (((s.length : Int) == (0 : Int)) = true) (.ok false)
  (.ite ((decide ((s.length : Int) > (12 : Int))) = true) (.ok false)
   (.ite ((0 : Int) ≤ (0 : Int) ∧ (0 : Int) < (s.length : Int)) (.ite ((!(qci_v ((s.getD ((0 : Int)).toNat 0).toNat : Int))) = true) (.ok false)
     (.ite ((qs_k4_1 s (1 : Int)) = true) (.ite ((qs_o4_2 s (1 : Int)) = true) (.ok false)
       .no)
      (.ite ((qs_o4_3 s (1 : Int)) = true) (.ok true)
       .no)))
    .no)))
def qs_mk (p : Bool) : Res := [(false, [⟨.bool, .sh, TC.b p⟩])]
def qs_c (s : BS) : Bool := (bif ((s.length : Int) == (0 : Int)) then true else (bif (decide ((s.length : Int) > (12 : Int))) then true else (is ((0 : Int) ≤ (0 : Int) ∧ (0 : Int) < (s.length : Int)) && (bif (!(qci_v ((s.getD ((0 : Int)).toNat 0).toNat : Int))) then true else (bif (qs_k4_1 s (1 : Int)) then ((qs_o4_2 s (1 : Int)) && true) else ((qs_o4_3 s (1 : Int)) && true))))))
def qs_v (s : BS) : Bool := (bif ((s.length : Int) == (0 : Int)) then false else (bif (decide ((s.length : Int) > (12 : Int))) then false else (bif (!(qci_v ((s.getD ((0 : Int)).toNat 0).toNat : Int))) then false else (bif (qs_k4_1 s (1 : Int)) then false else true))))
theorem qs_l (s : BS) : (qs_c s) = true → (qs_t s).val = some (qs_v s) := by
  unfold qs_t qs_v qs_c
  exact fun h => (Tr.ss h (fun h => rfl) (fun h => (Tr.ss h (fun h => rfl) (fun h => (Tr.gs h fun h => (Tr.ss h (fun h => rfl) (fun h => (Tr.ss h (fun h => (Tr.gb h fun h => rfl)) (fun h => (Tr.gb h fun h => rfl))))))))))
def qs_S : List Arg → Option (Bool × Res) := fun xs => match xs with
  | [(false, [(.str, TC.s s)])] => some ((qs_c s), qs_mk (qs_v s))
  | _ => .none
theorem qs_e (s : BS) : runF tab FT D21 live 100 qs_lo [(false, [(.str, TC.s s)])] = (qs_t s).run fun p => some (qs_mk p) := by kernel_rfl
theorem qs_s : ∀ xs r, qs_S xs = some (true, r) → runF tab FT D21 live 100 qs_lo xs = some r := by
  intro xs r h
  unfold qs_S at h
  split at h
  · obtain ⟨h1, rfl⟩ := sp h
    exact fun_told (qs_e _) (qs_l _) h1
  · cases h
def D22 : Dt := also D21 100 qs_S
theorem d22 : DOk Go.Proofs.Try.prog tab D22 := d21.also mixed_ok tab_ok names_ok (fnLoops_one (by kernel_rfl) qs_is4) qs_s
theorem qs_cc {s : BS} (hs : Typed tab (.str) (.s s)) : (qs_c s) = true := by
  unfold qs_c
  refine bifT (fun b1 => ?_) (fun b1 => ?_)
  · skip
    rfl
  · skip
    refine bifT (fun b2 => ?_) (fun b2 => ?_)
    · skip
      rfl
    · skip
      refine andT (is_true (by exact ⟨by omega, by have h2 := ne_of_beq_false b1; omega⟩)) ?_
      refine bifT (fun b3 => ?_) (fun b3 => ?_)
      · skip
        rfl
      · skip
        refine bifT (fun b4 => ?_) (fun b4 => ?_)
        · skip
          refine andT (by exact is_true ⟨rfl, by have := typed_str_len hs; omega⟩) ?_
          rfl
        · skip
          refine andT (by exact is_true ⟨rfl, by have := typed_str_len hs; omega⟩) ?_
          rfl
theorem qs_vv (s : BS) : qs_v s = nameOk s := by
  unfold qs_v qs_k4_1
  rw [qs_R4_eq]
  have e3 : qci_v ((s.getD ((0 : Int)).toNat 0).toNat : Int) = nameB ((0 : Nat) : Int) ((s.getD (((0 : Nat) : Int)).toNat 0).toNat : Int) := by
    unfold qci_v nameB letterB
    generalize ((s.getD ((0 : Int)).toNat 0).toNat : Int) = c
    generalize decide (c ≥ 65) = p1, decide (c ≤ 90) = p2, decide (c ≥ 97) = p3, decide (c ≤ 122) = p4
    cases p1 <;> cases p2 <;> cases p3 <;> cases p4 <;> rfl
  rw [e3]
  cases h0 : s.length with
  | zero =>
    have : s = [] := List.eq_nil_of_length_eq_zero h0
    subst this
    rfl
  | succ n =>
    have e2 : allI (fun i : Nat => nameB ((i + 1 : Nat) : Int) ((s.getD (((i + 1 : Nat) : Int)).toNat 0).toNat : Int)) n = allI (fun i : Nat => (letterB ((s.getD (((i + 1 : Nat) : Int)).toNat 0).toNat : Int) || ((decide (((s.getD (((i + 1 : Nat) : Int)).toNat 0).toNat : Int) ≥ 48) && decide (((s.getD (((i + 1 : Nat) : Int)).toNat 0).toNat : Int) ≤ 57)) || ((s.getD (((i + 1 : Nat) : Int)).toNat 0).toNat : Int) == 95))) n := allI_congr fun i _ => by
      unfold nameB
      rw [show (((i + 1 : Nat) : Int) == 0) = false from by simp; omega]
      rfl
    unfold nameOk
    rw [h0, allI_head, e2, Nat.add_sub_cancel]
    rw [show (((n + 1 : Nat) : Int) == 0) = false from by simp; omega, show decide (((n + 1 : Nat) : Int) ≥ 1) = true from by simp; omega, dgt]
    generalize nameB ((0 : Nat) : Int) ((s.getD (((0 : Nat) : Int)).toNat 0).toNat : Int) = q1
    generalize allI (fun i : Nat => (letterB ((s.getD (((i + 1 : Nat) : Int)).toNat 0).toNat : Int) || ((decide (((s.getD (((i + 1 : Nat) : Int)).toNat 0).toNat : Int) ≥ 48) && decide (((s.getD (((i + 1 : Nat) : Int)).toNat 0).toNat : Int) ≤ 57)) || ((s.getD (((i + 1 : Nat) : Int)).toNat 0).toNat : Int) == 95))) n = q2
    generalize decide (((n + 1 : Nat) : Int) ≤ 12) = q3
    cases q1 <;> cases q2 <;> cases q3 <;> rfl
def qf_f12 (k s : Int) (sg bg : Bool) (NA NU ME BA : LL) (ct low high ix q : Int) : (Unit) ⊕ ((Int × Int × Bool × Bool × LL × LL × LL × LL × Int × Int × Int × Int) ⊕ (Int × Int × Bool × Bool × LL × LL × LL × LL × Int × Int × Int × Int)) := (bif ((nth (row NA q) 0).str == (nth (row NA ix) 0).str) then (.inr (.inl (k, s, sg, bg, NA, NU, ME, BA, ct, low, high, ix))) else (.inl ()))
def qf_e12 (k s : Int) (sg bg : Bool) (NA NU ME BA : LL) (ct low high ix : Int) : (Int × Int × Bool × Bool × LL × LL × LL × LL × Int × Int × Int × Int) ⊕ (Int × Int × Bool × Bool × LL × LL × LL × LL × Int × Int × Int × Int) := .inr (k, s, sg, bg, NA, NU, ME, BA, ct, low, high, ix)
def qf_R12 (k s : Int) (sg bg : Bool) (NA NU ME BA : LL) (ct low high ix q : Int) : (Int × Int × Bool × Bool × LL × LL × LL × LL × Int × Int × Int × Int) ⊕ (Int × Int × Bool × Bool × LL × LL × LL × LL × Int × Int × Int × Int) := iter (fun i a => (qf_f12 k s sg bg NA NU ME BA ct low high ix (i : Int))) (fun a => (qf_e12 k s sg bg NA NU ME BA ct low high ix)) (ix.toNat) 0 ()
abbrev qf_12_σ := Int × Int × Bool × Bool × LL × LL × LL × LL × Int × Int × Int × Int × Int
abbrev qf_12_ω := (Int × Int × Bool × Bool × LL × LL × LL × LL × Int × Int × Int × Int) ⊕ (Int × Int × Bool × Bool × LL × LL × LL × LL × Int × Int × Int × Int)
def qf_12_step (k s : Int) (sg bg : Bool) (NA NU ME BA : LL) (ct low high ix q : Int) : Tr (qf_12_σ ⊕ qf_12_ω) := (.ite ((decide (q < ix)) = true) (.ite ((0 : Int) ≤ q ∧ q < (NA.length : Int)) (.ite ((0 : Int) ≤ ix ∧ ix < (NA.length : Int)) (.ite (((nth (row NA q) 0).str == (nth (row NA ix) 0).str) = true) (.ok (.inr (.inl (k, s, sg, bg, NA, NU, ME, BA, ct, low, high, ix))))
     (.ok (.inl (k, s, sg, bg, NA, NU, ME, BA, ct, low, high, ix, (IntKind.wrap .i64 (q + (1 : Int)))))))
    .no)
   .no)
  (.ok (.inr (.inr (k, s, sg, bg, NA, NU, ME, BA, ct, low, high, ix)))))
def qf_12_st : qf_12_σ → Tr (qf_12_σ ⊕ qf_12_ω) := fun x => (qf_12_step (x.1) (x.2.1) (x.2.2.1) (x.2.2.2.1) (x.2.2.2.2.1) (x.2.2.2.2.2.1) (x.2.2.2.2.2.2.1) (x.2.2.2.2.2.2.2.1) (x.2.2.2.2.2.2.2.2.1) (x.2.2.2.2.2.2.2.2.2.1) (x.2.2.2.2.2.2.2.2.2.2.1) (x.2.2.2.2.2.2.2.2.2.2.2.1) (x.2.2.2.2.2.2.2.2.2.2.2.2))
def qf_k12_1 (k s : Int) (sg bg : Bool) (NA NU ME BA : LL) (ct low high ix q : Int) : Bool := sumIs (qf_R12 k s sg bg NA NU ME BA ct low high ix q)
def qf_o12_2 (k s : Int) (sg bg : Bool) (NA NU ME BA : LL) (ct low high ix q : Int) : Bool := is (q = 0 ∧ 0 ≤ ix ∧ ix < (NA.length : Int) ∧ NA.length ≤ 140737488355328)
def qf_o12_3 (k s : Int) (sg bg : Bool) (NA NU ME BA : LL) (ct low high ix q : Int) : Bool := is (q = 0 ∧ 0 ≤ ix ∧ ix < (NA.length : Int) ∧ NA.length ≤ 140737488355328)
def qf_12_fin (k s : Int) (sg bg : Bool) (NA NU ME BA : LL) (ct low high ix q : Int) : Told qf_12_ω := (.br (qf_k12_1 k s sg bg NA NU ME BA ct low high ix q) (.leaf (qf_o12_2 k s sg bg NA NU ME BA ct low high ix q) (.inl (k, s, sg, bg, NA, NU, ME, BA, ct, low, high, ix))) (.leaf (qf_o12_3 k s sg bg NA NU ME BA ct low high ix q) (.inr (k, s, sg, bg, NA, NU, ME, BA, ct, low, high, ix))))
def qf_12_sl (x : qf_12_σ) : List Slot := [⟨.bx 32 [⟨.int .i64, .sh, TC.i (x.1)⟩, ⟨.int .i64, .sh, TC.i (x.2.1)⟩, ⟨.bool, .sh, TC.b (x.2.2.1)⟩, ⟨.bool, .sh, TC.b (x.2.2.2.1)⟩, ⟨.slice 9, .sh, TC.l (x.2.2.2.2.1)⟩, ⟨.slice 2, .sh, TC.l (x.2.2.2.2.2.1)⟩, ⟨.slice 71, .sh, TC.l (x.2.2.2.2.2.2.1)⟩, ⟨.slice 32, .sh, TC.l (x.2.2.2.2.2.2.2.1)⟩, ⟨.int .i64, .sh, TC.i (x.2.2.2.2.2.2.2.2.1)⟩], ⟨0, 0⟩⟩, ⟨.val false [⟨.int .i64, .sh, TC.i (x.2.2.2.2.2.2.2.2.2.1)⟩], ⟨0, 0⟩⟩, ⟨.val false [⟨.int .i64, .sh, TC.i (x.2.2.2.2.2.2.2.2.2.2.1)⟩], ⟨0, 0⟩⟩, ⟨.val false [⟨.int .i64, .sh, TC.i (x.2.2.2.2.2.2.2.2.2.2.2.1)⟩], ⟨0, 0⟩⟩, ⟨.val false [⟨.int .i64, .sh, TC.i (x.2.2.2.2.2.2.2.2.2.2.2.2)⟩], ⟨0, 0⟩⟩]
def qf_12_out : qf_12_ω → Ex × List Slot := (Sum.elim (fun x => (.ret, [⟨.bx 32 [⟨.int .i64, .sh, TC.i (x.1)⟩, ⟨.int .i64, .sh, TC.i (x.2.1)⟩, ⟨.bool, .sh, TC.b (x.2.2.1)⟩, ⟨.bool, .sh, TC.b (x.2.2.2.1)⟩, ⟨.slice 9, .sh, TC.l (x.2.2.2.2.1)⟩, ⟨.slice 2, .sh, TC.l (x.2.2.2.2.2.1)⟩, ⟨.slice 71, .sh, TC.l (x.2.2.2.2.2.2.1)⟩, ⟨.slice 32, .sh, TC.l (x.2.2.2.2.2.2.2.1)⟩, ⟨.int .i64, .sh, TC.i (x.2.2.2.2.2.2.2.2.1)⟩], ⟨0, 0⟩⟩, ⟨.val false [⟨.bool, .sh, TC.b false⟩], ⟨0, 0⟩⟩, ⟨.val false [⟨.int .i64, .sh, TC.i (x.2.2.2.2.2.2.2.2.2.1)⟩], ⟨0, 0⟩⟩, ⟨.val false [⟨.int .i64, .sh, TC.i (x.2.2.2.2.2.2.2.2.2.2.1)⟩], ⟨0, 0⟩⟩, ⟨.val false [⟨.int .i64, .sh, TC.i (x.2.2.2.2.2.2.2.2.2.2.2)⟩], ⟨0, 0⟩⟩])) (fun x => (.exit 2, [⟨.bx 32 [⟨.int .i64, .sh, TC.i (x.1)⟩, ⟨.int .i64, .sh, TC.i (x.2.1)⟩, ⟨.bool, .sh, TC.b (x.2.2.1)⟩, ⟨.bool, .sh, TC.b (x.2.2.2.1)⟩, ⟨.slice 9, .sh, TC.l (x.2.2.2.2.1)⟩, ⟨.slice 2, .sh, TC.l (x.2.2.2.2.2.1)⟩, ⟨.slice 71, .sh, TC.l (x.2.2.2.2.2.2.1)⟩, ⟨.slice 32, .sh, TC.l (x.2.2.2.2.2.2.2.1)⟩, ⟨.int .i64, .sh, TC.i (x.2.2.2.2.2.2.2.2.1)⟩], ⟨0, 0⟩⟩, Slot.none, ⟨.val false [⟨.int .i64, .sh, TC.i (x.2.2.2.2.2.2.2.2.2.1)⟩], ⟨0, 0⟩⟩, ⟨.val false [⟨.int .i64, .sh, TC.i (x.2.2.2.2.2.2.2.2.2.2.1)⟩], ⟨0, 0⟩⟩, ⟨.val false [⟨.int .i64, .sh, TC.i (x.2.2.2.2.2.2.2.2.2.2.2)⟩], ⟨0, 0⟩⟩])))
def qf_lo12 : List Slot → Option (Told (Ex × List Slot)) := fun s => match s with
  | [⟨.bx 32 [⟨.int .i64, .sh, TC.i k⟩, ⟨.int .i64, .sh, TC.i s⟩, ⟨.bool, .sh, TC.b sg⟩, ⟨.bool, .sh, TC.b bg⟩, ⟨.slice 9, .sh, TC.l NA⟩, ⟨.slice 2, .sh, TC.l NU⟩, ⟨.slice 71, .sh, TC.l ME⟩, ⟨.slice 32, .sh, TC.l BA⟩, ⟨.int .i64, .sh, TC.i ct⟩], ⟨0, 0⟩⟩, ⟨.val false [⟨.int .i64, .sh, TC.i low⟩], ⟨0, 0⟩⟩, ⟨.val false [⟨.int .i64, .sh, TC.i high⟩], ⟨0, 0⟩⟩, ⟨.val false [⟨.int .i64, .sh, TC.i ix⟩], ⟨0, 0⟩⟩, ⟨.val false [⟨.int .i64, .sh, TC.i q⟩], ⟨0, 0⟩⟩] => some (((qf_12_fin k s sg bg NA NU ME BA ct low high ix q)).map qf_12_out)
  | _ => .none
def qf_f7 (k s : Int) (sg bg : Bool) (NA NU ME BA : LL) (ct low high i : Int) : (Unit) ⊕ ((Unit) ⊕ (Unit)) := (bif (!(qs_v ((nth (row NA i) 0).str))) then (.inr (.inl ())) else (bif (!(qch_v ((nth (row NU i) 0).int) low high)) then (.inr (.inl ())) else (bif (decide (i > (0 : Int))) then (bif (decide ((nth (row NU (IntKind.wrap .i64 (i - (1 : Int)))) 0).int ≥ (nth (row NU i) 0).int)) then (.inr (.inl ())) else (bif (qf_k12_1 k s sg bg NA NU ME BA ct low high i (0 : Int)) then (.inr (.inl ())) else (.inl ()))) else (bif (qf_k12_1 k s sg bg NA NU ME BA ct low high i (0 : Int)) then (.inr (.inl ())) else (.inl ())))))
def qf_e7 (k s : Int) (sg bg : Bool) (NA NU ME BA : LL) (ct low high : Int) : (Unit) ⊕ (Unit) := .inr ()
def qf_R7 (k s : Int) (sg bg : Bool) (NA NU ME BA : LL) (ct low high i : Int) : (Unit) ⊕ (Unit) := iter (fun i a => (qf_f7 k s sg bg NA NU ME BA ct low high (i : Int))) (fun a => (qf_e7 k s sg bg NA NU ME BA ct low high)) (NA.length) 0 ()
abbrev qf_7_σ := Int × Int × Bool × Bool × LL × LL × LL × LL × Int × Int × Int × Int
abbrev qf_7_ω := (Unit) ⊕ (Unit)
def qf_7_step (k s : Int) (sg bg : Bool) (NA NU ME BA : LL) (ct low high i : Int) : Tr (qf_7_σ ⊕ qf_7_ω) := (.ite ((decide (i < (NA.length : Int))) = true) (.ite ((0 : Int) ≤ i ∧ i < (NA.length : Int)) (.ite ((qs_c ((nth (row NA i) 0).str)) = true) (.ite ((!(qs_v ((nth (row NA i) 0).str))) = true) (.ok (.inr (.inl ())))
     (.ite ((0 : Int) ≤ i ∧ i < (NU.length : Int)) (.ite ((!(qch_v ((nth (row NU i) 0).int) low high)) = true) (.ok (.inr (.inl ())))
       (.ite ((decide (i > (0 : Int))) = true) (.ite ((0 : Int) ≤ (IntKind.wrap .i64 (i - (1 : Int))) ∧ (IntKind.wrap .i64 (i - (1 : Int))) < (NU.length : Int)) (.ite ((0 : Int) ≤ i ∧ i < (NU.length : Int)) (.ite ((decide ((nth (row NU (IntKind.wrap .i64 (i - (1 : Int)))) 0).int ≥ (nth (row NU i) 0).int)) = true) (.ok (.inr (.inl ())))
           (.ite ((qf_k12_1 k s sg bg NA NU ME BA ct low high i (0 : Int)) = true) (.ite ((qf_o12_2 k s sg bg NA NU ME BA ct low high i (0 : Int)) = true) (.ok (.inr (.inl ())))
             .no)
            (.ite ((qf_o12_3 k s sg bg NA NU ME BA ct low high i (0 : Int)) = true) (.ok (.inl (k, s, sg, bg, NA, NU, ME, BA, ct, low, high, (IntKind.wrap .i64 (i + (1 : Int))))))
             .no)))
          .no)
         .no)
        (.ite ((qf_k12_1 k s sg bg NA NU ME BA ct low high i (0 : Int)) = true) (.ite ((qf_o12_2 k s sg bg NA NU ME BA ct low high i (0 : Int)) = true) (.ok (.inr (.inl ())))
          .no)
         (.ite ((qf_o12_3 k s sg bg NA NU ME BA ct low high i (0 : Int)) = true) (.ok (.inl (k, s, sg, bg, NA, NU, ME, BA, ct, low, high, (IntKind.wrap .i64 (i + (1 : Int))))))
          .no))))
      .no))
    .no)
   .no)
  (.ok (.inr (.inr ()))))
def qf_7_st : qf_7_σ → Tr (qf_7_σ ⊕ qf_7_ω) := fun x => (qf_7_step (x.1) (x.2.1) (x.2.2.1) (x.2.2.2.1) (x.2.2.2.2.1) (x.2.2.2.2.2.1) (x.2.2.2.2.2.2.1) (x.2.2.2.2.2.2.2.1) (x.2.2.2.2.2.2.2.2.1) (x.2.2.2.2.2.2.2.2.2.1) (x.2.2.2.2.2.2.2.2.2.2.1) (x.2.2.2.2.2.2.2.2.2.2.2))
def qf_k7_1 (k s : Int) (sg bg : Bool) (NA NU ME BA : LL) (ct low high i : Int) : Bool := sumIs (qf_R7 k s sg bg NA NU ME BA ct low high i)
def qf_o7_2 (k s : Int) (sg bg : Bool) (NA NU ME BA : LL) (ct low high i : Int) : Bool := is (i = 0 ∧ Typed tab (.slice 9) (.l NA) ∧ NU.length = NA.length)
def qf_o7_3 (k s : Int) (sg bg : Bool) (NA NU ME BA : LL) (ct low high i : Int) : Bool := is (i = 0 ∧ Typed tab (.slice 9) (.l NA) ∧ NU.length = NA.length)
def qf_7_fin (k s : Int) (sg bg : Bool) (NA NU ME BA : LL) (ct low high i : Int) : Told qf_7_ω := (.br (qf_k7_1 k s sg bg NA NU ME BA ct low high i) (.leaf (qf_o7_2 k s sg bg NA NU ME BA ct low high i) (.inl ())) (.leaf (qf_o7_3 k s sg bg NA NU ME BA ct low high i) (.inr ())))
def qf_7_sl (x : qf_7_σ) : List Slot := [⟨.bx 32 [⟨.int .i64, .sh, TC.i (x.1)⟩, ⟨.int .i64, .sh, TC.i (x.2.1)⟩, ⟨.bool, .sh, TC.b (x.2.2.1)⟩, ⟨.bool, .sh, TC.b (x.2.2.2.1)⟩, ⟨.slice 9, .sh, TC.l (x.2.2.2.2.1)⟩, ⟨.slice 2, .sh, TC.l (x.2.2.2.2.2.1)⟩, ⟨.slice 71, .sh, TC.l (x.2.2.2.2.2.2.1)⟩, ⟨.slice 32, .sh, TC.l (x.2.2.2.2.2.2.2.1)⟩, ⟨.int .i64, .sh, TC.i (x.2.2.2.2.2.2.2.2.1)⟩], ⟨0, 0⟩⟩, ⟨.val false [⟨.int .i64, .sh, TC.i (x.2.2.2.2.2.2.2.2.2.1)⟩], ⟨0, 0⟩⟩, ⟨.val false [⟨.int .i64, .sh, TC.i (x.2.2.2.2.2.2.2.2.2.2.1)⟩], ⟨0, 0⟩⟩, ⟨.val false [⟨.int .i64, .sh, TC.i (x.2.2.2.2.2.2.2.2.2.2.2)⟩], ⟨0, 0⟩⟩]
def qf_7_out : qf_7_ω → Ex × List Slot := (Sum.elim (fun x => (.ret, [⟨.val false [⟨.bool, .sh, TC.b false⟩], ⟨0, 0⟩⟩])) (fun x => (.exit 0, [Slot.none])))
def qf_lo7 : List Slot → Option (Told (Ex × List Slot)) := fun s => match s with
  | [⟨.bx 32 [⟨.int .i64, .sh, TC.i k⟩, ⟨.int .i64, .sh, TC.i s⟩, ⟨.bool, .sh, TC.b sg⟩, ⟨.bool, .sh, TC.b bg⟩, ⟨.slice 9, .sh, TC.l NA⟩, ⟨.slice 2, .sh, TC.l NU⟩, ⟨.slice 71, .sh, TC.l ME⟩, ⟨.slice 32, .sh, TC.l BA⟩, ⟨.int .i64, .sh, TC.i ct⟩], ⟨0, 0⟩⟩, ⟨.val false [⟨.int .i64, .sh, TC.i low⟩], ⟨0, 0⟩⟩, ⟨.val false [⟨.int .i64, .sh, TC.i high⟩], ⟨0, 0⟩⟩, ⟨.val false [⟨.int .i64, .sh, TC.i i⟩], ⟨0, 0⟩⟩] => some (((qf_7_fin k s sg bg NA NU ME BA ct low high i)).map qf_7_out)
  | _ => .none
def qf_lo : LoopTeller := fun r s => bif Nat.beq r 7 then qf_lo7 s else bif Nat.beq r 12 then qf_lo12 s else .none
theorem qf_12_r (k s : Int) (sg bg : Bool) (NA NU ME BA : LL) (ct low high ix q : Int) (fuel : Nat) : rounds (rnd tab FT D22 live 65 qf_lo 1 12) leave (fuel + 1) (qf_12_sl (k, s, sg, bg, NA, NU, ME, BA, ct, low, high, ix, q)) = ((qf_12_step k s sg bg NA NU ME BA ct low high ix q)).run (goOn (fun s => rounds (rnd tab FT D22 live 65 qf_lo 1 12) leave fuel (qf_12_sl s)) fun w => some (qf_12_out w)) := by kernel_rfl
theorem qf_f12_eq (k s : Int) (sg bg : Bool) (NA NU ME BA : LL) (ct low high : Int) (ix i : Int) : qf_f12 k s sg bg NA NU ME BA ct low high ix i = bif !(strAt NA i == strAt NA ix) then Sum.inl () else Sum.inr (Sum.inl (k, s, sg, bg, NA, NU, ME, BA, ct, low, high, ix)) := by
  unfold qf_f12 strAt
  skip
  generalize ((nth (row NA i) 0).str == (nth (row NA ix) 0).str) = p0
  cases p0 <;> rfl
theorem qf_R12_eq (k s : Int) (sg bg : Bool) (NA NU ME BA : LL) (ct low high : Int) (ix : Int)  : qf_R12 k s sg bg NA NU ME BA ct low high ix 0 = bif allI (fun i : Nat => !(strAt NA (i : Int) == strAt NA ix)) (ix.toNat) then Sum.inr (k, s, sg, bg, NA, NU, ME, BA, ct, low, high, ix) else (Sum.inl (k, s, sg, bg, NA, NU, ME, BA, ct, low, high, ix)) := by
  unfold qf_R12
  exact (iter_all (P := (fun i : Nat => !(strAt NA (i : Int) == strAt NA ix))) (g := fun _ a => a) (w := Sum.inl (k, s, sg, bg, NA, NU, ME, BA, ct, low, high, ix)) fun j a _ => qf_f12_eq k s sg bg NA NU ME BA ct low high ix _)
theorem qf_12_h (k s : Int) (sg bg : Bool) (NA NU ME BA : LL) (ct low high ix q : Int) (ow : qf_12_ω) : ((qf_12_fin k s sg bg NA NU ME BA ct low high ix q)).val = some ow → ∃ fuel, loopN qf_12_st fuel (k, s, sg, bg, NA, NU, ME, BA, ct, low, high, ix, q) = some ow := by
  refine auto_const (R := (qf_R12 k s sg bg NA NU ME BA ct low high ix q)) rfl (iter_onR (f := (fun i a => (qf_f12 k s sg bg NA NU ME BA ct low high ix (i : Int)))) (fin := (fun a => (qf_e12 k s sg bg NA NU ME BA ct low high ix))) (Q := endsAs (k, s, sg, bg, NA, NU, ME, BA, ct, low, high, ix) (k, s, sg, bg, NA, NU, ME, BA, ct, low, high, ix)) (fun i a => by unfold qf_f12; exact (onR_bif rfl trivial)) (fun _ => rfl) _ _ _) ?_
  intro ho
  have ho : is (q = 0 ∧ 0 ≤ ix ∧ ix < (NA.length : Int) ∧ NA.length ≤ 140737488355328) = true := ho.elim id id
  obtain ⟨rfl, h0, h1, h2⟩ := is_iff.1 ho
  skip
  refine ⟨(ix.toNat) + 1, ?_⟩
  refine iter_loop (step := qf_12_st) (ix.toNat) (fun i a => (qf_f12 k s sg bg NA NU ME BA ct low high ix (i : Int))) (fun a => (qf_e12 k s sg bg NA NU ME BA ct low high ix)) (fun i a => (k, s, sg, bg, NA, NU, ME, BA, ct, low, high, ix, (i : Int))) (fun _ _ => True) trivial (fun i a hi hI => ⟨?_, fun _ _ => trivial⟩) (fun a hI => ?_)
  · show (qf_12_step k s sg bg NA NU ME BA ct low high ix (i : Int)).val = _
    unfold qf_12_step qf_f12
    skip
    refine Tr.t (by simp; omega) ?_
    exact (Tr.t (by first | omega | (constructor <;> omega)) (Tr.t (by first | omega | (constructor <;> omega)) (Tr.bf rfl (by rw [Tr.val_ok, wrap64 (i := (i : Int) + 1) (by omega) (by omega)]; rfl))))
  · show (qf_12_step k s sg bg NA NU ME BA ct low high ix (ix.toNat : Int)).val = _
    refine Tr.n (by first | (simp; done) | (simp; omega) | omega) ?_
    rfl
theorem qf_is12 : LoopIs tab FT D22 live 65 qf_lo 1 12 := by
  refine loop_told (sl := qf_12_sl) (step := qf_12_st) (out := qf_12_out) (lor := qf_lo12) (fin := fun x => (qf_12_fin (x.1) (x.2.1) (x.2.2.1) (x.2.2.2.1) (x.2.2.2.2.1) (x.2.2.2.2.2.1) (x.2.2.2.2.2.2.1) (x.2.2.2.2.2.2.2.1) (x.2.2.2.2.2.2.2.2.1) (x.2.2.2.2.2.2.2.2.2.1) (x.2.2.2.2.2.2.2.2.2.2.1) (x.2.2.2.2.2.2.2.2.2.2.2.1) (x.2.2.2.2.2.2.2.2.2.2.2.2))) (fun _ => rfl) ?_ (fun x n => qf_12_r x.1 x.2.1 x.2.2.1 x.2.2.2.1 x.2.2.2.2.1 x.2.2.2.2.2.1 x.2.2.2.2.2.2.1 x.2.2.2.2.2.2.2.1 x.2.2.2.2.2.2.2.2.1 x.2.2.2.2.2.2.2.2.2.1 x.2.2.2.2.2.2.2.2.2.2.1 x.2.2.2.2.2.2.2.2.2.2.2.1 x.2.2.2.2.2.2.2.2.2.2.2.2 n) (fun x ow => qf_12_h x.1 x.2.1 x.2.2.1 x.2.2.2.1 x.2.2.2.2.1 x.2.2.2.2.2.1 x.2.2.2.2.2.2.1 x.2.2.2.2.2.2.2.1 x.2.2.2.2.2.2.2.2.1 x.2.2.2.2.2.2.2.2.2.1 x.2.2.2.2.2.2.2.2.2.2.1 x.2.2.2.2.2.2.2.2.2.2.2.1 x.2.2.2.2.2.2.2.2.2.2.2.2 ow)
  intro s t h
  unfold qf_lo12 at h
  split at h
  · cases h; exact ⟨(_, _, _, _, _, _, _, _, _, _, _, _, _), rfl, rfl⟩
  · cases h
theorem qf_7_r (k s : Int) (sg bg : Bool) (NA NU ME BA : LL) (ct low high i : Int) (fuel : Nat) : rounds (rnd tab FT D22 live 65 qf_lo 0 7) leave (fuel + 1) (qf_7_sl (k, s, sg, bg, NA, NU, ME, BA, ct, low, high, i)) = ((qf_7_step k s sg bg NA NU ME BA ct low high i)).run (goOn (fun s => rounds (rnd tab FT D22 live 65 qf_lo 0 7) leave fuel (qf_7_sl s)) fun w => some (qf_7_out w)) := by kernel_rfl
theorem qf_f7_eq (k s : Int) (sg bg : Bool) (NA NU ME BA : LL) (ct low high : Int) (i : Int) : qf_f7 k s sg bg NA NU ME BA ct low high i = bif enumP NA NU low high i then Sum.inl () else Sum.inr (Sum.inl ()) := by
  unfold qf_f7 enumP ascB strAt intAt
  rw [show qf_k12_1 k s sg bg NA NU ME BA ct low high i 0 = !(noDupN NA i) from by unfold qf_k12_1 noDupN; rw [qf_R12_eq]; generalize allI _ _ = q; cases q <;> rfl]
  rw [show qch_v (nth (row NU i) 0).int low high = inB (nth (row NU i) 0).int low high from rfl, qs_vv]
  generalize nameOk (nth (row NA i) 0).str = p0, inB (nth (row NU i) 0).int low high = p1, decide (i > 0) = p2, decide ((nth (row NU (IntKind.wrap .i64 (i - (1 : Int)))) 0).int ≥ (nth (row NU i) 0).int) = p3, noDupN NA i = p4
  cases p0 <;> cases p1 <;> cases p2 <;> cases p3 <;> cases p4 <;> rfl
theorem qf_R7_eq (k s : Int) (sg bg : Bool) (NA NU ME BA : LL) (ct low high : Int)  : qf_R7 k s sg bg NA NU ME BA ct low high 0 = bif allI (fun i : Nat => enumP NA NU low high (i : Int)) (NA.length) then Sum.inr () else (Sum.inl ()) := by
  unfold qf_R7
  exact (iter_all (P := (fun i : Nat => enumP NA NU low high (i : Int))) (g := fun _ a => a) (w := Sum.inl ()) fun j a _ => qf_f7_eq k s sg bg NA NU ME BA ct low high _)
theorem qf_7_h (k s : Int) (sg bg : Bool) (NA NU ME BA : LL) (ct low high i : Int) (ow : qf_7_ω) : ((qf_7_fin k s sg bg NA NU ME BA ct low high i)).val = some ow → ∃ fuel, loopN qf_7_st fuel (k, s, sg, bg, NA, NU, ME, BA, ct, low, high, i) = some ow := by
  refine auto_const (R := (qf_R7 k s sg bg NA NU ME BA ct low high i)) rfl (iter_onR (f := (fun i a => (qf_f7 k s sg bg NA NU ME BA ct low high (i : Int)))) (fin := (fun a => (qf_e7 k s sg bg NA NU ME BA ct low high))) (Q := endsAs () ()) (fun i a => by unfold qf_f7; exact (onR_bif rfl (onR_bif rfl (onR_bif (onR_bif rfl (onR_bif rfl trivial)) (onR_bif rfl trivial))))) (fun _ => rfl) _ _ _) ?_
  intro ho
  have ho : is (i = 0 ∧ Typed tab (.slice 9) (.l NA) ∧ NU.length = NA.length) = true := ho.elim id id
  obtain ⟨rfl, ht, hU⟩ := is_iff.1 ho
  have hlen : NA.length ≤ 140737488351232 := by have := typed_room ht; simp only [show (tab 9).bytes = 16 from rfl] at this; omega
  refine ⟨(NA.length) + 1, ?_⟩
  refine iter_loop (step := qf_7_st) (NA.length) (fun i a => (qf_f7 k s sg bg NA NU ME BA ct low high (i : Int))) (fun a => (qf_e7 k s sg bg NA NU ME BA ct low high)) (fun i a => (k, s, sg, bg, NA, NU, ME, BA, ct, low, high, (i : Int))) (fun _ _ => True) trivial (fun i a hi hI => ⟨?_, fun _ _ => trivial⟩) (fun a hI => ?_)
  · show (qf_7_step k s sg bg NA NU ME BA ct low high (i : Int)).val = _
    unfold qf_7_step qf_f7
    have c0 : Typed tab (.str) (.s (nth (NA.getD i []) 0).str) := typed_s (typed_cell ht (NA.getD i []) (mem_getD hi) 0 (by decide))
    refine Tr.t (by simp; omega) ?_
    exact (Tr.t (by first | omega | (constructor <;> omega) | (exact is_true ⟨rfl, by omega, by omega, by omega⟩) | (simp only [decide_eq_true_eq] at *; rw [wrap64 (by omega) (by omega)]; constructor <;> omega)) (Tr.t (by first | (exact is_true ⟨rfl, by omega, by omega, by omega⟩) | (simp only [decide_eq_true_eq] at *; rw [wrap64 (by omega) (by omega)]; constructor <;> omega) | (first | (apply qs_cc <;> assumption) | (first | (apply is_true; and_intros <;> (first | rfl | assumption | (apply qj_cc <;> assumption) | (apply qbh_cc <;> assumption) | (apply qm_cc <;> assumption) | (apply qt_cc <;> assumption) | (apply qx_cc <;> assumption) | (apply qbb_cc <;> assumption) | (apply qs_cc <;> assumption) | (first | (apply is_true; and_intros <;> (first | rfl | assumption | (apply qj_cc <;> assumption) | (apply qbh_cc <;> assumption) | (apply qm_cc <;> assumption) | (apply qt_cc <;> assumption) | (apply qx_cc <;> assumption) | (apply qbb_cc <;> assumption) | (apply qs_cc <;> assumption))) | (apply qj_cc <;> assumption) | (apply qbh_cc <;> assumption) | (apply qm_cc <;> assumption) | (apply qt_cc <;> assumption) | (apply qx_cc <;> assumption) | (apply qbb_cc <;> assumption) | (apply qs_cc <;> assumption)))) | (apply qj_cc <;> assumption) | (apply qbh_cc <;> assumption) | (apply qm_cc <;> assumption) | (apply qt_cc <;> assumption) | (apply qx_cc <;> assumption) | (apply qbb_cc <;> assumption) | (apply qs_cc <;> assumption)))) (Tr.bh (fun _ => rfl) (fun _ => (Tr.t (by first | omega | (constructor <;> omega) | (exact is_true ⟨rfl, by omega, by omega, by omega⟩) | (simp only [decide_eq_true_eq] at *; rw [wrap64 (by omega) (by omega)]; constructor <;> omega)) (Tr.bh (fun _ => rfl) (fun _ => (Tr.bh (fun _ => (Tr.t (by first | omega | (constructor <;> omega) | (exact is_true ⟨rfl, by omega, by omega, by omega⟩) | (simp only [decide_eq_true_eq] at *; rw [wrap64 (by omega) (by omega)]; constructor <;> omega)) (Tr.t (by first | omega | (constructor <;> omega) | (exact is_true ⟨rfl, by omega, by omega, by omega⟩) | (simp only [decide_eq_true_eq] at *; rw [wrap64 (by omega) (by omega)]; constructor <;> omega)) (Tr.bh (fun _ => rfl) (fun _ => (Tr.bh (fun _ => (Tr.t (by first | (exact is_true ⟨rfl, by omega, by omega, by omega⟩) | (simp only [decide_eq_true_eq] at *; rw [wrap64 (by omega) (by omega)]; constructor <;> omega) | (first | (apply is_true; and_intros <;> (first | rfl | assumption | (apply qj_cc <;> assumption) | (apply qbh_cc <;> assumption) | (apply qm_cc <;> assumption) | (apply qt_cc <;> assumption) | (apply qx_cc <;> assumption) | (apply qbb_cc <;> assumption) | (apply qs_cc <;> assumption) | (first | (apply is_true; and_intros <;> (first | rfl | assumption | (apply qj_cc <;> assumption) | (apply qbh_cc <;> assumption) | (apply qm_cc <;> assumption) | (apply qt_cc <;> assumption) | (apply qx_cc <;> assumption) | (apply qbb_cc <;> assumption) | (apply qs_cc <;> assumption) | (first | (apply is_true; and_intros <;> (first | rfl | assumption | (apply qj_cc <;> assumption) | (apply qbh_cc <;> assumption) | (apply qm_cc <;> assumption) | (apply qt_cc <;> assumption) | (apply qx_cc <;> assumption) | (apply qbb_cc <;> assumption) | (apply qs_cc <;> assumption))) | (apply qj_cc <;> assumption) | (apply qbh_cc <;> assumption) | (apply qm_cc <;> assumption) | (apply qt_cc <;> assumption) | (apply qx_cc <;> assumption) | (apply qbb_cc <;> assumption) | (apply qs_cc <;> assumption)))) | (apply qj_cc <;> assumption) | (apply qbh_cc <;> assumption) | (apply qm_cc <;> assumption) | (apply qt_cc <;> assumption) | (apply qx_cc <;> assumption) | (apply qbb_cc <;> assumption) | (apply qs_cc <;> assumption)))) | (apply qj_cc <;> assumption) | (apply qbh_cc <;> assumption) | (apply qm_cc <;> assumption) | (apply qt_cc <;> assumption) | (apply qx_cc <;> assumption) | (apply qbb_cc <;> assumption) | (apply qs_cc <;> assumption))) rfl)) (fun _ => (Tr.t (by first | (exact is_true ⟨rfl, by omega, by omega, by omega⟩) | (simp only [decide_eq_true_eq] at *; rw [wrap64 (by omega) (by omega)]; constructor <;> omega) | (first | (apply is_true; and_intros <;> (first | rfl | assumption | (apply qj_cc <;> assumption) | (apply qbh_cc <;> assumption) | (apply qm_cc <;> assumption) | (apply qt_cc <;> assumption) | (apply qx_cc <;> assumption) | (apply qbb_cc <;> assumption) | (apply qs_cc <;> assumption) | (first | (apply is_true; and_intros <;> (first | rfl | assumption | (apply qj_cc <;> assumption) | (apply qbh_cc <;> assumption) | (apply qm_cc <;> assumption) | (apply qt_cc <;> assumption) | (apply qx_cc <;> assumption) | (apply qbb_cc <;> assumption) | (apply qs_cc <;> assumption) | (first | (apply is_true; and_intros <;> (first | rfl | assumption | (apply qj_cc <;> assumption) | (apply qbh_cc <;> assumption) | (apply qm_cc <;> assumption) | (apply qt_cc <;> assumption) | (apply qx_cc <;> assumption) | (apply qbb_cc <;> assumption) | (apply qs_cc <;> assumption))) | (apply qj_cc <;> assumption) | (apply qbh_cc <;> assumption) | (apply qm_cc <;> assumption) | (apply qt_cc <;> assumption) | (apply qx_cc <;> assumption) | (apply qbb_cc <;> assumption) | (apply qs_cc <;> assumption)))) | (apply qj_cc <;> assumption) | (apply qbh_cc <;> assumption) | (apply qm_cc <;> assumption) | (apply qt_cc <;> assumption) | (apply qx_cc <;> assumption) | (apply qbb_cc <;> assumption) | (apply qs_cc <;> assumption)))) | (apply qj_cc <;> assumption) | (apply qbh_cc <;> assumption) | (apply qm_cc <;> assumption) | (apply qt_cc <;> assumption) | (apply qx_cc <;> assumption) | (apply qbb_cc <;> assumption) | (apply qs_cc <;> assumption))) (by rw [Tr.val_ok, wrap64 (i := (i : Int) + 1) (by omega) (by omega)]; rfl))))))))) (fun _ => (Tr.bh (fun _ => (Tr.t (by first | (exact is_true ⟨rfl, by omega, by omega, by omega⟩) | (simp only [decide_eq_true_eq] at *; rw [wrap64 (by omega) (by omega)]; constructor <;> omega) | (first | (apply is_true; and_intros <;> (first | rfl | assumption | (apply qj_cc <;> assumption) | (apply qbh_cc <;> assumption) | (apply qm_cc <;> assumption) | (apply qt_cc <;> assumption) | (apply qx_cc <;> assumption) | (apply qbb_cc <;> assumption) | (apply qs_cc <;> assumption) | (first | (apply is_true; and_intros <;> (first | rfl | assumption | (apply qj_cc <;> assumption) | (apply qbh_cc <;> assumption) | (apply qm_cc <;> assumption) | (apply qt_cc <;> assumption) | (apply qx_cc <;> assumption) | (apply qbb_cc <;> assumption) | (apply qs_cc <;> assumption) | (first | (apply is_true; and_intros <;> (first | rfl | assumption | (apply qj_cc <;> assumption) | (apply qbh_cc <;> assumption) | (apply qm_cc <;> assumption) | (apply qt_cc <;> assumption) | (apply qx_cc <;> assumption) | (apply qbb_cc <;> assumption) | (apply qs_cc <;> assumption))) | (apply qj_cc <;> assumption) | (apply qbh_cc <;> assumption) | (apply qm_cc <;> assumption) | (apply qt_cc <;> assumption) | (apply qx_cc <;> assumption) | (apply qbb_cc <;> assumption) | (apply qs_cc <;> assumption)))) | (apply qj_cc <;> assumption) | (apply qbh_cc <;> assumption) | (apply qm_cc <;> assumption) | (apply qt_cc <;> assumption) | (apply qx_cc <;> assumption) | (apply qbb_cc <;> assumption) | (apply qs_cc <;> assumption)))) | (apply qj_cc <;> assumption) | (apply qbh_cc <;> assumption) | (apply qm_cc <;> assumption) | (apply qt_cc <;> assumption) | (apply qx_cc <;> assumption) | (apply qbb_cc <;> assumption) | (apply qs_cc <;> assumption))) rfl)) (fun _ => (Tr.t (by first | (exact is_true ⟨rfl, by omega, by omega, by omega⟩) | (simp only [decide_eq_true_eq] at *; rw [wrap64 (by omega) (by omega)]; constructor <;> omega) | (first | (apply is_true; and_intros <;> (first | rfl | assumption | (apply qj_cc <;> assumption) | (apply qbh_cc <;> assumption) | (apply qm_cc <;> assumption) | (apply qt_cc <;> assumption) | (apply qx_cc <;> assumption) | (apply qbb_cc <;> assumption) | (apply qs_cc <;> assumption) | (first | (apply is_true; and_intros <;> (first | rfl | assumption | (apply qj_cc <;> assumption) | (apply qbh_cc <;> assumption) | (apply qm_cc <;> assumption) | (apply qt_cc <;> assumption) | (apply qx_cc <;> assumption) | (apply qbb_cc <;> assumption) | (apply qs_cc <;> assumption) | (first | (apply is_true; and_intros <;> (first | rfl | assumption | (apply qj_cc <;> assumption) | (apply qbh_cc <;> assumption) | (apply qm_cc <;> assumption) | (apply qt_cc <;> assumption) | (apply qx_cc <;> assumption) | (apply qbb_cc <;> assumption) | (apply qs_cc <;> assumption))) | (apply qj_cc <;> assumption) | (apply qbh_cc <;> assumption) | (apply qm_cc <;> assumption) | (apply qt_cc <;> assumption) | (apply qx_cc <;> assumption) | (apply qbb_cc <;> assumption) | (apply qs_cc <;> assumption)))) | (apply qj_cc <;> assumption) | (apply qbh_cc <;> assumption) | (apply qm_cc <;> assumption) | (apply qt_cc <;> assumption) | (apply qx_cc <;> assumption) | (apply qbb_cc <;> assumption) | (apply qs_cc <;> assumption)))) | (apply qj_cc <;> assumption) | (apply qbh_cc <;> assumption) | (apply qm_cc <;> assumption) | (apply qt_cc <;> assumption) | (apply qx_cc <;> assumption) | (apply qbb_cc <;> assumption) | (apply qs_cc <;> assumption))) (by rw [Tr.val_ok, wrap64 (i := (i : Int) + 1) (by omega) (by omega)]; rfl)))))))))))))
  · show (qf_7_step k s sg bg NA NU ME BA ct low high (NA.length : Int)).val = _
    refine Tr.n (by first | (simp; done) | (simp; omega) | omega) ?_
    rfl
theorem qf_is7 : LoopIs tab FT D22 live 65 qf_lo 0 7 := by
  refine loop_told (sl := qf_7_sl) (step := qf_7_st) (out := qf_7_out) (lor := qf_lo7) (fin := fun x => (qf_7_fin (x.1) (x.2.1) (x.2.2.1) (x.2.2.2.1) (x.2.2.2.2.1) (x.2.2.2.2.2.1) (x.2.2.2.2.2.2.1) (x.2.2.2.2.2.2.2.1) (x.2.2.2.2.2.2.2.2.1) (x.2.2.2.2.2.2.2.2.2.1) (x.2.2.2.2.2.2.2.2.2.2.1) (x.2.2.2.2.2.2.2.2.2.2.2))) (fun _ => rfl) ?_ (fun x n => qf_7_r x.1 x.2.1 x.2.2.1 x.2.2.2.1 x.2.2.2.2.1 x.2.2.2.2.2.1 x.2.2.2.2.2.2.1 x.2.2.2.2.2.2.2.1 x.2.2.2.2.2.2.2.2.1 x.2.2.2.2.2.2.2.2.2.1 x.2.2.2.2.2.2.2.2.2.2.1 x.2.2.2.2.2.2.2.2.2.2.2 n) (fun x ow => qf_7_h x.1 x.2.1 x.2.2.1 x.2.2.2.1 x.2.2.2.2.1 x.2.2.2.2.2.1 x.2.2.2.2.2.2.1 x.2.2.2.2.2.2.2.1 x.2.2.2.2.2.2.2.2.1 x.2.2.2.2.2.2.2.2.2.1 x.2.2.2.2.2.2.2.2.2.2.1 x.2.2.2.2.2.2.2.2.2.2.2 ow)
  intro s t h
  unfold qf_lo7 at h
  split at h
  · cases h; exact ⟨(_, _, _, _, _, _, _, _, _, _, _, _), rfl, rfl⟩
  · cases h
def qf_t (k s : Int) (sg bg : Bool) (NA NU ME BA : LL) (ct : Int) : Tr (Bool) := (.ite ((!(s == (0 : Int))) = true) (.ok false)
  (.ite ((!(qbp_v k s sg bg NA NU ME BA ct)) = true) (.ok false)
   (.ite ((decide ((ME.length : Int) > (0 : Int))) = true) (.ok false)
    (.ite ((!(ct == (0 : Int))) = true) (.ok false)
     (.ite ((!((BA.length : Int) == (1 : Int))) = true) (.ok false)
      (.ite ((0 : Int) ≤ (0 : Int) ∧ (0 : Int) < (BA.length : Int)) (.ite ((!((nth (row BA (0 : Int)) 0).int == (1 : Int))) = true) (.ok false)
        (.ite ((0 : Int) ≤ (0 : Int) ∧ (0 : Int) < (BA.length : Int)) (.ite ((!(qck_v ((nth (row BA (0 : Int)) 0).int) ((nth (row BA (0 : Int)) 1).int) ((nth (row BA (0 : Int)) 2).bool) ((nth (row BA (0 : Int)) 3).bool) ((nth (row BA (0 : Int)) 4).list) ((nth (row BA (0 : Int)) 5).list) ((nth (row BA (0 : Int)) 6).list) ((nth (row BA (0 : Int)) 7).list) ((nth (row BA (0 : Int)) 8).int))) = true) (.ok false)
          (.ite ((decide ((NA.length : Int) < (1 : Int))) = true) (.ok false)
           (.ite ((decide ((NA.length : Int) > (6 : Int))) = true) (.ok false)
            (.ite ((!((NU.length : Int) == (NA.length : Int))) = true) (.ok false)
             (.ite ((0 : Int) ≤ (0 : Int) ∧ (0 : Int) < (BA.length : Int)) (.ite ((qbb_c ((nth (row BA (0 : Int)) 0).int) ((nth (row BA (0 : Int)) 1).int) ((nth (row BA (0 : Int)) 2).bool) ((nth (row BA (0 : Int)) 3).bool) ((nth (row BA (0 : Int)) 4).list) ((nth (row BA (0 : Int)) 5).list) ((nth (row BA (0 : Int)) 6).list) ((nth (row BA (0 : Int)) 7).list) ((nth (row BA (0 : Int)) 8).int)) = true) (.ite ((qf_k7_1 k s sg bg NA NU ME BA ct ((qbb_v ((nth (row BA (0 : Int)) 0).int) ((nth (row BA (0 : Int)) 1).int) ((nth (row BA (0 : Int)) 2).bool) ((nth (row BA (0 : Int)) 3).bool) ((nth (row BA (0 : Int)) 4).list) ((nth (row BA (0 : Int)) 5).list) ((nth (row BA (0 : Int)) 6).list) ((nth (row BA (0 : Int)) 7).list) ((nth (row BA (0 : Int)) 8).int)).1) ((qbb_v ((nth (row BA (0 : Int)) 0).int) ((nth (row BA (0 : Int)) 1).int) ((nth (row BA (0 : Int)) 2).bool) ((nth (row BA (0 : Int)) 3).bool) ((nth (row BA (0 : Int)) 4).list) ((nth (row BA (0 : Int)) 5).list) ((nth (row BA (0 : Int)) 6).list) ((nth (row BA (0 : Int)) 7).list) ((nth (row BA (0 : Int)) 8).int)).2) (0 : Int)) = true) (.ite ((qf_o7_2 k s sg bg NA NU ME BA ct ((qbb_v ((nth (row BA (0 : Int)) 0).int) ((nth (row BA (0 : Int)) 1).int) ((nth (row BA (0 : Int)) 2).bool) ((nth (row BA (0 : Int)) 3).bool) ((nth (row BA (0 : Int)) 4).list) ((nth (row BA (0 : Int)) 5).list) ((nth (row BA (0 : Int)) 6).list) ((nth (row BA (0 : Int)) 7).list) ((nth (row BA (0 : Int)) 8).int)).1) ((qbb_v ((nth (row BA (0 : Int)) 0).int) ((nth (row BA (0 : Int)) 1).int) ((nth (row BA (0 : Int)) 2).bool) ((nth (row BA (0 : Int)) 3).bool) ((nth (row BA (0 : Int)) 4).list) ((nth (row BA (0 : Int)) 5).list) ((nth (row BA (0 : Int)) 6).list) ((nth (row BA (0 : Int)) 7).list) ((nth (row BA (0 : Int)) 8).int)).2) (0 : Int)) = true) (.ok false)
                 .no)
                (.ite ((qf_o7_3 k s sg bg NA NU ME BA ct ((qbb_v ((nth (row BA (0 : Int)) 0).int) ((nth (row BA (0 : Int)) 1).int) ((nth (row BA (0 : Int)) 2).bool) ((nth (row BA (0 : Int)) 3).bool) ((nth (row BA (0 : Int)) 4).list) ((nth (row BA (0 : Int)) 5).list) ((nth (row BA (0 : Int)) 6).list) ((nth (row BA (0 : Int)) 7).list) ((nth (row BA (0 : Int)) 8).int)).1) ((qbb_v ((nth (row BA (0 : Int)) 0).int) ((nth (row BA (0 : Int)) 1).int) ((nth (row BA (0 : Int)) 2).bool) ((nth (row BA (0 : Int)) 3).bool) ((nth (row BA (0 : Int)) 4).list) ((nth (row BA (0 : Int)) 5).list) ((nth (row BA (0 : Int)) 6).list) ((nth (row BA (0 : Int)) 7).list) ((nth (row BA (0 : Int)) 8).int)).2) (0 : Int)) = true) (.ok true)
                 .no))
               .no)
              .no)))))
         .no))
       .no))))))
def qf_mk (p : Bool) : Res := [(false, [⟨.bool, .sh, TC.b p⟩])]
def qf_c (k s : Int) (sg bg : Bool) (NA NU ME BA : LL) (ct : Int) : Bool := (bif (!(s == (0 : Int))) then true else (bif (!(qbp_v k s sg bg NA NU ME BA ct)) then true else (bif (decide ((ME.length : Int) > (0 : Int))) then true else (bif (!(ct == (0 : Int))) then true else (bif (!((BA.length : Int) == (1 : Int))) then true else (is ((0 : Int) ≤ (0 : Int) ∧ (0 : Int) < (BA.length : Int)) && (bif (!((nth (row BA (0 : Int)) 0).int == (1 : Int))) then true else (is ((0 : Int) ≤ (0 : Int) ∧ (0 : Int) < (BA.length : Int)) && (bif (!(qck_v ((nth (row BA (0 : Int)) 0).int) ((nth (row BA (0 : Int)) 1).int) ((nth (row BA (0 : Int)) 2).bool) ((nth (row BA (0 : Int)) 3).bool) ((nth (row BA (0 : Int)) 4).list) ((nth (row BA (0 : Int)) 5).list) ((nth (row BA (0 : Int)) 6).list) ((nth (row BA (0 : Int)) 7).list) ((nth (row BA (0 : Int)) 8).int))) then true else (bif (decide ((NA.length : Int) < (1 : Int))) then true else (bif (decide ((NA.length : Int) > (6 : Int))) then true else (bif (!((NU.length : Int) == (NA.length : Int))) then true else (is ((0 : Int) ≤ (0 : Int) ∧ (0 : Int) < (BA.length : Int)) && ((qbb_c ((nth (row BA (0 : Int)) 0).int) ((nth (row BA (0 : Int)) 1).int) ((nth (row BA (0 : Int)) 2).bool) ((nth (row BA (0 : Int)) 3).bool) ((nth (row BA (0 : Int)) 4).list) ((nth (row BA (0 : Int)) 5).list) ((nth (row BA (0 : Int)) 6).list) ((nth (row BA (0 : Int)) 7).list) ((nth (row BA (0 : Int)) 8).int)) && (bif (qf_k7_1 k s sg bg NA NU ME BA ct ((qbb_v ((nth (row BA (0 : Int)) 0).int) ((nth (row BA (0 : Int)) 1).int) ((nth (row BA (0 : Int)) 2).bool) ((nth (row BA (0 : Int)) 3).bool) ((nth (row BA (0 : Int)) 4).list) ((nth (row BA (0 : Int)) 5).list) ((nth (row BA (0 : Int)) 6).list) ((nth (row BA (0 : Int)) 7).list) ((nth (row BA (0 : Int)) 8).int)).1) ((qbb_v ((nth (row BA (0 : Int)) 0).int) ((nth (row BA (0 : Int)) 1).int) ((nth (row BA (0 : Int)) 2).bool) ((nth (row BA (0 : Int)) 3).bool) ((nth (row BA (0 : Int)) 4).list) ((nth (row BA (0 : Int)) 5).list) ((nth (row BA (0 : Int)) 6).list) ((nth (row BA (0 : Int)) 7).list) ((nth (row BA (0 : Int)) 8).int)).2) (0 : Int)) then ((qf_o7_2 k s sg bg NA NU ME BA ct ((qbb_v ((nth (row BA (0 : Int)) 0).int) ((nth (row BA (0 : Int)) 1).int) ((nth (row BA (0 : Int)) 2).bool) ((nth (row BA (0 : Int)) 3).bool) ((nth (row BA (0 : Int)) 4).list) ((nth (row BA (0 : Int)) 5).list) ((nth (row BA (0 : Int)) 6).list) ((nth (row BA (0 : Int)) 7).list) ((nth (row BA (0 : Int)) 8).int)).1) ((qbb_v ((nth (row BA (0 : Int)) 0).int) ((nth (row BA (0 : Int)) 1).int) ((nth (row BA (0 : Int)) 2).bool) ((nth (row BA (0 : Int)) 3).bool) ((nth (row BA (0 : Int)) 4).list) ((nth (row BA (0 : Int)) 5).list) ((nth (row BA (0 : Int)) 6).list) ((nth (row BA (0 : Int)) 7).list) ((nth (row BA (0 : Int)) 8).int)).2) (0 : Int)) && true) else ((qf_o7_3 k s sg bg NA NU ME BA ct ((qbb_v ((nth (row BA (0 : Int)) 0).int) ((nth (row BA (0 : Int)) 1).int) ((nth (row BA (0 : Int)) 2).bool) ((nth (row BA (0 : Int)) 3).bool) ((nth (row BA (0 : Int)) 4).list) ((nth (row BA (0 : Int)) 5).list) ((nth (row BA (0 : Int)) 6).list) ((nth (row BA (0 : Int)) 7).list) ((nth (row BA (0 : Int)) 8).int)).1) ((qbb_v ((nth (row BA (0 : Int)) 0).int) ((nth (row BA (0 : Int)) 1).int) ((nth (row BA (0 : Int)) 2).bool) ((nth (row BA (0 : Int)) 3).bool) ((nth (row BA (0 : Int)) 4).list) ((nth (row BA (0 : Int)) 5).list) ((nth (row BA (0 : Int)) 6).list) ((nth (row BA (0 : Int)) 7).list) ((nth (row BA (0 : Int)) 8).int)).2) (0 : Int)) && true))))))))))))))))
def qf_v (k s : Int) (sg bg : Bool) (NA NU ME BA : LL) (ct : Int) : Bool := (bif (!(s == (0 : Int))) then false else (bif (!(qbp_v k s sg bg NA NU ME BA ct)) then false else (bif (decide ((ME.length : Int) > (0 : Int))) then false else (bif (!(ct == (0 : Int))) then false else (bif (!((BA.length : Int) == (1 : Int))) then false else (bif (!((nth (row BA (0 : Int)) 0).int == (1 : Int))) then false else (bif (!(qck_v ((nth (row BA (0 : Int)) 0).int) ((nth (row BA (0 : Int)) 1).int) ((nth (row BA (0 : Int)) 2).bool) ((nth (row BA (0 : Int)) 3).bool) ((nth (row BA (0 : Int)) 4).list) ((nth (row BA (0 : Int)) 5).list) ((nth (row BA (0 : Int)) 6).list) ((nth (row BA (0 : Int)) 7).list) ((nth (row BA (0 : Int)) 8).int))) then false else (bif (decide ((NA.length : Int) < (1 : Int))) then false else (bif (decide ((NA.length : Int) > (6 : Int))) then false else (bif (!((NU.length : Int) == (NA.length : Int))) then false else (bif (qf_k7_1 k s sg bg NA NU ME BA ct ((qbb_v ((nth (row BA (0 : Int)) 0).int) ((nth (row BA (0 : Int)) 1).int) ((nth (row BA (0 : Int)) 2).bool) ((nth (row BA (0 : Int)) 3).bool) ((nth (row BA (0 : Int)) 4).list) ((nth (row BA (0 : Int)) 5).list) ((nth (row BA (0 : Int)) 6).list) ((nth (row BA (0 : Int)) 7).list) ((nth (row BA (0 : Int)) 8).int)).1) ((qbb_v ((nth (row BA (0 : Int)) 0).int) ((nth (row BA (0 : Int)) 1).int) ((nth (row BA (0 : Int)) 2).bool) ((nth (row BA (0 : Int)) 3).bool) ((nth (row BA (0 : Int)) 4).list) ((nth (row BA (0 : Int)) 5).list) ((nth (row BA (0 : Int)) 6).list) ((nth (row BA (0 : Int)) 7).list) ((nth (row BA (0 : Int)) 8).int)).2) (0 : Int)) then false else true)))))))))))
theorem qf_l (k s : Int) (sg bg : Bool) (NA NU ME BA : LL) (ct : Int) : (qf_c k s sg bg NA NU ME BA ct) = true → (qf_t k s sg bg NA NU ME BA ct).val = some (qf_v k s sg bg NA NU ME BA ct) := by
  unfold qf_t qf_v qf_c
  intro h
  repeat' first | refine Tr.gb h fun h => ?_ | refine Tr.gs h fun h => ?_ | refine Tr.ss h (fun h => ?_) fun h => ?_ | exact rfl
def qf_S : List Arg → Option (Bool × Res) := fun xs => match xs with
  | [(true, [(.int .i64, TC.i k), (.int .i64, TC.i s), (.bool, TC.b sg), (.bool, TC.b bg), (.slice 9, TC.l NA), (.slice 2, TC.l NU), (.slice 71, TC.l ME), (.slice 32, TC.l BA), (.int .i64, TC.i ct)])] => some ((qf_c k s sg bg NA NU ME BA ct), qf_mk (qf_v k s sg bg NA NU ME BA ct))
  | _ => .none
theorem qf_e (k s : Int) (sg bg : Bool) (NA NU ME BA : LL) (ct : Int) : runF tab FT D22 live 65 qf_lo [(true, [(.int .i64, TC.i k), (.int .i64, TC.i s), (.bool, TC.b sg), (.bool, TC.b bg), (.slice 9, TC.l NA), (.slice 2, TC.l NU), (.slice 71, TC.l ME), (.slice 32, TC.l BA), (.int .i64, TC.i ct)])] = (qf_t k s sg bg NA NU ME BA ct).run fun p => some (qf_mk p) := by kernel_rfl
theorem qf_s : ∀ xs r, qf_S xs = some (true, r) → runF tab FT D22 live 65 qf_lo xs = some r := by
  intro xs r h
  unfold qf_S at h
  split at h
  · obtain ⟨h1, rfl⟩ := sp h
    exact fun_told (qf_e ..) (qf_l _ _ _ _ _ _ _ _ _) h1
  · cases h
def D23 : Dt := also D22 65 qf_S
theorem d23 : DOk Go.Proofs.Try.prog tab D23 := d22.also mixed_ok tab_ok names_ok (fnLoops_two (by kernel_rfl) qf_is7 qf_is12) qf_s
theorem qf_cc {k : Int} {s : Int} {sg : Bool} {bg : Bool} {NA : LL} {NU : LL} {ME : LL} {BA : LL} {ct : Int} (t4 : Typed tab (.slice 9) (.l NA)) : (qf_c k s sg bg NA NU ME BA ct) = true := by
  unfold qf_c
  refine bifT (fun b1 => ?_) (fun b1 => ?_)
  · skip
    rfl
  · skip
    refine bifT (fun b2 => ?_) (fun b2 => ?_)
    · skip
      rfl
    · skip
      refine bifT (fun b3 => ?_) (fun b3 => ?_)
      · skip
        rfl
      · skip
        refine bifT (fun b4 => ?_) (fun b4 => ?_)
        · skip
          rfl
        · skip
          refine bifT (fun b5 => ?_) (fun b5 => ?_)
          · skip
            rfl
          · skip
            refine andT (is_true (by have e5 := bneF b5; omega)) ?_
            refine bifT (fun b6 => ?_) (fun b6 => ?_)
            · skip
              rfl
            · skip
              refine andT (is_true (by have e5 := bneF b5; omega)) ?_
              refine bifT (fun b7 => ?_) (fun b7 => ?_)
              · skip
                rfl
              · skip
                refine bifT (fun b8 => ?_) (fun b8 => ?_)
                · skip
                  rfl
                · skip
                  refine bifT (fun b9 => ?_) (fun b9 => ?_)
                  · skip
                    rfl
                  · skip
                    refine bifT (fun b10 => ?_) (fun b10 => ?_)
                    · skip
                      rfl
                    · skip
                      refine andT (is_true (by have e5 := bneF b5; omega)) ?_
                      refine andT (by exact qbb_cc) ?_
                      refine bifT (fun b11 => ?_) (fun b11 => ?_)
                      · skip
                        refine andT (by have e5 := bneF b5; have e10 := bneF b10; exact is_true ⟨rfl, t4, by omega⟩) ?_
                        rfl
                      · skip
                        refine andT (by have e5 := bneF b5; have e10 := bneF b10; exact is_true ⟨rfl, t4, by omega⟩) ?_
                        rfl
theorem range_lo {k s : Int} {sg bg : Bool} {NA NU ME BA : LL} {ct : Int} (h : intV s sg bg NA NU ME BA ct = true) : (qbb_v k s sg bg NA NU ME BA ct).1 = loV s sg ∧ (qbb_v k s sg bg NA NU ME BA ct).2 = hiV s sg := by
  unfold intV has4 at h
  simp only [Bool.and_eq_true, Bool.or_eq_true, beq_iff_eq] at h
  have hs := h.1.1.1
  have h8 := h.1.1.2
  rcases hs with ((rfl | rfl) | rfl) | rfl <;> cases sg <;> first | (exact ⟨by unfold qbb_v loV; decide, by unfold qbb_v hiV; decide⟩) | (exact absurd h8 (by decide))
theorem qf_vv (k s : Int) (sg bg : Bool) (NA NU ME BA : LL) (ct : Int) : qf_v k s sg bg NA NU ME BA ct = enumV s sg bg NA NU ME BA ct := by
  unfold qf_v enumV
  rw [show qbp_v k s sg bg NA NU ME BA ct = plain sg bg from by unfold qbp_v plain; cases sg <;> cases bg <;> rfl, show qck_v (nth (row BA (0 : Int)) 0).int (nth (row BA (0 : Int)) 1).int (nth (row BA (0 : Int)) 2).bool (nth (row BA (0 : Int)) 3).bool (nth (row BA (0 : Int)) 4).list (nth (row BA (0 : Int)) 5).list (nth (row BA (0 : Int)) 6).list (nth (row BA (0 : Int)) 7).list (nth (row BA (0 : Int)) 8).int = intV (nth (row BA (0 : Int)) 1).int (nth (row BA (0 : Int)) 2).bool (nth (row BA (0 : Int)) 3).bool (nth (row BA (0 : Int)) 4).list (nth (row BA (0 : Int)) 5).list (nth (row BA (0 : Int)) 6).list (nth (row BA (0 : Int)) 7).list (nth (row BA (0 : Int)) 8).int from rfl]
  cases hI : intV (nth (row BA (0 : Int)) 1).int (nth (row BA (0 : Int)) 2).bool (nth (row BA (0 : Int)) 3).bool (nth (row BA (0 : Int)) 4).list (nth (row BA (0 : Int)) 5).list (nth (row BA (0 : Int)) 6).list (nth (row BA (0 : Int)) 7).list (nth (row BA (0 : Int)) 8).int with
  | false => simp only [bif_nf, bif_tf, bif_ft, Bool.not_not, Bool.false_and, Bool.and_false]
  | true =>
    rw [show ∀ lo hi, qf_k7_1 k s sg bg NA NU ME BA ct lo hi 0 = !(allI (fun i : Nat => enumP NA NU lo hi (i : Int)) NA.length) from fun lo hi => by unfold qf_k7_1; rw [qf_R7_eq]; generalize allI _ _ = q; cases q <;> rfl]
    rw [(range_lo (k := (nth (row BA (0 : Int)) 0).int) hI).1, (range_lo (k := (nth (row BA (0 : Int)) 0).int) hI).2]
    simp only [bif_nf, bif_tf, bif_ft, Bool.not_not, Bool.and_true]
section
class qbi_O where n : Nat
variable [i_spec_l02Ok : qbi_O]
def qbi_rc (k s : Int) (sg bg : Bool) (NA NU ME BA : LL) (ct : Int) : Bool := is (max (rowsDep ME) (rowsDep BA) < qbi_O.n ∧ max (rowsDep ME) (rowsDep BA) < qn_O.n ∧ max (rowsDep ME) (rowsDep BA) < qe_O.n ∧ Typed tab (.slice 9) (.l NA) ∧ Typed tab (.slice 2) (.l NU) ∧ Typed tab (.slice 71) (.l ME) ∧ Typed tab (.slice 32) (.l BA))
def qbi_rv (k s : Int) (sg bg : Bool) (NA NU ME BA : LL) (ct : Int) : Bool := okV k s sg bg NA NU ME BA ct
def qbi_rmk (p : Bool) : Res := [(false, [⟨.bool, .sh, TC.b p⟩])]
def qbi_rS : List Arg → Option (Bool × Res) := fun xs => match xs with
  | [(true, [(.int .i64, TC.i k), (.int .i64, TC.i s), (.bool, TC.b sg), (.bool, TC.b bg), (.slice 9, TC.l NA), (.slice 2, TC.l NU), (.slice 71, TC.l ME), (.slice 32, TC.l BA), (.int .i64, TC.i ct)])] => some ((qbi_rc k s sg bg NA NU ME BA ct), qbi_rmk (qbi_rv k s sg bg NA NU ME BA ct))
  | _ => .none
def D24 : Dt := also D23 30 qbi_rS
class qbi_G : Prop where ok : DOk Go.Proofs.Try.prog tab D24
variable [g_spec_l02Ok : qbi_G]
theorem d24 : DOk Go.Proofs.Try.prog tab D24 := qbi_G.ok
def qc_f13 (k s : Int) (sg bg : Bool) (NA NU ME BA : LL) (ct en ix : Int) (mn : BS) (mo mk ms : Int) (msg mbg : Bool) (mNA mNU mME mBA : LL) (mct q : Int) : (Unit) ⊕ ((Int × Int × Bool × Bool × LL × LL × LL × LL × Int × Int × Int × BS × Int × Int × Int × Bool × Bool × LL × LL × LL × LL × Int) ⊕ (Int × Int × Bool × Bool × LL × LL × LL × LL × Int × Int × Int × BS × Int × Int × Int × Bool × Bool × LL × LL × LL × LL × Int)) := (bif ((nth (row ME q) 0).str == mn) then (.inr (.inl (k, s, sg, bg, NA, NU, ME, BA, ct, en, ix, mn, mo, mk, ms, msg, mbg, mNA, mNU, mME, mBA, mct))) else (.inl ()))
def qc_e13 (k s : Int) (sg bg : Bool) (NA NU ME BA : LL) (ct en ix : Int) (mn : BS) (mo mk ms : Int) (msg mbg : Bool) (mNA mNU mME mBA : LL) (mct : Int) : (Int × Int × Bool × Bool × LL × LL × LL × LL × Int × Int × Int × BS × Int × Int × Int × Bool × Bool × LL × LL × LL × LL × Int) ⊕ (Int × Int × Bool × Bool × LL × LL × LL × LL × Int × Int × Int × BS × Int × Int × Int × Bool × Bool × LL × LL × LL × LL × Int) := .inr (k, s, sg, bg, NA, NU, ME, BA, ct, en, ix, mn, mo, mk, ms, msg, mbg, mNA, mNU, mME, mBA, mct)
def qc_R13 (k s : Int) (sg bg : Bool) (NA NU ME BA : LL) (ct en ix : Int) (mn : BS) (mo mk ms : Int) (msg mbg : Bool) (mNA mNU mME mBA : LL) (mct q : Int) : (Int × Int × Bool × Bool × LL × LL × LL × LL × Int × Int × Int × BS × Int × Int × Int × Bool × Bool × LL × LL × LL × LL × Int) ⊕ (Int × Int × Bool × Bool × LL × LL × LL × LL × Int × Int × Int × BS × Int × Int × Int × Bool × Bool × LL × LL × LL × LL × Int) := iter (fun i a => (qc_f13 k s sg bg NA NU ME BA ct en ix mn mo mk ms msg mbg mNA mNU mME mBA mct (i : Int))) (fun a => (qc_e13 k s sg bg NA NU ME BA ct en ix mn mo mk ms msg mbg mNA mNU mME mBA mct)) (ix.toNat) 0 ()
abbrev qc_13_σ := Int × Int × Bool × Bool × LL × LL × LL × LL × Int × Int × Int × BS × Int × Int × Int × Bool × Bool × LL × LL × LL × LL × Int × Int
abbrev qc_13_ω := (Int × Int × Bool × Bool × LL × LL × LL × LL × Int × Int × Int × BS × Int × Int × Int × Bool × Bool × LL × LL × LL × LL × Int) ⊕ (Int × Int × Bool × Bool × LL × LL × LL × LL × Int × Int × Int × BS × Int × Int × Int × Bool × Bool × LL × LL × LL × LL × Int)
def qc_13_step (k s : Int) (sg bg : Bool) (NA NU ME BA : LL) (ct en ix : Int) (mn : BS) (mo mk ms : Int) (msg mbg : Bool) (mNA mNU mME mBA : LL) (mct q : Int) : Tr (qc_13_σ ⊕ qc_13_ω) := (.ite ((decide (q < ix)) = true) (.ite ((0 : Int) ≤ q ∧ q < (ME.length : Int)) (.ite (((nth (row ME q) 0).str == mn) = true) (.ok (.inr (.inl (k, s, sg, bg, NA, NU, ME, BA, ct, en, ix, mn, mo, mk, ms, msg, mbg, mNA, mNU, mME, mBA, mct))))
    (.ok (.inl (k, s, sg, bg, NA, NU, ME, BA, ct, en, ix, mn, mo, mk, ms, msg, mbg, mNA, mNU, mME, mBA, mct, (IntKind.wrap .i64 (q + (1 : Int)))))))
   .no)
  (.ok (.inr (.inr (k, s, sg, bg, NA, NU, ME, BA, ct, en, ix, mn, mo, mk, ms, msg, mbg, mNA, mNU, mME, mBA, mct)))))
def qc_13_st : qc_13_σ → Tr (qc_13_σ ⊕ qc_13_ω) := fun x => (qc_13_step (x.1) (x.2.1) (x.2.2.1) (x.2.2.2.1) (x.2.2.2.2.1) (x.2.2.2.2.2.1) (x.2.2.2.2.2.2.1) (x.2.2.2.2.2.2.2.1) (x.2.2.2.2.2.2.2.2.1) (x.2.2.2.2.2.2.2.2.2.1) (x.2.2.2.2.2.2.2.2.2.2.1) (x.2.2.2.2.2.2.2.2.2.2.2.1) (x.2.2.2.2.2.2.2.2.2.2.2.2.1) (x.2.2.2.2.2.2.2.2.2.2.2.2.2.1) (x.2.2.2.2.2.2.2.2.2.2.2.2.2.2.1) (x.2.2.2.2.2.2.2.2.2.2.2.2.2.2.2.1) (x.2.2.2.2.2.2.2.2.2.2.2.2.2.2.2.2.1) (x.2.2.2.2.2.2.2.2.2.2.2.2.2.2.2.2.2.1) (x.2.2.2.2.2.2.2.2.2.2.2.2.2.2.2.2.2.2.1) (x.2.2.2.2.2.2.2.2.2.2.2.2.2.2.2.2.2.2.2.1) (x.2.2.2.2.2.2.2.2.2.2.2.2.2.2.2.2.2.2.2.2.1) (x.2.2.2.2.2.2.2.2.2.2.2.2.2.2.2.2.2.2.2.2.2.1) (x.2.2.2.2.2.2.2.2.2.2.2.2.2.2.2.2.2.2.2.2.2.2))
def qc_k13_1 (k s : Int) (sg bg : Bool) (NA NU ME BA : LL) (ct en ix : Int) (mn : BS) (mo mk ms : Int) (msg mbg : Bool) (mNA mNU mME mBA : LL) (mct q : Int) : Bool := sumIs (qc_R13 k s sg bg NA NU ME BA ct en ix mn mo mk ms msg mbg mNA mNU mME mBA mct q)
def qc_o13_2 (k s : Int) (sg bg : Bool) (NA NU ME BA : LL) (ct en ix : Int) (mn : BS) (mo mk ms : Int) (msg mbg : Bool) (mNA mNU mME mBA : LL) (mct q : Int) : Bool := is (q = 0 ∧ 0 ≤ ix ∧ ix < (ME.length : Int) ∧ ME.length ≤ 140737488355328)
def qc_o13_3 (k s : Int) (sg bg : Bool) (NA NU ME BA : LL) (ct en ix : Int) (mn : BS) (mo mk ms : Int) (msg mbg : Bool) (mNA mNU mME mBA : LL) (mct q : Int) : Bool := is (q = 0 ∧ 0 ≤ ix ∧ ix < (ME.length : Int) ∧ ME.length ≤ 140737488355328)
def qc_13_fin (k s : Int) (sg bg : Bool) (NA NU ME BA : LL) (ct en ix : Int) (mn : BS) (mo mk ms : Int) (msg mbg : Bool) (mNA mNU mME mBA : LL) (mct q : Int) : Told qc_13_ω := (.br (qc_k13_1 k s sg bg NA NU ME BA ct en ix mn mo mk ms msg mbg mNA mNU mME mBA mct q) (.leaf (qc_o13_2 k s sg bg NA NU ME BA ct en ix mn mo mk ms msg mbg mNA mNU mME mBA mct q) (.inl (k, s, sg, bg, NA, NU, ME, BA, ct, en, ix, mn, mo, mk, ms, msg, mbg, mNA, mNU, mME, mBA, mct))) (.leaf (qc_o13_3 k s sg bg NA NU ME BA ct en ix mn mo mk ms msg mbg mNA mNU mME mBA mct q) (.inr (k, s, sg, bg, NA, NU, ME, BA, ct, en, ix, mn, mo, mk, ms, msg, mbg, mNA, mNU, mME, mBA, mct))))
def qc_13_sl : qc_13_σ → List Slot := fun x => match x with | (k, s, sg, bg, NA, NU, ME, BA, ct, en, ix, mn, mo, mk, ms, msg, mbg, mNA, mNU, mME, mBA, mct, q) => [⟨.bx 32 [⟨.int .i64, .sh, TC.i k⟩, ⟨.int .i64, .sh, TC.i s⟩, ⟨.bool, .sh, TC.b sg⟩, ⟨.bool, .sh, TC.b bg⟩, ⟨.slice 9, .sh, TC.l NA⟩, ⟨.slice 2, .sh, TC.l NU⟩, ⟨.slice 71, .sh, TC.l ME⟩, ⟨.slice 32, .sh, TC.l BA⟩, ⟨.int .i64, .sh, TC.i ct⟩], ⟨0, 0⟩⟩, ⟨.val false [⟨.int .i64, .sh, TC.i en⟩], ⟨0, 0⟩⟩, ⟨.val false [⟨.int .i64, .sh, TC.i ix⟩], ⟨0, 0⟩⟩, ⟨.bx 71 [⟨.str, .sh, TC.s mn⟩, ⟨.int .i64, .sh, TC.i mo⟩, ⟨.int .i64, .sh, TC.i mk⟩, ⟨.int .i64, .sh, TC.i ms⟩, ⟨.bool, .sh, TC.b msg⟩, ⟨.bool, .sh, TC.b mbg⟩, ⟨.slice 9, .sh, TC.l mNA⟩, ⟨.slice 2, .sh, TC.l mNU⟩, ⟨.slice 71, .sh, TC.l mME⟩, ⟨.slice 32, .sh, TC.l mBA⟩, ⟨.int .i64, .sh, TC.i mct⟩], ⟨0, 0⟩⟩, ⟨.val false [⟨.int .i64, .sh, TC.i q⟩], ⟨0, 0⟩⟩]
def qc_13_out : qc_13_ω → Ex × List Slot := (Sum.elim (fun x => (.ret, [⟨.bx 32 [⟨.int .i64, .sh, TC.i (x.1)⟩, ⟨.int .i64, .sh, TC.i (x.2.1)⟩, ⟨.bool, .sh, TC.b (x.2.2.1)⟩, ⟨.bool, .sh, TC.b (x.2.2.2.1)⟩, ⟨.slice 9, .sh, TC.l (x.2.2.2.2.1)⟩, ⟨.slice 2, .sh, TC.l (x.2.2.2.2.2.1)⟩, ⟨.slice 71, .sh, TC.l (x.2.2.2.2.2.2.1)⟩, ⟨.slice 32, .sh, TC.l (x.2.2.2.2.2.2.2.1)⟩, ⟨.int .i64, .sh, TC.i (x.2.2.2.2.2.2.2.2.1)⟩], ⟨0, 0⟩⟩, ⟨.val false [⟨.bool, .sh, TC.b false⟩], ⟨0, 0⟩⟩, ⟨.val false [⟨.int .i64, .sh, TC.i (x.2.2.2.2.2.2.2.2.2.1)⟩], ⟨0, 0⟩⟩, ⟨.val false [⟨.int .i64, .sh, TC.i (x.2.2.2.2.2.2.2.2.2.2.1)⟩], ⟨0, 0⟩⟩, ⟨.bx 71 [⟨.str, .sh, TC.s (x.2.2.2.2.2.2.2.2.2.2.2.1)⟩, ⟨.int .i64, .sh, TC.i (x.2.2.2.2.2.2.2.2.2.2.2.2.1)⟩, ⟨.int .i64, .sh, TC.i (x.2.2.2.2.2.2.2.2.2.2.2.2.2.1)⟩, ⟨.int .i64, .sh, TC.i (x.2.2.2.2.2.2.2.2.2.2.2.2.2.2.1)⟩, ⟨.bool, .sh, TC.b (x.2.2.2.2.2.2.2.2.2.2.2.2.2.2.2.1)⟩, ⟨.bool, .sh, TC.b (x.2.2.2.2.2.2.2.2.2.2.2.2.2.2.2.2.1)⟩, ⟨.slice 9, .sh, TC.l (x.2.2.2.2.2.2.2.2.2.2.2.2.2.2.2.2.2.1)⟩, ⟨.slice 2, .sh, TC.l (x.2.2.2.2.2.2.2.2.2.2.2.2.2.2.2.2.2.2.1)⟩, ⟨.slice 71, .sh, TC.l (x.2.2.2.2.2.2.2.2.2.2.2.2.2.2.2.2.2.2.2.1)⟩, ⟨.slice 32, .sh, TC.l (x.2.2.2.2.2.2.2.2.2.2.2.2.2.2.2.2.2.2.2.2.1)⟩, ⟨.int .i64, .sh, TC.i (x.2.2.2.2.2.2.2.2.2.2.2.2.2.2.2.2.2.2.2.2.2)⟩], ⟨0, 0⟩⟩])) (fun x => (.exit 2, [⟨.bx 32 [⟨.int .i64, .sh, TC.i (x.1)⟩, ⟨.int .i64, .sh, TC.i (x.2.1)⟩, ⟨.bool, .sh, TC.b (x.2.2.1)⟩, ⟨.bool, .sh, TC.b (x.2.2.2.1)⟩, ⟨.slice 9, .sh, TC.l (x.2.2.2.2.1)⟩, ⟨.slice 2, .sh, TC.l (x.2.2.2.2.2.1)⟩, ⟨.slice 71, .sh, TC.l (x.2.2.2.2.2.2.1)⟩, ⟨.slice 32, .sh, TC.l (x.2.2.2.2.2.2.2.1)⟩, ⟨.int .i64, .sh, TC.i (x.2.2.2.2.2.2.2.2.1)⟩], ⟨0, 0⟩⟩, Slot.none, ⟨.val false [⟨.int .i64, .sh, TC.i (x.2.2.2.2.2.2.2.2.2.1)⟩], ⟨0, 0⟩⟩, ⟨.val false [⟨.int .i64, .sh, TC.i (x.2.2.2.2.2.2.2.2.2.2.1)⟩], ⟨0, 0⟩⟩, ⟨.bx 71 [⟨.str, .sh, TC.s (x.2.2.2.2.2.2.2.2.2.2.2.1)⟩, ⟨.int .i64, .sh, TC.i (x.2.2.2.2.2.2.2.2.2.2.2.2.1)⟩, ⟨.int .i64, .sh, TC.i (x.2.2.2.2.2.2.2.2.2.2.2.2.2.1)⟩, ⟨.int .i64, .sh, TC.i (x.2.2.2.2.2.2.2.2.2.2.2.2.2.2.1)⟩, ⟨.bool, .sh, TC.b (x.2.2.2.2.2.2.2.2.2.2.2.2.2.2.2.1)⟩, ⟨.bool, .sh, TC.b (x.2.2.2.2.2.2.2.2.2.2.2.2.2.2.2.2.1)⟩, ⟨.slice 9, .sh, TC.l (x.2.2.2.2.2.2.2.2.2.2.2.2.2.2.2.2.2.1)⟩, ⟨.slice 2, .sh, TC.l (x.2.2.2.2.2.2.2.2.2.2.2.2.2.2.2.2.2.2.1)⟩, ⟨.slice 71, .sh, TC.l (x.2.2.2.2.2.2.2.2.2.2.2.2.2.2.2.2.2.2.2.1)⟩, ⟨.slice 32, .sh, TC.l (x.2.2.2.2.2.2.2.2.2.2.2.2.2.2.2.2.2.2.2.2.1)⟩, ⟨.int .i64, .sh, TC.i (x.2.2.2.2.2.2.2.2.2.2.2.2.2.2.2.2.2.2.2.2.2)⟩], ⟨0, 0⟩⟩])))
def qc_lo13 : List Slot → Option (Told (Ex × List Slot)) := fun s => match s with
  | [⟨.bx 32 [⟨.int .i64, .sh, TC.i k⟩, ⟨.int .i64, .sh, TC.i s⟩, ⟨.bool, .sh, TC.b sg⟩, ⟨.bool, .sh, TC.b bg⟩, ⟨.slice 9, .sh, TC.l NA⟩, ⟨.slice 2, .sh, TC.l NU⟩, ⟨.slice 71, .sh, TC.l ME⟩, ⟨.slice 32, .sh, TC.l BA⟩, ⟨.int .i64, .sh, TC.i ct⟩], ⟨0, 0⟩⟩, ⟨.val false [⟨.int .i64, .sh, TC.i en⟩], ⟨0, 0⟩⟩, ⟨.val false [⟨.int .i64, .sh, TC.i ix⟩], ⟨0, 0⟩⟩, ⟨.bx 71 [⟨.str, .sh, TC.s mn⟩, ⟨.int .i64, .sh, TC.i mo⟩, ⟨.int .i64, .sh, TC.i mk⟩, ⟨.int .i64, .sh, TC.i ms⟩, ⟨.bool, .sh, TC.b msg⟩, ⟨.bool, .sh, TC.b mbg⟩, ⟨.slice 9, .sh, TC.l mNA⟩, ⟨.slice 2, .sh, TC.l mNU⟩, ⟨.slice 71, .sh, TC.l mME⟩, ⟨.slice 32, .sh, TC.l mBA⟩, ⟨.int .i64, .sh, TC.i mct⟩], ⟨0, 0⟩⟩, ⟨.val false [⟨.int .i64, .sh, TC.i q⟩], ⟨0, 0⟩⟩] => some (((qc_13_fin k s sg bg NA NU ME BA ct en ix mn mo mk ms msg mbg mNA mNU mME mBA mct q)).map qc_13_out)
  | _ => .none
def qc_f7 (k s : Int) (sg bg : Bool) (NA NU ME BA : LL) (ct i en : Int) : (Int) ⊕ ((Int × Int × Bool × Bool × LL × LL × LL × LL × Int × Int) ⊕ (Int × Int × Bool × Bool × LL × LL × LL × LL × Int × Int)) := (bif (!(qs_v ((nth (row ME i) 0).str))) then (.inr (.inl (k, s, sg, bg, NA, NU, ME, BA, ct, en))) else (bif (decide ((nth (row ME i) 1).int < en)) then (.inr (.inl (k, s, sg, bg, NA, NU, ME, BA, ct, en))) else (bif (decide ((nth (row ME i) 1).int > (24 : Int))) then (.inr (.inl (k, s, sg, bg, NA, NU, ME, BA, ct, en))) else (bif (!(qbi_rv ((nth (row ME i) 2).int) ((nth (row ME i) 3).int) ((nth (row ME i) 4).bool) ((nth (row ME i) 5).bool) ((nth (row ME i) 6).list) ((nth (row ME i) 7).list) ((nth (row ME i) 8).list) ((nth (row ME i) 9).list) ((nth (row ME i) 10).int))) then (.inr (.inl (k, s, sg, bg, NA, NU, ME, BA, ct, en))) else (bif (qc_k13_1 k s sg bg NA NU ME BA ct en i ((nth (row ME i) 0).str) ((nth (row ME i) 1).int) ((nth (row ME i) 2).int) ((nth (row ME i) 3).int) ((nth (row ME i) 4).bool) ((nth (row ME i) 5).bool) ((nth (row ME i) 6).list) ((nth (row ME i) 7).list) ((nth (row ME i) 8).list) ((nth (row ME i) 9).list) ((nth (row ME i) 10).int) (0 : Int)) then (.inr (.inl (k, s, sg, bg, NA, NU, ME, BA, ct, en))) else (.inl (IntKind.wrap .i64 ((nth (row ME i) 1).int + (qn_rv ((nth (row ME i) 2).int) ((nth (row ME i) 3).int) ((nth (row ME i) 4).bool) ((nth (row ME i) 5).bool) ((nth (row ME i) 6).list) ((nth (row ME i) 7).list) ((nth (row ME i) 8).list) ((nth (row ME i) 9).list) ((nth (row ME i) 10).int))))))))))
def qc_e7 (k s : Int) (sg bg : Bool) (NA NU ME BA : LL) (ct en : Int) : (Int × Int × Bool × Bool × LL × LL × LL × LL × Int × Int) ⊕ (Int × Int × Bool × Bool × LL × LL × LL × LL × Int × Int) := .inr (k, s, sg, bg, NA, NU, ME, BA, ct, en)
def qc_R7 (k s : Int) (sg bg : Bool) (NA NU ME BA : LL) (ct en i : Int) : (Int × Int × Bool × Bool × LL × LL × LL × LL × Int × Int) ⊕ (Int × Int × Bool × Bool × LL × LL × LL × LL × Int × Int) := iter (fun i a => (qc_f7 k s sg bg NA NU ME BA ct (i : Int) a)) (fun a => (qc_e7 k s sg bg NA NU ME BA ct a)) (ME.length) 0 en
abbrev qc_7_σ := Int × Int × Bool × Bool × LL × LL × LL × LL × Int × Int × Int
abbrev qc_7_ω := (Int × Int × Bool × Bool × LL × LL × LL × LL × Int × Int) ⊕ (Int × Int × Bool × Bool × LL × LL × LL × LL × Int × Int)
def qc_7_step (k s : Int) (sg bg : Bool) (NA NU ME BA : LL) (ct en i : Int) : Tr (qc_7_σ ⊕ qc_7_ω) := (.ite ((decide (i < (ME.length : Int))) = true) (.ite ((0 : Int) ≤ i ∧ i < (ME.length : Int)) (.ite ((qs_c ((nth (row ME i) 0).str)) = true) (.ite ((!(qs_v ((nth (row ME i) 0).str))) = true) (.ok (.inr (.inl (k, s, sg, bg, NA, NU, ME, BA, ct, en))))
     (.ite ((decide ((nth (row ME i) 1).int < en)) = true) (.ok (.inr (.inl (k, s, sg, bg, NA, NU, ME, BA, ct, en))))
      (.ite ((decide ((nth (row ME i) 1).int > (24 : Int))) = true) (.ok (.inr (.inl (k, s, sg, bg, NA, NU, ME, BA, ct, en))))
       (.ite ((qbi_rc ((nth (row ME i) 2).int) ((nth (row ME i) 3).int) ((nth (row ME i) 4).bool) ((nth (row ME i) 5).bool) ((nth (row ME i) 6).list) ((nth (row ME i) 7).list) ((nth (row ME i) 8).list) ((nth (row ME i) 9).list) ((nth (row ME i) 10).int)) = true) (.ite ((!(qbi_rv ((nth (row ME i) 2).int) ((nth (row ME i) 3).int) ((nth (row ME i) 4).bool) ((nth (row ME i) 5).bool) ((nth (row ME i) 6).list) ((nth (row ME i) 7).list) ((nth (row ME i) 8).list) ((nth (row ME i) 9).list) ((nth (row ME i) 10).int))) = true) (.ok (.inr (.inl (k, s, sg, bg, NA, NU, ME, BA, ct, en))))
         (.ite ((qc_k13_1 k s sg bg NA NU ME BA ct en i ((nth (row ME i) 0).str) ((nth (row ME i) 1).int) ((nth (row ME i) 2).int) ((nth (row ME i) 3).int) ((nth (row ME i) 4).bool) ((nth (row ME i) 5).bool) ((nth (row ME i) 6).list) ((nth (row ME i) 7).list) ((nth (row ME i) 8).list) ((nth (row ME i) 9).list) ((nth (row ME i) 10).int) (0 : Int)) = true) (.ite ((qc_o13_2 k s sg bg NA NU ME BA ct en i ((nth (row ME i) 0).str) ((nth (row ME i) 1).int) ((nth (row ME i) 2).int) ((nth (row ME i) 3).int) ((nth (row ME i) 4).bool) ((nth (row ME i) 5).bool) ((nth (row ME i) 6).list) ((nth (row ME i) 7).list) ((nth (row ME i) 8).list) ((nth (row ME i) 9).list) ((nth (row ME i) 10).int) (0 : Int)) = true) (.ok (.inr (.inl (k, s, sg, bg, NA, NU, ME, BA, ct, en))))
           .no)
          (.ite ((qc_o13_3 k s sg bg NA NU ME BA ct en i ((nth (row ME i) 0).str) ((nth (row ME i) 1).int) ((nth (row ME i) 2).int) ((nth (row ME i) 3).int) ((nth (row ME i) 4).bool) ((nth (row ME i) 5).bool) ((nth (row ME i) 6).list) ((nth (row ME i) 7).list) ((nth (row ME i) 8).list) ((nth (row ME i) 9).list) ((nth (row ME i) 10).int) (0 : Int)) = true) (.ite ((qn_rc ((nth (row ME i) 2).int) ((nth (row ME i) 3).int) ((nth (row ME i) 4).bool) ((nth (row ME i) 5).bool) ((nth (row ME i) 6).list) ((nth (row ME i) 7).list) ((nth (row ME i) 8).list) ((nth (row ME i) 9).list) ((nth (row ME i) 10).int)) = true) (.ok (.inl (k, s, sg, bg, NA, NU, ME, BA, ct, (IntKind.wrap .i64 ((nth (row ME i) 1).int + (qn_rv ((nth (row ME i) 2).int) ((nth (row ME i) 3).int) ((nth (row ME i) 4).bool) ((nth (row ME i) 5).bool) ((nth (row ME i) 6).list) ((nth (row ME i) 7).list) ((nth (row ME i) 8).list) ((nth (row ME i) 9).list) ((nth (row ME i) 10).int)))), (IntKind.wrap .i64 (i + (1 : Int))))))
            .no)
           .no)))
        .no))))
    .no)
   .no)
  (.ok (.inr (.inr (k, s, sg, bg, NA, NU, ME, BA, ct, en)))))
def qc_7_st : qc_7_σ → Tr (qc_7_σ ⊕ qc_7_ω) := fun x => (qc_7_step (x.1) (x.2.1) (x.2.2.1) (x.2.2.2.1) (x.2.2.2.2.1) (x.2.2.2.2.2.1) (x.2.2.2.2.2.2.1) (x.2.2.2.2.2.2.2.1) (x.2.2.2.2.2.2.2.2.1) (x.2.2.2.2.2.2.2.2.2.1) (x.2.2.2.2.2.2.2.2.2.2))
def qc_k7_1 (k s : Int) (sg bg : Bool) (NA NU ME BA : LL) (ct en i : Int) : Bool := sumIs (qc_R7 k s sg bg NA NU ME BA ct en i)
def qc_o7_2 (k s : Int) (sg bg : Bool) (NA NU ME BA : LL) (ct en i : Int) : Bool := is (i = 0 ∧ Typed tab (.slice 71) (.l ME) ∧ (∀ x : List TC, x ∈ ME → qbi_rc (nth x 2).int (nth x 3).int (nth x 4).bool (nth x 5).bool (nth x 6).list (nth x 7).list (nth x 8).list (nth x 9).list (nth x 10).int = true) ∧ (∀ x : List TC, x ∈ ME → (!(qbi_rv (nth x 2).int (nth x 3).int (nth x 4).bool (nth x 5).bool (nth x 6).list (nth x 7).list (nth x 8).list (nth x 9).list (nth x 10).int)) = false → qn_rc (nth x 2).int (nth x 3).int (nth x 4).bool (nth x 5).bool (nth x 6).list (nth x 7).list (nth x 8).list (nth x 9).list (nth x 10).int = true))
def qc_u7_2_0 (k s : Int) (sg bg : Bool) (NA NU ME BA : LL) (ct en i : Int) : Int := (sumL (qc_R7 k s sg bg NA NU ME BA ct en i)).1
def qc_u7_2_1 (k s : Int) (sg bg : Bool) (NA NU ME BA : LL) (ct en i : Int) : Int := (sumL (qc_R7 k s sg bg NA NU ME BA ct en i)).2.1
def qc_u7_2_2 (k s : Int) (sg bg : Bool) (NA NU ME BA : LL) (ct en i : Int) : Bool := (sumL (qc_R7 k s sg bg NA NU ME BA ct en i)).2.2.1
def qc_u7_2_3 (k s : Int) (sg bg : Bool) (NA NU ME BA : LL) (ct en i : Int) : Bool := (sumL (qc_R7 k s sg bg NA NU ME BA ct en i)).2.2.2.1
def qc_u7_2_4 (k s : Int) (sg bg : Bool) (NA NU ME BA : LL) (ct en i : Int) : LL := (sumL (qc_R7 k s sg bg NA NU ME BA ct en i)).2.2.2.2.1
def qc_u7_2_5 (k s : Int) (sg bg : Bool) (NA NU ME BA : LL) (ct en i : Int) : LL := (sumL (qc_R7 k s sg bg NA NU ME BA ct en i)).2.2.2.2.2.1
def qc_u7_2_6 (k s : Int) (sg bg : Bool) (NA NU ME BA : LL) (ct en i : Int) : LL := (sumL (qc_R7 k s sg bg NA NU ME BA ct en i)).2.2.2.2.2.2.1
def qc_u7_2_7 (k s : Int) (sg bg : Bool) (NA NU ME BA : LL) (ct en i : Int) : LL := (sumL (qc_R7 k s sg bg NA NU ME BA ct en i)).2.2.2.2.2.2.2.1
def qc_u7_2_8 (k s : Int) (sg bg : Bool) (NA NU ME BA : LL) (ct en i : Int) : Int := (sumL (qc_R7 k s sg bg NA NU ME BA ct en i)).2.2.2.2.2.2.2.2.1
def qc_u7_2_9 (k s : Int) (sg bg : Bool) (NA NU ME BA : LL) (ct en i : Int) : Int := (sumL (qc_R7 k s sg bg NA NU ME BA ct en i)).2.2.2.2.2.2.2.2.2
def qc_o7_3 (k s : Int) (sg bg : Bool) (NA NU ME BA : LL) (ct en i : Int) : Bool := (qc_o7_2 k s sg bg NA NU ME BA ct en i)
def qc_u7_3_0 (k s : Int) (sg bg : Bool) (NA NU ME BA : LL) (ct en i : Int) : Int := (sumR (qc_R7 k s sg bg NA NU ME BA ct en i)).1
def qc_u7_3_1 (k s : Int) (sg bg : Bool) (NA NU ME BA : LL) (ct en i : Int) : Int := (sumR (qc_R7 k s sg bg NA NU ME BA ct en i)).2.1
def qc_u7_3_2 (k s : Int) (sg bg : Bool) (NA NU ME BA : LL) (ct en i : Int) : Bool := (sumR (qc_R7 k s sg bg NA NU ME BA ct en i)).2.2.1
def qc_u7_3_3 (k s : Int) (sg bg : Bool) (NA NU ME BA : LL) (ct en i : Int) : Bool := (sumR (qc_R7 k s sg bg NA NU ME BA ct en i)).2.2.2.1
def qc_u7_3_4 (k s : Int) (sg bg : Bool) (NA NU ME BA : LL) (ct en i : Int) : LL := (sumR (qc_R7 k s sg bg NA NU ME BA ct en i)).2.2.2.2.1
def qc_u7_3_5 (k s : Int) (sg bg : Bool) (NA NU ME BA : LL) (ct en i : Int) : LL := (sumR (qc_R7 k s sg bg NA NU ME BA ct en i)).2.2.2.2.2.1
def qc_u7_3_6 (k s : Int) (sg bg : Bool) (NA NU ME BA : LL) (ct en i : Int) : LL := (sumR (qc_R7 k s sg bg NA NU ME BA ct en i)).2.2.2.2.2.2.1
def qc_u7_3_7 (k s : Int) (sg bg : Bool) (NA NU ME BA : LL) (ct en i : Int) : LL := (sumR (qc_R7 k s sg bg NA NU ME BA ct en i)).2.2.2.2.2.2.2.1
def qc_u7_3_8 (k s : Int) (sg bg : Bool) (NA NU ME BA : LL) (ct en i : Int) : Int := (sumR (qc_R7 k s sg bg NA NU ME BA ct en i)).2.2.2.2.2.2.2.2.1
def qc_u7_3_9 (k s : Int) (sg bg : Bool) (NA NU ME BA : LL) (ct en i : Int) : Int := (sumR (qc_R7 k s sg bg NA NU ME BA ct en i)).2.2.2.2.2.2.2.2.2
def qc_7_fin (k s : Int) (sg bg : Bool) (NA NU ME BA : LL) (ct en i : Int) : Told qc_7_ω := (.br (qc_k7_1 k s sg bg NA NU ME BA ct en i) (.leaf (qc_o7_2 k s sg bg NA NU ME BA ct en i) (.inl ((qc_u7_2_0 k s sg bg NA NU ME BA ct en i), (qc_u7_2_1 k s sg bg NA NU ME BA ct en i), (qc_u7_2_2 k s sg bg NA NU ME BA ct en i), (qc_u7_2_3 k s sg bg NA NU ME BA ct en i), (qc_u7_2_4 k s sg bg NA NU ME BA ct en i), (qc_u7_2_5 k s sg bg NA NU ME BA ct en i), (qc_u7_2_6 k s sg bg NA NU ME BA ct en i), (qc_u7_2_7 k s sg bg NA NU ME BA ct en i), (qc_u7_2_8 k s sg bg NA NU ME BA ct en i), (qc_u7_2_9 k s sg bg NA NU ME BA ct en i)))) (.leaf (qc_o7_3 k s sg bg NA NU ME BA ct en i) (.inr ((qc_u7_3_0 k s sg bg NA NU ME BA ct en i), (qc_u7_3_1 k s sg bg NA NU ME BA ct en i), (qc_u7_3_2 k s sg bg NA NU ME BA ct en i), (qc_u7_3_3 k s sg bg NA NU ME BA ct en i), (qc_u7_3_4 k s sg bg NA NU ME BA ct en i), (qc_u7_3_5 k s sg bg NA NU ME BA ct en i), (qc_u7_3_6 k s sg bg NA NU ME BA ct en i), (qc_u7_3_7 k s sg bg NA NU ME BA ct en i), (qc_u7_3_8 k s sg bg NA NU ME BA ct en i), (qc_u7_3_9 k s sg bg NA NU ME BA ct en i)))))
def qc_7_sl (x : qc_7_σ) : List Slot := [⟨.bx 32 [⟨.int .i64, .sh, TC.i (x.1)⟩, ⟨.int .i64, .sh, TC.i (x.2.1)⟩, ⟨.bool, .sh, TC.b (x.2.2.1)⟩, ⟨.bool, .sh, TC.b (x.2.2.2.1)⟩, ⟨.slice 9, .sh, TC.l (x.2.2.2.2.1)⟩, ⟨.slice 2, .sh, TC.l (x.2.2.2.2.2.1)⟩, ⟨.slice 71, .sh, TC.l (x.2.2.2.2.2.2.1)⟩, ⟨.slice 32, .sh, TC.l (x.2.2.2.2.2.2.2.1)⟩, ⟨.int .i64, .sh, TC.i (x.2.2.2.2.2.2.2.2.1)⟩], ⟨0, 0⟩⟩, ⟨.val false [⟨.int .i64, .sh, TC.i (x.2.2.2.2.2.2.2.2.2.1)⟩], ⟨0, 0⟩⟩, ⟨.val false [⟨.int .i64, .sh, TC.i (x.2.2.2.2.2.2.2.2.2.2)⟩], ⟨0, 0⟩⟩]
def qc_7_out : qc_7_ω → Ex × List Slot := (Sum.elim (fun x => (.ret, [⟨.bx 32 [⟨.int .i64, .sh, TC.i (x.1)⟩, ⟨.int .i64, .sh, TC.i (x.2.1)⟩, ⟨.bool, .sh, TC.b (x.2.2.1)⟩, ⟨.bool, .sh, TC.b (x.2.2.2.1)⟩, ⟨.slice 9, .sh, TC.l (x.2.2.2.2.1)⟩, ⟨.slice 2, .sh, TC.l (x.2.2.2.2.2.1)⟩, ⟨.slice 71, .sh, TC.l (x.2.2.2.2.2.2.1)⟩, ⟨.slice 32, .sh, TC.l (x.2.2.2.2.2.2.2.1)⟩, ⟨.int .i64, .sh, TC.i (x.2.2.2.2.2.2.2.2.1)⟩], ⟨0, 0⟩⟩, ⟨.val false [⟨.bool, .sh, TC.b false⟩], ⟨0, 0⟩⟩, ⟨.val false [⟨.int .i64, .sh, TC.i (x.2.2.2.2.2.2.2.2.2)⟩], ⟨0, 0⟩⟩])) (fun x => (.exit 0, [⟨.bx 32 [⟨.int .i64, .sh, TC.i (x.1)⟩, ⟨.int .i64, .sh, TC.i (x.2.1)⟩, ⟨.bool, .sh, TC.b (x.2.2.1)⟩, ⟨.bool, .sh, TC.b (x.2.2.2.1)⟩, ⟨.slice 9, .sh, TC.l (x.2.2.2.2.1)⟩, ⟨.slice 2, .sh, TC.l (x.2.2.2.2.2.1)⟩, ⟨.slice 71, .sh, TC.l (x.2.2.2.2.2.2.1)⟩, ⟨.slice 32, .sh, TC.l (x.2.2.2.2.2.2.2.1)⟩, ⟨.int .i64, .sh, TC.i (x.2.2.2.2.2.2.2.2.1)⟩], ⟨0, 0⟩⟩, Slot.none, ⟨.val false [⟨.int .i64, .sh, TC.i (x.2.2.2.2.2.2.2.2.2)⟩], ⟨0, 0⟩⟩])))
def qc_lo7 : List Slot → Option (Told (Ex × List Slot)) := fun s => match s with
  | [⟨.bx 32 [⟨.int .i64, .sh, TC.i k⟩, ⟨.int .i64, .sh, TC.i s⟩, ⟨.bool, .sh, TC.b sg⟩, ⟨.bool, .sh, TC.b bg⟩, ⟨.slice 9, .sh, TC.l NA⟩, ⟨.slice 2, .sh, TC.l NU⟩, ⟨.slice 71, .sh, TC.l ME⟩, ⟨.slice 32, .sh, TC.l BA⟩, ⟨.int .i64, .sh, TC.i ct⟩], ⟨0, 0⟩⟩, ⟨.val false [⟨.int .i64, .sh, TC.i en⟩], ⟨0, 0⟩⟩, ⟨.val false [⟨.int .i64, .sh, TC.i i⟩], ⟨0, 0⟩⟩] => some (((qc_7_fin k s sg bg NA NU ME BA ct en i)).map qc_7_out)
  | _ => .none
def qc_lo : LoopTeller := fun r s => bif Nat.beq r 7 then qc_lo7 s else bif Nat.beq r 13 then qc_lo13 s else .none
theorem qc_13_r (k s : Int) (sg bg : Bool) (NA NU ME BA : LL) (ct en ix : Int) (mn : BS) (mo mk ms : Int) (msg mbg : Bool) (mNA mNU mME mBA : LL) (mct q : Int) (fuel : Nat) : rounds (rnd tab FT D24 live 66 qc_lo 1 13) leave (fuel + 1) (qc_13_sl (k, s, sg, bg, NA, NU, ME, BA, ct, en, ix, mn, mo, mk, ms, msg, mbg, mNA, mNU, mME, mBA, mct, q)) = ((qc_13_step k s sg bg NA NU ME BA ct en ix mn mo mk ms msg mbg mNA mNU mME mBA mct q)).run (goOn (fun s => rounds (rnd tab FT D24 live 66 qc_lo 1 13) leave fuel (qc_13_sl s)) fun w => some (qc_13_out w)) := by kernel_rfl
theorem qc_f13_eq (k s : Int) (sg bg : Bool) (NA NU ME BA : LL) (ct : Int) (en ix : Int) (mn : BS) (mo mk ms : Int) (msg mbg : Bool) (mNA mNU mME mBA : LL) (mct i : Int) : qc_f13 k s sg bg NA NU ME BA ct en ix mn mo mk ms msg mbg mNA mNU mME mBA mct i = bif !(strAt ME i == mn) then Sum.inl () else Sum.inr (Sum.inl (k, s, sg, bg, NA, NU, ME, BA, ct, en, ix, mn, mo, mk, ms, msg, mbg, mNA, mNU, mME, mBA, mct)) := by
  unfold qc_f13 strAt
  skip
  generalize ((nth (row ME i) 0).str == mn) = p0
  cases p0 <;> rfl
theorem qc_R13_eq (k s : Int) (sg bg : Bool) (NA NU ME BA : LL) (ct : Int) (en ix : Int) (mn : BS) (mo mk ms : Int) (msg mbg : Bool) (mNA mNU mME mBA : LL) (mct : Int)  : qc_R13 k s sg bg NA NU ME BA ct en ix mn mo mk ms msg mbg mNA mNU mME mBA mct 0 = bif allI (fun i : Nat => !(strAt ME (i : Int) == mn)) (ix.toNat) then Sum.inr (k, s, sg, bg, NA, NU, ME, BA, ct, en, ix, mn, mo, mk, ms, msg, mbg, mNA, mNU, mME, mBA, mct) else (Sum.inl (k, s, sg, bg, NA, NU, ME, BA, ct, en, ix, mn, mo, mk, ms, msg, mbg, mNA, mNU, mME, mBA, mct)) := by
  unfold qc_R13
  exact (iter_all (P := (fun i : Nat => !(strAt ME (i : Int) == mn))) (g := fun _ a => a) (w := Sum.inl (k, s, sg, bg, NA, NU, ME, BA, ct, en, ix, mn, mo, mk, ms, msg, mbg, mNA, mNU, mME, mBA, mct)) fun j a _ => qc_f13_eq k s sg bg NA NU ME BA ct en ix mn mo mk ms msg mbg mNA mNU mME mBA mct _)
theorem qc_13_h (k s : Int) (sg bg : Bool) (NA NU ME BA : LL) (ct en ix : Int) (mn : BS) (mo mk ms : Int) (msg mbg : Bool) (mNA mNU mME mBA : LL) (mct q : Int) (ow : qc_13_ω) : ((qc_13_fin k s sg bg NA NU ME BA ct en ix mn mo mk ms msg mbg mNA mNU mME mBA mct q)).val = some ow → ∃ fuel, loopN qc_13_st fuel (k, s, sg, bg, NA, NU, ME, BA, ct, en, ix, mn, mo, mk, ms, msg, mbg, mNA, mNU, mME, mBA, mct, q) = some ow := by
  refine auto_const (R := (qc_R13 k s sg bg NA NU ME BA ct en ix mn mo mk ms msg mbg mNA mNU mME mBA mct q)) rfl (iter_onR (f := (fun i a => (qc_f13 k s sg bg NA NU ME BA ct en ix mn mo mk ms msg mbg mNA mNU mME mBA mct (i : Int)))) (fin := (fun a => (qc_e13 k s sg bg NA NU ME BA ct en ix mn mo mk ms msg mbg mNA mNU mME mBA mct))) (Q := endsAs (k, s, sg, bg, NA, NU, ME, BA, ct, en, ix, mn, mo, mk, ms, msg, mbg, mNA, mNU, mME, mBA, mct) (k, s, sg, bg, NA, NU, ME, BA, ct, en, ix, mn, mo, mk, ms, msg, mbg, mNA, mNU, mME, mBA, mct)) (fun i a => by unfold qc_f13; exact (onR_bif rfl trivial)) (fun _ => rfl) _ _ _) ?_
  intro ho
  have ho : is (q = 0 ∧ 0 ≤ ix ∧ ix < (ME.length : Int) ∧ ME.length ≤ 140737488355328) = true := ho.elim id id
  obtain ⟨rfl, h0, h1, h2⟩ := is_iff.1 ho
  skip
  refine ⟨(ix.toNat) + 1, ?_⟩
  refine iter_loop (step := qc_13_st) (ix.toNat) (fun i a => (qc_f13 k s sg bg NA NU ME BA ct en ix mn mo mk ms msg mbg mNA mNU mME mBA mct (i : Int))) (fun a => (qc_e13 k s sg bg NA NU ME BA ct en ix mn mo mk ms msg mbg mNA mNU mME mBA mct)) (fun i a => (k, s, sg, bg, NA, NU, ME, BA, ct, en, ix, mn, mo, mk, ms, msg, mbg, mNA, mNU, mME, mBA, mct, (i : Int))) (fun _ _ => True) trivial (fun i a hi hI => ⟨?_, fun _ _ => trivial⟩) (fun a hI => ?_)
  · show (qc_13_step k s sg bg NA NU ME BA ct en ix mn mo mk ms msg mbg mNA mNU mME mBA mct (i : Int)).val = _
    unfold qc_13_step qc_f13
    skip
    refine Tr.t (by simp; omega) ?_
    exact (Tr.t (by first | omega | (constructor <;> omega)) (Tr.bf rfl (by rw [Tr.val_ok, wrap64 (i := (i : Int) + 1) (by omega) (by omega)]; rfl)))
  · show (qc_13_step k s sg bg NA NU ME BA ct en ix mn mo mk ms msg mbg mNA mNU mME mBA mct (ix.toNat : Int)).val = _
    refine Tr.n (by first | (simp; done) | (simp; omega) | omega) ?_
    rfl
theorem qc_is13 : LoopIs tab FT D24 live 66 qc_lo 1 13 := by
  refine loop_told (sl := qc_13_sl) (step := qc_13_st) (out := qc_13_out) (lor := qc_lo13) (fin := fun x => (qc_13_fin (x.1) (x.2.1) (x.2.2.1) (x.2.2.2.1) (x.2.2.2.2.1) (x.2.2.2.2.2.1) (x.2.2.2.2.2.2.1) (x.2.2.2.2.2.2.2.1) (x.2.2.2.2.2.2.2.2.1) (x.2.2.2.2.2.2.2.2.2.1) (x.2.2.2.2.2.2.2.2.2.2.1) (x.2.2.2.2.2.2.2.2.2.2.2.1) (x.2.2.2.2.2.2.2.2.2.2.2.2.1) (x.2.2.2.2.2.2.2.2.2.2.2.2.2.1) (x.2.2.2.2.2.2.2.2.2.2.2.2.2.2.1) (x.2.2.2.2.2.2.2.2.2.2.2.2.2.2.2.1) (x.2.2.2.2.2.2.2.2.2.2.2.2.2.2.2.2.1) (x.2.2.2.2.2.2.2.2.2.2.2.2.2.2.2.2.2.1) (x.2.2.2.2.2.2.2.2.2.2.2.2.2.2.2.2.2.2.1) (x.2.2.2.2.2.2.2.2.2.2.2.2.2.2.2.2.2.2.2.1) (x.2.2.2.2.2.2.2.2.2.2.2.2.2.2.2.2.2.2.2.2.1) (x.2.2.2.2.2.2.2.2.2.2.2.2.2.2.2.2.2.2.2.2.2.1) (x.2.2.2.2.2.2.2.2.2.2.2.2.2.2.2.2.2.2.2.2.2.2))) (fun _ => rfl) ?_ (fun x n => qc_13_r x.1 x.2.1 x.2.2.1 x.2.2.2.1 x.2.2.2.2.1 x.2.2.2.2.2.1 x.2.2.2.2.2.2.1 x.2.2.2.2.2.2.2.1 x.2.2.2.2.2.2.2.2.1 x.2.2.2.2.2.2.2.2.2.1 x.2.2.2.2.2.2.2.2.2.2.1 x.2.2.2.2.2.2.2.2.2.2.2.1 x.2.2.2.2.2.2.2.2.2.2.2.2.1 x.2.2.2.2.2.2.2.2.2.2.2.2.2.1 x.2.2.2.2.2.2.2.2.2.2.2.2.2.2.1 x.2.2.2.2.2.2.2.2.2.2.2.2.2.2.2.1 x.2.2.2.2.2.2.2.2.2.2.2.2.2.2.2.2.1 x.2.2.2.2.2.2.2.2.2.2.2.2.2.2.2.2.2.1 x.2.2.2.2.2.2.2.2.2.2.2.2.2.2.2.2.2.2.1 x.2.2.2.2.2.2.2.2.2.2.2.2.2.2.2.2.2.2.2.1 x.2.2.2.2.2.2.2.2.2.2.2.2.2.2.2.2.2.2.2.2.1 x.2.2.2.2.2.2.2.2.2.2.2.2.2.2.2.2.2.2.2.2.2.1 x.2.2.2.2.2.2.2.2.2.2.2.2.2.2.2.2.2.2.2.2.2.2 n) (fun x ow => qc_13_h x.1 x.2.1 x.2.2.1 x.2.2.2.1 x.2.2.2.2.1 x.2.2.2.2.2.1 x.2.2.2.2.2.2.1 x.2.2.2.2.2.2.2.1 x.2.2.2.2.2.2.2.2.1 x.2.2.2.2.2.2.2.2.2.1 x.2.2.2.2.2.2.2.2.2.2.1 x.2.2.2.2.2.2.2.2.2.2.2.1 x.2.2.2.2.2.2.2.2.2.2.2.2.1 x.2.2.2.2.2.2.2.2.2.2.2.2.2.1 x.2.2.2.2.2.2.2.2.2.2.2.2.2.2.1 x.2.2.2.2.2.2.2.2.2.2.2.2.2.2.2.1 x.2.2.2.2.2.2.2.2.2.2.2.2.2.2.2.2.1 x.2.2.2.2.2.2.2.2.2.2.2.2.2.2.2.2.2.1 x.2.2.2.2.2.2.2.2.2.2.2.2.2.2.2.2.2.2.1 x.2.2.2.2.2.2.2.2.2.2.2.2.2.2.2.2.2.2.2.1 x.2.2.2.2.2.2.2.2.2.2.2.2.2.2.2.2.2.2.2.2.1 x.2.2.2.2.2.2.2.2.2.2.2.2.2.2.2.2.2.2.2.2.2.1 x.2.2.2.2.2.2.2.2.2.2.2.2.2.2.2.2.2.2.2.2.2.2 ow)
  intro s t h
  unfold qc_lo13 at h
  split at h
  · cases h; exact ⟨(_, _, _, _, _, _, _, _, _, _, _, _, _, _, _, _, _, _, _, _, _, _, _), rfl, rfl⟩
  · cases h
theorem qc_7_r (k s : Int) (sg bg : Bool) (NA NU ME BA : LL) (ct en i : Int) (fuel : Nat) : rounds (rnd tab FT D24 live 66 qc_lo 0 7) leave (fuel + 1) (qc_7_sl (k, s, sg, bg, NA, NU, ME, BA, ct, en, i)) = ((qc_7_step k s sg bg NA NU ME BA ct en i)).run (goOn (fun s => rounds (rnd tab FT D24 live 66 qc_lo 0 7) leave fuel (qc_7_sl s)) fun w => some (qc_7_out w)) := by kernel_rfl
theorem qc_f7_eq (k s : Int) (sg bg : Bool) (NA NU ME BA : LL) (ct : Int) (i e : Int) : qc_f7 k s sg bg NA NU ME BA ct i e = bif (nameOk (strAt ME i) && (!decide ((nth (row ME i) 1).int < e) && (!decide ((nth (row ME i) 1).int > 24) && (okV (nth (row ME i) 2).int (nth (row ME i) 3).int (nth (row ME i) 4).bool (nth (row ME i) 5).bool (nth (row ME i) 6).list (nth (row ME i) 7).list (nth (row ME i) 8).list (nth (row ME i) 9).list (nth (row ME i) 10).int && noDupN ME i)))) then Sum.inl (IntKind.wrap .i64 ((nth (row ME i) 1).int + sizeV (nth (row ME i) 2).int (nth (row ME i) 3).int (nth (row ME i) 9).list (nth (row ME i) 10).int)) else Sum.inr (Sum.inl (k, s, sg, bg, NA, NU, ME, BA, ct, e)) := by
  unfold qc_f7
  rw [show ∀ e, qc_k13_1 k s sg bg NA NU ME BA ct e i (nth (row ME i) 0).str (nth (row ME i) 1).int (nth (row ME i) 2).int (nth (row ME i) 3).int (nth (row ME i) 4).bool (nth (row ME i) 5).bool (nth (row ME i) 6).list (nth (row ME i) 7).list (nth (row ME i) 8).list (nth (row ME i) 9).list (nth (row ME i) 10).int 0 = !(noDupN ME i) from fun e => by unfold qc_k13_1 noDupN; rw [qc_R13_eq]; unfold strAt; generalize allI _ _ = q; cases q <;> rfl]
  rw [qs_vv, show qbi_rv (nth (row ME i) 2).int (nth (row ME i) 3).int (nth (row ME i) 4).bool (nth (row ME i) 5).bool (nth (row ME i) 6).list (nth (row ME i) 7).list (nth (row ME i) 8).list (nth (row ME i) 9).list (nth (row ME i) 10).int = okV (nth (row ME i) 2).int (nth (row ME i) 3).int (nth (row ME i) 4).bool (nth (row ME i) 5).bool (nth (row ME i) 6).list (nth (row ME i) 7).list (nth (row ME i) 8).list (nth (row ME i) 9).list (nth (row ME i) 10).int from rfl, show strAt ME i = (nth (row ME i) 0).str from rfl]
  generalize nameOk _ = p0, decide ((nth (row ME i) 1).int < e) = p1, decide ((nth (row ME i) 1).int > 24) = p2, okV (nth (row ME i) 2).int (nth (row ME i) 3).int (nth (row ME i) 4).bool (nth (row ME i) 5).bool (nth (row ME i) 6).list (nth (row ME i) 7).list (nth (row ME i) 8).list (nth (row ME i) 9).list (nth (row ME i) 10).int = p3, noDupN ME i = p4
  cases p0 <;> cases p1 <;> cases p2 <;> cases p3 <;> cases p4 <;> rfl
theorem qc_R7_eq (k s : Int) (sg bg : Bool) (NA NU ME BA : LL) (ct : Int) : ∃ e, qc_R7 k s sg bg NA NU ME BA ct 0 0 = bif (allI (memP ME) ME.length && ME.all fun x => okV (nth x 2).int (nth x 3).int (nth x 4).bool (nth x 5).bool (nth x 6).list (nth x 7).list (nth x 8).list (nth x 9).list (nth x 10).int) then Sum.inr (k, s, sg, bg, NA, NU, ME, BA, ct, endAt ME ME.length) else Sum.inl (k, s, sg, bg, NA, NU, ME, BA, ct, e) := by
  unfold qc_R7
  obtain ⟨a, ha⟩ := iter_along (f := fun i a => qc_f7 k s sg bg NA NU ME BA ct (i : Int) a) (fin := fun a => qc_e7 k s sg bg NA NU ME BA ct a) (P := fun i : Nat => nameOk (strAt ME (i : Int)) && (!decide ((nth (row ME (i : Int)) 1).int < endAt ME i) && (!decide ((nth (row ME (i : Int)) 1).int > 24) && (okV (nth (row ME (i : Int)) 2).int (nth (row ME (i : Int)) 3).int (nth (row ME (i : Int)) 4).bool (nth (row ME (i : Int)) 5).bool (nth (row ME (i : Int)) 6).list (nth (row ME (i : Int)) 7).list (nth (row ME (i : Int)) 8).list (nth (row ME (i : Int)) 9).list (nth (row ME (i : Int)) 10).int && noDupN ME (i : Int))))) (A := endAt ME) (w := fun e => Sum.inl (k, s, sg, bg, NA, NU, ME, BA, ct, e)) (N := ME.length) (fun j _ => qc_f7_eq k s sg bg NA NU ME BA ct (j : Int) (endAt ME j))
  refine ⟨a, ha.trans ?_⟩
  rw [show allI (fun i : Nat => nameOk (strAt ME (i : Int)) && (!decide ((nth (row ME (i : Int)) 1).int < endAt ME i) && (!decide ((nth (row ME (i : Int)) 1).int > 24) && (okV (nth (row ME (i : Int)) 2).int (nth (row ME (i : Int)) 3).int (nth (row ME (i : Int)) 4).bool (nth (row ME (i : Int)) 5).bool (nth (row ME (i : Int)) 6).list (nth (row ME (i : Int)) 7).list (nth (row ME (i : Int)) 8).list (nth (row ME (i : Int)) 9).list (nth (row ME (i : Int)) 10).int && noDupN ME (i : Int))))) ME.length = (allI (memP ME) ME.length && ME.all fun x => okV (nth x 2).int (nth x 3).int (nth x 4).bool (nth x 5).bool (nth x 6).list (nth x 7).list (nth x 8).list (nth x 9).list (nth x 10).int) from by
    rw [← allI_rows, ← allI_and]
    refine allI_congr fun i _ => ?_
    unfold memP
    generalize nameOk _ = p0, decide ((nth (row ME (i : Int)) 1).int < endAt ME i) = p1, decide ((nth (row ME (i : Int)) 1).int > 24) = p2, okV (nth (row ME (i : Int)) 2).int (nth (row ME (i : Int)) 3).int (nth (row ME (i : Int)) 4).bool (nth (row ME (i : Int)) 5).bool (nth (row ME (i : Int)) 6).list (nth (row ME (i : Int)) 7).list (nth (row ME (i : Int)) 8).list (nth (row ME (i : Int)) 9).list (nth (row ME (i : Int)) 10).int = p3, noDupN ME _ = p4
    cases p0 <;> cases p1 <;> cases p2 <;> cases p3 <;> cases p4 <;> rfl]
  rfl
theorem qc_7_h (k s : Int) (sg bg : Bool) (NA NU ME BA : LL) (ct en i : Int) (ow : qc_7_ω) : ((qc_7_fin k s sg bg NA NU ME BA ct en i)).val = some ow → ∃ fuel, loopN qc_7_st fuel (k, s, sg, bg, NA, NU, ME, BA, ct, en, i) = some ow := by
  refine auto_sum (R := (qc_R7 k s sg bg NA NU ME BA ct en i)) rfl rfl rfl ?_
  intro ho
  have ho : is (i = 0 ∧ Typed tab (.slice 71) (.l ME) ∧ (∀ x : List TC, x ∈ ME → qbi_rc (nth x 2).int (nth x 3).int (nth x 4).bool (nth x 5).bool (nth x 6).list (nth x 7).list (nth x 8).list (nth x 9).list (nth x 10).int = true) ∧ (∀ x : List TC, x ∈ ME → (!(qbi_rv (nth x 2).int (nth x 3).int (nth x 4).bool (nth x 5).bool (nth x 6).list (nth x 7).list (nth x 8).list (nth x 9).list (nth x 10).int)) = false → qn_rc (nth x 2).int (nth x 3).int (nth x 4).bool (nth x 5).bool (nth x 6).list (nth x 7).list (nth x 8).list (nth x 9).list (nth x 10).int = true)) = true := ho.elim id id
  obtain ⟨rfl, ht, hr, hz⟩ := is_iff.1 ho
  have hlen : ME.length ≤ 140737488351232 := by have := typed_room ht; simp only [show (tab 71).bytes = 152 from rfl] at this; omega
  refine ⟨(ME.length) + 1, ?_⟩
  refine iter_loop (step := qc_7_st) (ME.length) (fun i a => (qc_f7 k s sg bg NA NU ME BA ct (i : Int) a)) (fun a => (qc_e7 k s sg bg NA NU ME BA ct a)) (fun i a => (k, s, sg, bg, NA, NU, ME, BA, ct, a, (i : Int))) (fun _ _ => True) trivial (fun i a hi hI => ⟨?_, fun _ _ => trivial⟩) (fun a hI => ?_)
  · show (qc_7_step k s sg bg NA NU ME BA ct a (i : Int)).val = _
    unfold qc_7_step qc_f7
    have c0 : Typed tab (.str) (.s (nth (ME.getD i []) 0).str) := typed_s (typed_cell ht (ME.getD i []) (mem_getD hi) 0 (by decide))
    have c6 : Typed tab (.slice 9) (.l (nth (ME.getD i []) 6).list) := typed_list (typed_cell ht (ME.getD i []) (mem_getD hi) 6 (by decide))
    have c7 : Typed tab (.slice 2) (.l (nth (ME.getD i []) 7).list) := typed_list (typed_cell ht (ME.getD i []) (mem_getD hi) 7 (by decide))
    have c8 : Typed tab (.slice 71) (.l (nth (ME.getD i []) 8).list) := typed_list (typed_cell ht (ME.getD i []) (mem_getD hi) 8 (by decide))
    have c9 : Typed tab (.slice 32) (.l (nth (ME.getD i []) 9).list) := typed_list (typed_cell ht (ME.getD i []) (mem_getD hi) 9 (by decide))
    refine Tr.t (by simp; omega) ?_
    exact (Tr.t (by first | omega | (constructor <;> omega) | (exact is_true ⟨rfl, by omega, by omega, by omega⟩) | (exact hr _ (mem_getD (by omega))) | (exact hz _ (mem_getD (by omega)) (by assumption))) (Tr.t (by first | (exact is_true ⟨rfl, by omega, by omega, by omega⟩) | (exact hr _ (mem_getD (by omega))) | (exact hz _ (mem_getD (by omega)) (by assumption)) | (first | (apply qs_cc <;> assumption) | (first | (apply is_true; and_intros <;> (first | rfl | assumption | (apply qj_cc <;> assumption) | (apply qbh_cc <;> assumption) | (apply qm_cc <;> assumption) | (apply qt_cc <;> assumption) | (apply qx_cc <;> assumption) | (apply qbb_cc <;> assumption) | (apply qs_cc <;> assumption) | (apply qf_cc <;> assumption) | (first | (apply is_true; and_intros <;> (first | rfl | assumption | (apply qj_cc <;> assumption) | (apply qbh_cc <;> assumption) | (apply qm_cc <;> assumption) | (apply qt_cc <;> assumption) | (apply qx_cc <;> assumption) | (apply qbb_cc <;> assumption) | (apply qs_cc <;> assumption) | (apply qf_cc <;> assumption))) | (apply qj_cc <;> assumption) | (apply qbh_cc <;> assumption) | (apply qm_cc <;> assumption) | (apply qt_cc <;> assumption) | (apply qx_cc <;> assumption) | (apply qbb_cc <;> assumption) | (apply qs_cc <;> assumption) | (apply qf_cc <;> assumption)))) | (apply qj_cc <;> assumption) | (apply qbh_cc <;> assumption) | (apply qm_cc <;> assumption) | (apply qt_cc <;> assumption) | (apply qx_cc <;> assumption) | (apply qbb_cc <;> assumption) | (apply qs_cc <;> assumption) | (apply qf_cc <;> assumption)))) (Tr.bh (fun _ => rfl) (fun _ => (Tr.bh (fun _ => rfl) (fun _ => (Tr.bh (fun _ => rfl) (fun _ => (Tr.t (by first | omega | (constructor <;> omega) | (exact is_true ⟨rfl, by omega, by omega, by omega⟩) | (exact hr _ (mem_getD (by omega))) | (exact hz _ (mem_getD (by omega)) (by assumption))) (Tr.bh (fun _ => rfl) (fun _ => (Tr.bh (fun _ => (Tr.t (by first | (exact is_true ⟨rfl, by omega, by omega, by omega⟩) | (exact hr _ (mem_getD (by omega))) | (exact hz _ (mem_getD (by omega)) (by assumption)) | (first | (apply is_true; and_intros <;> (first | rfl | assumption | (apply qj_cc <;> assumption) | (apply qbh_cc <;> assumption) | (apply qm_cc <;> assumption) | (apply qt_cc <;> assumption) | (apply qx_cc <;> assumption) | (apply qbb_cc <;> assumption) | (apply qs_cc <;> assumption) | (apply qf_cc <;> assumption) | (first | (apply is_true; and_intros <;> (first | rfl | assumption | (apply qj_cc <;> assumption) | (apply qbh_cc <;> assumption) | (apply qm_cc <;> assumption) | (apply qt_cc <;> assumption) | (apply qx_cc <;> assumption) | (apply qbb_cc <;> assumption) | (apply qs_cc <;> assumption) | (apply qf_cc <;> assumption) | (first | (apply is_true; and_intros <;> (first | rfl | assumption | (apply qj_cc <;> assumption) | (apply qbh_cc <;> assumption) | (apply qm_cc <;> assumption) | (apply qt_cc <;> assumption) | (apply qx_cc <;> assumption) | (apply qbb_cc <;> assumption) | (apply qs_cc <;> assumption) | (apply qf_cc <;> assumption))) | (apply qj_cc <;> assumption) | (apply qbh_cc <;> assumption) | (apply qm_cc <;> assumption) | (apply qt_cc <;> assumption) | (apply qx_cc <;> assumption) | (apply qbb_cc <;> assumption) | (apply qs_cc <;> assumption) | (apply qf_cc <;> assumption)))) | (apply qj_cc <;> assumption) | (apply qbh_cc <;> assumption) | (apply qm_cc <;> assumption) | (apply qt_cc <;> assumption) | (apply qx_cc <;> assumption) | (apply qbb_cc <;> assumption) | (apply qs_cc <;> assumption) | (apply qf_cc <;> assumption)))) | (apply qj_cc <;> assumption) | (apply qbh_cc <;> assumption) | (apply qm_cc <;> assumption) | (apply qt_cc <;> assumption) | (apply qx_cc <;> assumption) | (apply qbb_cc <;> assumption) | (apply qs_cc <;> assumption) | (apply qf_cc <;> assumption))) rfl)) (fun _ => (Tr.t (by first | (exact is_true ⟨rfl, by omega, by omega, by omega⟩) | (exact hr _ (mem_getD (by omega))) | (exact hz _ (mem_getD (by omega)) (by assumption)) | (first | (apply is_true; and_intros <;> (first | rfl | assumption | (apply qj_cc <;> assumption) | (apply qbh_cc <;> assumption) | (apply qm_cc <;> assumption) | (apply qt_cc <;> assumption) | (apply qx_cc <;> assumption) | (apply qbb_cc <;> assumption) | (apply qs_cc <;> assumption) | (apply qf_cc <;> assumption) | (first | (apply is_true; and_intros <;> (first | rfl | assumption | (apply qj_cc <;> assumption) | (apply qbh_cc <;> assumption) | (apply qm_cc <;> assumption) | (apply qt_cc <;> assumption) | (apply qx_cc <;> assumption) | (apply qbb_cc <;> assumption) | (apply qs_cc <;> assumption) | (apply qf_cc <;> assumption) | (first | (apply is_true; and_intros <;> (first | rfl | assumption | (apply qj_cc <;> assumption) | (apply qbh_cc <;> assumption) | (apply qm_cc <;> assumption) | (apply qt_cc <;> assumption) | (apply qx_cc <;> assumption) | (apply qbb_cc <;> assumption) | (apply qs_cc <;> assumption) | (apply qf_cc <;> assumption))) | (apply qj_cc <;> assumption) | (apply qbh_cc <;> assumption) | (apply qm_cc <;> assumption) | (apply qt_cc <;> assumption) | (apply qx_cc <;> assumption) | (apply qbb_cc <;> assumption) | (apply qs_cc <;> assumption) | (apply qf_cc <;> assumption)))) | (apply qj_cc <;> assumption) | (apply qbh_cc <;> assumption) | (apply qm_cc <;> assumption) | (apply qt_cc <;> assumption) | (apply qx_cc <;> assumption) | (apply qbb_cc <;> assumption) | (apply qs_cc <;> assumption) | (apply qf_cc <;> assumption)))) | (apply qj_cc <;> assumption) | (apply qbh_cc <;> assumption) | (apply qm_cc <;> assumption) | (apply qt_cc <;> assumption) | (apply qx_cc <;> assumption) | (apply qbb_cc <;> assumption) | (apply qs_cc <;> assumption) | (apply qf_cc <;> assumption))) (Tr.t (by first | omega | (constructor <;> omega) | (exact is_true ⟨rfl, by omega, by omega, by omega⟩) | (exact hr _ (mem_getD (by omega))) | (exact hz _ (mem_getD (by omega)) (by assumption))) (by rw [Tr.val_ok, wrap64 (i := (i : Int) + 1) (by omega) (by omega)]; rfl))))))))))))))))
  · show (qc_7_step k s sg bg NA NU ME BA ct a (ME.length : Int)).val = _
    refine Tr.n (by first | (simp; done) | (simp; omega) | omega) ?_
    rfl
theorem qc_is7 : LoopIs tab FT D24 live 66 qc_lo 0 7 := by
  refine loop_told (sl := qc_7_sl) (step := qc_7_st) (out := qc_7_out) (lor := qc_lo7) (fin := fun x => (qc_7_fin (x.1) (x.2.1) (x.2.2.1) (x.2.2.2.1) (x.2.2.2.2.1) (x.2.2.2.2.2.1) (x.2.2.2.2.2.2.1) (x.2.2.2.2.2.2.2.1) (x.2.2.2.2.2.2.2.2.1) (x.2.2.2.2.2.2.2.2.2.1) (x.2.2.2.2.2.2.2.2.2.2))) (fun _ => rfl) ?_ (fun x n => qc_7_r x.1 x.2.1 x.2.2.1 x.2.2.2.1 x.2.2.2.2.1 x.2.2.2.2.2.1 x.2.2.2.2.2.2.1 x.2.2.2.2.2.2.2.1 x.2.2.2.2.2.2.2.2.1 x.2.2.2.2.2.2.2.2.2.1 x.2.2.2.2.2.2.2.2.2.2 n) (fun x ow => qc_7_h x.1 x.2.1 x.2.2.1 x.2.2.2.1 x.2.2.2.2.1 x.2.2.2.2.2.1 x.2.2.2.2.2.2.1 x.2.2.2.2.2.2.2.1 x.2.2.2.2.2.2.2.2.1 x.2.2.2.2.2.2.2.2.2.1 x.2.2.2.2.2.2.2.2.2.2 ow)
  intro s t h
  unfold qc_lo7 at h
  split at h
  · cases h; exact ⟨(_, _, _, _, _, _, _, _, _, _, _), rfl, rfl⟩
  · cases h
def qc_t (k s : Int) (sg bg : Bool) (NA NU ME BA : LL) (ct : Int) : Tr (Bool) := (.ite ((!(qch_v s (1 : Int) (24 : Int))) = true) (.ok false)
  (.ite ((!(qbp_v k s sg bg NA NU ME BA ct)) = true) (.ok false)
   (.ite ((decide ((NA.length : Int) > (0 : Int))) = true) (.ok false)
    (.ite ((decide ((NU.length : Int) > (0 : Int))) = true) (.ok false)
     (.ite ((decide ((BA.length : Int) > (0 : Int))) = true) (.ok false)
      (.ite ((!(ct == (0 : Int))) = true) (.ok false)
       (.ite ((decide ((ME.length : Int) < (1 : Int))) = true) (.ok false)
        (.ite ((decide ((ME.length : Int) > (4 : Int))) = true) (.ok false)
         (.ite ((qc_k7_1 k s sg bg NA NU ME BA ct (0 : Int) (0 : Int)) = true) (.ite ((qc_o7_2 k s sg bg NA NU ME BA ct (0 : Int) (0 : Int)) = true) (.ok false)
           .no)
          (.ite ((qc_o7_3 k s sg bg NA NU ME BA ct (0 : Int) (0 : Int)) = true) (.ok (decide ((qc_u7_3_9 k s sg bg NA NU ME BA ct (0 : Int) (0 : Int)) ≤ (qc_u7_3_1 k s sg bg NA NU ME BA ct (0 : Int) (0 : Int)))))
           .no))))))))))
def qc_mk (p : Bool) : Res := [(false, [⟨.bool, .sh, TC.b p⟩])]
def qc_c (k s : Int) (sg bg : Bool) (NA NU ME BA : LL) (ct : Int) : Bool := (bif (!(qch_v s (1 : Int) (24 : Int))) then true else (bif (!(qbp_v k s sg bg NA NU ME BA ct)) then true else (bif (decide ((NA.length : Int) > (0 : Int))) then true else (bif (decide ((NU.length : Int) > (0 : Int))) then true else (bif (decide ((BA.length : Int) > (0 : Int))) then true else (bif (!(ct == (0 : Int))) then true else (bif (decide ((ME.length : Int) < (1 : Int))) then true else (bif (decide ((ME.length : Int) > (4 : Int))) then true else (bif (qc_k7_1 k s sg bg NA NU ME BA ct (0 : Int) (0 : Int)) then ((qc_o7_2 k s sg bg NA NU ME BA ct (0 : Int) (0 : Int)) && true) else ((qc_o7_3 k s sg bg NA NU ME BA ct (0 : Int) (0 : Int)) && true))))))))))
def qc_v (k s : Int) (sg bg : Bool) (NA NU ME BA : LL) (ct : Int) : Bool := (bif (!(qch_v s (1 : Int) (24 : Int))) then false else (bif (!(qbp_v k s sg bg NA NU ME BA ct)) then false else (bif (decide ((NA.length : Int) > (0 : Int))) then false else (bif (decide ((NU.length : Int) > (0 : Int))) then false else (bif (decide ((BA.length : Int) > (0 : Int))) then false else (bif (!(ct == (0 : Int))) then false else (bif (decide ((ME.length : Int) < (1 : Int))) then false else (bif (decide ((ME.length : Int) > (4 : Int))) then false else (bif (qc_k7_1 k s sg bg NA NU ME BA ct (0 : Int) (0 : Int)) then false else (decide ((qc_u7_3_9 k s sg bg NA NU ME BA ct (0 : Int) (0 : Int)) ≤ (qc_u7_3_1 k s sg bg NA NU ME BA ct (0 : Int) (0 : Int)))))))))))))
theorem qc_l (k s : Int) (sg bg : Bool) (NA NU ME BA : LL) (ct : Int) : (qc_c k s sg bg NA NU ME BA ct) = true → (qc_t k s sg bg NA NU ME BA ct).val = some (qc_v k s sg bg NA NU ME BA ct) := by
  unfold qc_t qc_v qc_c
  intro h
  repeat' first | refine Tr.gb h fun h => ?_ | refine Tr.gs h fun h => ?_ | refine Tr.ss h (fun h => ?_) fun h => ?_ | exact rfl
def qc_S : List Arg → Option (Bool × Res) := fun xs => match xs with
  | [(true, [(.int .i64, TC.i k), (.int .i64, TC.i s), (.bool, TC.b sg), (.bool, TC.b bg), (.slice 9, TC.l NA), (.slice 2, TC.l NU), (.slice 71, TC.l ME), (.slice 32, TC.l BA), (.int .i64, TC.i ct)])] => some ((qc_c k s sg bg NA NU ME BA ct), qc_mk (qc_v k s sg bg NA NU ME BA ct))
  | _ => .none
theorem qc_e (k s : Int) (sg bg : Bool) (NA NU ME BA : LL) (ct : Int) : runF tab FT D24 live 66 qc_lo [(true, [(.int .i64, TC.i k), (.int .i64, TC.i s), (.bool, TC.b sg), (.bool, TC.b bg), (.slice 9, TC.l NA), (.slice 2, TC.l NU), (.slice 71, TC.l ME), (.slice 32, TC.l BA), (.int .i64, TC.i ct)])] = (qc_t k s sg bg NA NU ME BA ct).run fun p => some (qc_mk p) := by kernel_rfl
theorem qc_s : ∀ xs r, qc_S xs = some (true, r) → runF tab FT D24 live 66 qc_lo xs = some r := by
  intro xs r h
  unfold qc_S at h
  split at h
  · obtain ⟨h1, rfl⟩ := sp h
    exact fun_told (qc_e ..) (qc_l _ _ _ _ _ _ _ _ _) h1
  · cases h
def D25 : Dt := also D24 66 qc_S
theorem d25 : DOk Go.Proofs.Try.prog tab D25 := d24.also mixed_ok tab_ok names_ok (fnLoops_two (by kernel_rfl) qc_is7 qc_is13) qc_s
theorem qc_cc {k : Int} {s : Int} {sg : Bool} {bg : Bool} {NA : LL} {NU : LL} {ME : LL} {BA : LL} {ct : Int} (ht : Typed tab (.slice 71) (.l ME)) (hr : (∀ x : List TC, x ∈ ME → qbi_rc (nth x 2).int (nth x 3).int (nth x 4).bool (nth x 5).bool (nth x 6).list (nth x 7).list (nth x 8).list (nth x 9).list (nth x 10).int = true)) (hz : (∀ x : List TC, x ∈ ME → (!(qbi_rv (nth x 2).int (nth x 3).int (nth x 4).bool (nth x 5).bool (nth x 6).list (nth x 7).list (nth x 8).list (nth x 9).list (nth x 10).int)) = false → qn_rc (nth x 2).int (nth x 3).int (nth x 4).bool (nth x 5).bool (nth x 6).list (nth x 7).list (nth x 8).list (nth x 9).list (nth x 10).int = true)) : (qc_c k s sg bg NA NU ME BA ct) = true := by
  unfold qc_c
  refine bifT (fun b1 => ?_) (fun b1 => ?_)
  · skip
    rfl
  · skip
    refine bifT (fun b2 => ?_) (fun b2 => ?_)
    · skip
      rfl
    · skip
      refine bifT (fun b3 => ?_) (fun b3 => ?_)
      · skip
        rfl
      · skip
        refine bifT (fun b4 => ?_) (fun b4 => ?_)
        · skip
          rfl
        · skip
          refine bifT (fun b5 => ?_) (fun b5 => ?_)
          · skip
            rfl
          · skip
            refine bifT (fun b6 => ?_) (fun b6 => ?_)
            · skip
              rfl
            · skip
              refine bifT (fun b7 => ?_) (fun b7 => ?_)
              · skip
                rfl
              · skip
                refine bifT (fun b8 => ?_) (fun b8 => ?_)
                · skip
                  rfl
                · skip
                  refine bifT (fun b9 => ?_) (fun b9 => ?_)
                  · skip
                    refine andT (by exact is_true ⟨rfl, ht, hr, hz⟩) ?_
                    rfl
                  · skip
                    refine andT (by exact is_true ⟨rfl, ht, hr, hz⟩) ?_
                    rfl
theorem qc_vv (k s : Int) (sg bg : Bool) (NA NU ME BA : LL) (ct : Int) : qc_v k s sg bg NA NU ME BA ct = (compS s sg bg NA NU ME BA ct && ((allI (memP ME) ME.length && ME.all fun x => okV (nth x 2).int (nth x 3).int (nth x 4).bool (nth x 5).bool (nth x 6).list (nth x 7).list (nth x 8).list (nth x 9).list (nth x 10).int) && decide (endAt ME ME.length ≤ s))) := by
  unfold qc_v compS
  rw [show qbp_v k s sg bg NA NU ME BA ct = plain sg bg from by unfold qbp_v plain; cases sg <;> cases bg <;> rfl, show qch_v s 1 24 = inB s 1 24 from rfl]
  obtain ⟨e, he⟩ := qc_R7_eq k s sg bg NA NU ME BA ct
  have hv : (bif qc_k7_1 k s sg bg NA NU ME BA ct 0 0 then false else decide (qc_u7_3_9 k s sg bg NA NU ME BA ct 0 0 ≤ qc_u7_3_1 k s sg bg NA NU ME BA ct 0 0)) = ((allI (memP ME) ME.length && ME.all fun x => okV (nth x 2).int (nth x 3).int (nth x 4).bool (nth x 5).bool (nth x 6).list (nth x 7).list (nth x 8).list (nth x 9).list (nth x 10).int) && decide (endAt ME ME.length ≤ s)) := by
    unfold qc_k7_1 qc_u7_3_9 qc_u7_3_1
    rw [he]
    generalize (allI (memP ME) ME.length && ME.all fun x => okV (nth x 2).int (nth x 3).int (nth x 4).bool (nth x 5).bool (nth x 6).list (nth x 7).list (nth x 8).list (nth x 9).list (nth x 10).int) = q
    cases q <;> rfl
  rw [hv]
  simp only [bif_nf, bif_tf, bif_ft, Bool.not_not, Bool.and_assoc]
def qbw_t (k s : Int) (sg bg : Bool) (NA NU ME BA : LL) (ct : Int) : Tr (Bool) := (.ite ((!(s == (0 : Int))) = true) (.ok false)
  (.ite ((!(qbp_v k s sg bg NA NU ME BA ct)) = true) (.ok false)
   (.ite ((decide ((NA.length : Int) > (0 : Int))) = true) (.ok false)
    (.ite ((decide ((NU.length : Int) > (0 : Int))) = true) (.ok false)
     (.ite ((decide ((ME.length : Int) > (0 : Int))) = true) (.ok false)
      (.ite ((!((BA.length : Int) == (1 : Int))) = true) (.ok false)
       (.ite ((qch_v ct (1 : Int) (4 : Int)) = true) (.ite ((0 : Int) ≤ (0 : Int) ∧ (0 : Int) < (BA.length : Int)) (.ite ((qbi_rc ((nth (row BA (0 : Int)) 0).int) ((nth (row BA (0 : Int)) 1).int) ((nth (row BA (0 : Int)) 2).bool) ((nth (row BA (0 : Int)) 3).bool) ((nth (row BA (0 : Int)) 4).list) ((nth (row BA (0 : Int)) 5).list) ((nth (row BA (0 : Int)) 6).list) ((nth (row BA (0 : Int)) 7).list) ((nth (row BA (0 : Int)) 8).int)) = true) (.ok (qbi_rv ((nth (row BA (0 : Int)) 0).int) ((nth (row BA (0 : Int)) 1).int) ((nth (row BA (0 : Int)) 2).bool) ((nth (row BA (0 : Int)) 3).bool) ((nth (row BA (0 : Int)) 4).list) ((nth (row BA (0 : Int)) 5).list) ((nth (row BA (0 : Int)) 6).list) ((nth (row BA (0 : Int)) 7).list) ((nth (row BA (0 : Int)) 8).int)))
          .no)
         .no)
        (.ok false))))))))
def qbw_mk (p : Bool) : Res := [(false, [⟨.bool, .sh, TC.b p⟩])]
def qbw_c (k s : Int) (sg bg : Bool) (NA NU ME BA : LL) (ct : Int) : Bool := (bif (!(s == (0 : Int))) then true else (bif (!(qbp_v k s sg bg NA NU ME BA ct)) then true else (bif (decide ((NA.length : Int) > (0 : Int))) then true else (bif (decide ((NU.length : Int) > (0 : Int))) then true else (bif (decide ((ME.length : Int) > (0 : Int))) then true else (bif (!((BA.length : Int) == (1 : Int))) then true else (bif (qch_v ct (1 : Int) (4 : Int)) then (is ((0 : Int) ≤ (0 : Int) ∧ (0 : Int) < (BA.length : Int)) && ((qbi_rc ((nth (row BA (0 : Int)) 0).int) ((nth (row BA (0 : Int)) 1).int) ((nth (row BA (0 : Int)) 2).bool) ((nth (row BA (0 : Int)) 3).bool) ((nth (row BA (0 : Int)) 4).list) ((nth (row BA (0 : Int)) 5).list) ((nth (row BA (0 : Int)) 6).list) ((nth (row BA (0 : Int)) 7).list) ((nth (row BA (0 : Int)) 8).int)) && true)) else true)))))))
def qbw_v (k s : Int) (sg bg : Bool) (NA NU ME BA : LL) (ct : Int) : Bool := (bif (!(s == (0 : Int))) then false else (bif (!(qbp_v k s sg bg NA NU ME BA ct)) then false else (bif (decide ((NA.length : Int) > (0 : Int))) then false else (bif (decide ((NU.length : Int) > (0 : Int))) then false else (bif (decide ((ME.length : Int) > (0 : Int))) then false else (bif (!((BA.length : Int) == (1 : Int))) then false else (bif (qch_v ct (1 : Int) (4 : Int)) then (qbi_rv ((nth (row BA (0 : Int)) 0).int) ((nth (row BA (0 : Int)) 1).int) ((nth (row BA (0 : Int)) 2).bool) ((nth (row BA (0 : Int)) 3).bool) ((nth (row BA (0 : Int)) 4).list) ((nth (row BA (0 : Int)) 5).list) ((nth (row BA (0 : Int)) 6).list) ((nth (row BA (0 : Int)) 7).list) ((nth (row BA (0 : Int)) 8).int)) else false)))))))
theorem qbw_l (k s : Int) (sg bg : Bool) (NA NU ME BA : LL) (ct : Int) : (qbw_c k s sg bg NA NU ME BA ct) = true → (qbw_t k s sg bg NA NU ME BA ct).val = some (qbw_v k s sg bg NA NU ME BA ct) := by
  unfold qbw_t qbw_v qbw_c
  exact fun h => (Tr.ss h (fun h => rfl) (fun h => (Tr.ss h (fun h => rfl) (fun h => (Tr.ss h (fun h => rfl) (fun h => (Tr.ss h (fun h => rfl) (fun h => (Tr.ss h (fun h => rfl) (fun h => (Tr.ss h (fun h => rfl) (fun h => (Tr.ss h (fun h => (Tr.gs h fun h => (Tr.gb h fun h => rfl))) (fun h => rfl))))))))))))))
def qbw_S : List Arg → Option (Bool × Res) := fun xs => match xs with
  | [(true, [(.int .i64, TC.i k), (.int .i64, TC.i s), (.bool, TC.b sg), (.bool, TC.b bg), (.slice 9, TC.l NA), (.slice 2, TC.l NU), (.slice 71, TC.l ME), (.slice 32, TC.l BA), (.int .i64, TC.i ct)])] => some ((qbw_c k s sg bg NA NU ME BA ct), qbw_mk (qbw_v k s sg bg NA NU ME BA ct))
  | _ => .none
theorem qbw_e (k s : Int) (sg bg : Bool) (NA NU ME BA : LL) (ct : Int) : runF tab FT D25 live 67 noLoops [(true, [(.int .i64, TC.i k), (.int .i64, TC.i s), (.bool, TC.b sg), (.bool, TC.b bg), (.slice 9, TC.l NA), (.slice 2, TC.l NU), (.slice 71, TC.l ME), (.slice 32, TC.l BA), (.int .i64, TC.i ct)])] = (qbw_t k s sg bg NA NU ME BA ct).run fun p => some (qbw_mk p) := by kernel_rfl
theorem qbw_s : ∀ xs r, qbw_S xs = some (true, r) → runF tab FT D25 live 67 noLoops xs = some r := by
  intro xs r h
  unfold qbw_S at h
  split at h
  · obtain ⟨h1, rfl⟩ := sp h
    exact fun_told (qbw_e ..) (qbw_l _ _ _ _ _ _ _ _ _) h1
  · cases h
def D26 : Dt := also D25 67 qbw_S
theorem d26 : DOk Go.Proofs.Try.prog tab D26 := d25.also mixed_ok tab_ok names_ok noLoops_ok qbw_s
theorem qbw_cc {k : Int} {s : Int} {sg : Bool} {bg : Bool} {NA : LL} {NU : LL} {ME : LL} {BA : LL} {ct : Int} (hr : 0 < BA.length → qbi_rc (nth (row BA (0 : Int)) 0).int (nth (row BA (0 : Int)) 1).int (nth (row BA (0 : Int)) 2).bool (nth (row BA (0 : Int)) 3).bool (nth (row BA (0 : Int)) 4).list (nth (row BA (0 : Int)) 5).list (nth (row BA (0 : Int)) 6).list (nth (row BA (0 : Int)) 7).list (nth (row BA (0 : Int)) 8).int = true) : (qbw_c k s sg bg NA NU ME BA ct) = true := by
  unfold qbw_c
  refine bifT (fun b1 => ?_) (fun b1 => ?_)
  · skip
    rfl
  · skip
    refine bifT (fun b2 => ?_) (fun b2 => ?_)
    · skip
      rfl
    · skip
      refine bifT (fun b3 => ?_) (fun b3 => ?_)
      · skip
        rfl
      · skip
        refine bifT (fun b4 => ?_) (fun b4 => ?_)
        · skip
          rfl
        · skip
          refine bifT (fun b5 => ?_) (fun b5 => ?_)
          · skip
            rfl
          · skip
            refine bifT (fun b6 => ?_) (fun b6 => ?_)
            · skip
              rfl
            · skip
              refine bifT (fun b7 => ?_) (fun b7 => ?_)
              · skip
                refine andT (is_true (by have e6 := bneF b6; omega)) ?_
                refine andT (by have e6 := bneF b6; exact hr (by omega)) ?_
                rfl
              · skip
                rfl
theorem qbw_vv (k s : Int) (sg bg : Bool) (NA NU ME BA : LL) (ct : Int) : qbw_v k s sg bg NA NU ME BA ct = (arrS s sg bg NA NU ME BA ct && (if h : 0 < BA.length then okV (nth (row BA (0 : Int)) 0).int (nth (row BA (0 : Int)) 1).int (nth (row BA (0 : Int)) 2).bool (nth (row BA (0 : Int)) 3).bool (nth (row BA (0 : Int)) 4).list (nth (row BA (0 : Int)) 5).list (nth (row BA (0 : Int)) 6).list (nth (row BA (0 : Int)) 7).list (nth (row BA (0 : Int)) 8).int else false)) := by
  unfold qbw_v arrS
  rw [show qbp_v k s sg bg NA NU ME BA ct = plain sg bg from by unfold qbp_v plain; cases sg <;> cases bg <;> rfl, show qch_v ct 1 4 = inB ct 1 4 from rfl, show qbi_rv (nth (row BA (0 : Int)) 0).int (nth (row BA (0 : Int)) 1).int (nth (row BA (0 : Int)) 2).bool (nth (row BA (0 : Int)) 3).bool (nth (row BA (0 : Int)) 4).list (nth (row BA (0 : Int)) 5).list (nth (row BA (0 : Int)) 6).list (nth (row BA (0 : Int)) 7).list (nth (row BA (0 : Int)) 8).int = okV (nth (row BA (0 : Int)) 0).int (nth (row BA (0 : Int)) 1).int (nth (row BA (0 : Int)) 2).bool (nth (row BA (0 : Int)) 3).bool (nth (row BA (0 : Int)) 4).list (nth (row BA (0 : Int)) 5).list (nth (row BA (0 : Int)) 6).list (nth (row BA (0 : Int)) 7).list (nth (row BA (0 : Int)) 8).int from rfl]
  simp only [bif_nf, bif_tf, bif_ft, Bool.not_not, Bool.and_assoc]
  cases hb : ((BA.length : Int) == 1) with
  | true => rw [dif_pos (by have := beq_iff_eq.1 hb; omega)]
  | false => simp only [Bool.false_and, Bool.and_false]
def qbi_t (k s : Int) (sg bg : Bool) (NA NU ME BA : LL) (ct : Int) : Tr (Bool) := (.ite ((k == (1 : Int)) = true) (.ite ((k == (2 : Int)) = true) (.ite ((qck_v k s sg bg NA NU ME BA ct) = true) (.ite ((qbp_v k s sg bg NA NU ME BA ct) = true) (.ite (((NA.length : Int) == (0 : Int)) = true) (.ite (((NU.length : Int) == (0 : Int)) = true) (.ite (((ME.length : Int) == (0 : Int)) = true) (.ite (((BA.length : Int) == (0 : Int)) = true) (.ite ((ct == (0 : Int)) = true) (.ite ((qn_rc k s sg bg NA NU ME BA ct) = true) (.ite ((decide ((qn_rv k s sg bg NA NU ME BA ct) ≤ (24 : Int))) = true) (.ite ((qe_rc k s sg bg NA NU ME BA ct) = true) (.ok (decide ((qe_rv k s sg bg NA NU ME BA ct) ≤ (3 : Int))))
             .no)
            (.ok false))
           .no)
          (.ok false))
         (.ok false))
        (.ok false))
       (.ok false))
      (.ok false))
     (.ok false))
    (.ok false))
   (.ite ((k == (6 : Int)) = true) (.ite ((qck_v k s sg bg NA NU ME BA ct) = true) (.ite ((qbp_v k s sg bg NA NU ME BA ct) = true) (.ite (((NA.length : Int) == (0 : Int)) = true) (.ite (((NU.length : Int) == (0 : Int)) = true) (.ite (((ME.length : Int) == (0 : Int)) = true) (.ite (((BA.length : Int) == (0 : Int)) = true) (.ite ((ct == (0 : Int)) = true) (.ite ((qn_rc k s sg bg NA NU ME BA ct) = true) (.ite ((decide ((qn_rv k s sg bg NA NU ME BA ct) ≤ (24 : Int))) = true) (.ite ((qe_rc k s sg bg NA NU ME BA ct) = true) (.ok (decide ((qe_rv k s sg bg NA NU ME BA ct) ≤ (3 : Int))))
              .no)
             (.ok false))
            .no)
           (.ok false))
          (.ok false))
         (.ok false))
        (.ok false))
       (.ok false))
      (.ok false))
     (.ok false))
    (.ite ((qck_v k s sg bg NA NU ME BA ct) = true) (.ite ((qn_rc k s sg bg NA NU ME BA ct) = true) (.ite ((decide ((qn_rv k s sg bg NA NU ME BA ct) ≤ (24 : Int))) = true) (.ite ((qe_rc k s sg bg NA NU ME BA ct) = true) (.ok (decide ((qe_rv k s sg bg NA NU ME BA ct) ≤ (3 : Int))))
        .no)
       (.ok false))
      .no)
     (.ok false))))
  (.ite ((k == (2 : Int)) = true) (.ite ((k == (2 : Int)) = true) (.ite ((qch_v s (1 : Int) (16 : Int)) = true) (.ite ((qbp_v k s sg bg NA NU ME BA ct) = true) (.ite (((NA.length : Int) == (0 : Int)) = true) (.ite (((NU.length : Int) == (0 : Int)) = true) (.ite (((ME.length : Int) == (0 : Int)) = true) (.ite (((BA.length : Int) == (0 : Int)) = true) (.ite ((ct == (0 : Int)) = true) (.ite ((qn_rc k s sg bg NA NU ME BA ct) = true) (.ite ((decide ((qn_rv k s sg bg NA NU ME BA ct) ≤ (24 : Int))) = true) (.ite ((qe_rc k s sg bg NA NU ME BA ct) = true) (.ok (decide ((qe_rv k s sg bg NA NU ME BA ct) ≤ (3 : Int))))
              .no)
             (.ok false))
            .no)
           (.ok false))
          (.ok false))
         (.ok false))
        (.ok false))
       (.ok false))
      (.ok false))
     (.ok false))
    (.ite ((k == (6 : Int)) = true) (.ite ((qch_v s (1 : Int) (16 : Int)) = true) (.ite ((qbp_v k s sg bg NA NU ME BA ct) = true) (.ite (((NA.length : Int) == (0 : Int)) = true) (.ite (((NU.length : Int) == (0 : Int)) = true) (.ite (((ME.length : Int) == (0 : Int)) = true) (.ite (((BA.length : Int) == (0 : Int)) = true) (.ite ((ct == (0 : Int)) = true) (.ite ((qn_rc k s sg bg NA NU ME BA ct) = true) (.ite ((decide ((qn_rv k s sg bg NA NU ME BA ct) ≤ (24 : Int))) = true) (.ite ((qe_rc k s sg bg NA NU ME BA ct) = true) (.ok (decide ((qe_rv k s sg bg NA NU ME BA ct) ≤ (3 : Int))))
               .no)
              (.ok false))
             .no)
            (.ok false))
           (.ok false))
          (.ok false))
         (.ok false))
        (.ok false))
       (.ok false))
      (.ok false))
     (.ite ((qch_v s (1 : Int) (16 : Int)) = true) (.ite ((qn_rc k s sg bg NA NU ME BA ct) = true) (.ite ((decide ((qn_rv k s sg bg NA NU ME BA ct) ≤ (24 : Int))) = true) (.ite ((qe_rc k s sg bg NA NU ME BA ct) = true) (.ok (decide ((qe_rv k s sg bg NA NU ME BA ct) ≤ (3 : Int))))
         .no)
        (.ok false))
       .no)
      (.ok false))))
   (.ite ((k == (3 : Int)) = true) (.ite ((qf_c k s sg bg NA NU ME BA ct) = true) (.ite ((k == (2 : Int)) = true) (.ite ((qf_v k s sg bg NA NU ME BA ct) = true) (.ite ((qbp_v k s sg bg NA NU ME BA ct) = true) (.ite (((NA.length : Int) == (0 : Int)) = true) (.ite (((NU.length : Int) == (0 : Int)) = true) (.ite (((ME.length : Int) == (0 : Int)) = true) (.ite (((BA.length : Int) == (0 : Int)) = true) (.ite ((ct == (0 : Int)) = true) (.ite ((qn_rc k s sg bg NA NU ME BA ct) = true) (.ite ((decide ((qn_rv k s sg bg NA NU ME BA ct) ≤ (24 : Int))) = true) (.ite ((qe_rc k s sg bg NA NU ME BA ct) = true) (.ok (decide ((qe_rv k s sg bg NA NU ME BA ct) ≤ (3 : Int))))
                .no)
               (.ok false))
              .no)
             (.ok false))
            (.ok false))
           (.ok false))
          (.ok false))
         (.ok false))
        (.ok false))
       (.ok false))
      (.ite ((k == (6 : Int)) = true) (.ite ((qf_v k s sg bg NA NU ME BA ct) = true) (.ite ((qbp_v k s sg bg NA NU ME BA ct) = true) (.ite (((NA.length : Int) == (0 : Int)) = true) (.ite (((NU.length : Int) == (0 : Int)) = true) (.ite (((ME.length : Int) == (0 : Int)) = true) (.ite (((BA.length : Int) == (0 : Int)) = true) (.ite ((ct == (0 : Int)) = true) (.ite ((qn_rc k s sg bg NA NU ME BA ct) = true) (.ite ((decide ((qn_rv k s sg bg NA NU ME BA ct) ≤ (24 : Int))) = true) (.ite ((qe_rc k s sg bg NA NU ME BA ct) = true) (.ok (decide ((qe_rv k s sg bg NA NU ME BA ct) ≤ (3 : Int))))
                 .no)
                (.ok false))
               .no)
              (.ok false))
             (.ok false))
            (.ok false))
           (.ok false))
          (.ok false))
         (.ok false))
        (.ok false))
       (.ite ((qf_v k s sg bg NA NU ME BA ct) = true) (.ite ((qn_rc k s sg bg NA NU ME BA ct) = true) (.ite ((decide ((qn_rv k s sg bg NA NU ME BA ct) ≤ (24 : Int))) = true) (.ite ((qe_rc k s sg bg NA NU ME BA ct) = true) (.ok (decide ((qe_rv k s sg bg NA NU ME BA ct) ≤ (3 : Int))))
           .no)
          (.ok false))
         .no)
        (.ok false))))
     .no)
    (.ite ((k == (4 : Int)) = true) (.ite ((qc_c k s sg bg NA NU ME BA ct) = true) (.ite ((k == (2 : Int)) = true) (.ite ((qc_v k s sg bg NA NU ME BA ct) = true) (.ite ((qbp_v k s sg bg NA NU ME BA ct) = true) (.ite (((NA.length : Int) == (0 : Int)) = true) (.ite (((NU.length : Int) == (0 : Int)) = true) (.ite (((ME.length : Int) == (0 : Int)) = true) (.ite (((BA.length : Int) == (0 : Int)) = true) (.ite ((ct == (0 : Int)) = true) (.ite ((qn_rc k s sg bg NA NU ME BA ct) = true) (.ite ((decide ((qn_rv k s sg bg NA NU ME BA ct) ≤ (24 : Int))) = true) (.ite ((qe_rc k s sg bg NA NU ME BA ct) = true) (.ok (decide ((qe_rv k s sg bg NA NU ME BA ct) ≤ (3 : Int))))
                 .no)
                (.ok false))
               .no)
              (.ok false))
             (.ok false))
            (.ok false))
           (.ok false))
          (.ok false))
         (.ok false))
        (.ok false))
       (.ite ((k == (6 : Int)) = true) (.ite ((qc_v k s sg bg NA NU ME BA ct) = true) (.ite ((qbp_v k s sg bg NA NU ME BA ct) = true) (.ite (((NA.length : Int) == (0 : Int)) = true) (.ite (((NU.length : Int) == (0 : Int)) = true) (.ite (((ME.length : Int) == (0 : Int)) = true) (.ite (((BA.length : Int) == (0 : Int)) = true) (.ite ((ct == (0 : Int)) = true) (.ite ((qn_rc k s sg bg NA NU ME BA ct) = true) (.ite ((decide ((qn_rv k s sg bg NA NU ME BA ct) ≤ (24 : Int))) = true) (.ite ((qe_rc k s sg bg NA NU ME BA ct) = true) (.ok (decide ((qe_rv k s sg bg NA NU ME BA ct) ≤ (3 : Int))))
                  .no)
                 (.ok false))
                .no)
               (.ok false))
              (.ok false))
             (.ok false))
            (.ok false))
           (.ok false))
          (.ok false))
         (.ok false))
        (.ite ((qc_v k s sg bg NA NU ME BA ct) = true) (.ite ((qn_rc k s sg bg NA NU ME BA ct) = true) (.ite ((decide ((qn_rv k s sg bg NA NU ME BA ct) ≤ (24 : Int))) = true) (.ite ((qe_rc k s sg bg NA NU ME BA ct) = true) (.ok (decide ((qe_rv k s sg bg NA NU ME BA ct) ≤ (3 : Int))))
            .no)
           (.ok false))
          .no)
         (.ok false))))
      .no)
     (.ite ((k == (5 : Int)) = true) (.ite ((qbw_c k s sg bg NA NU ME BA ct) = true) (.ite ((k == (2 : Int)) = true) (.ite ((qbw_v k s sg bg NA NU ME BA ct) = true) (.ite ((qbp_v k s sg bg NA NU ME BA ct) = true) (.ite (((NA.length : Int) == (0 : Int)) = true) (.ite (((NU.length : Int) == (0 : Int)) = true) (.ite (((ME.length : Int) == (0 : Int)) = true) (.ite (((BA.length : Int) == (0 : Int)) = true) (.ite ((ct == (0 : Int)) = true) (.ite ((qn_rc k s sg bg NA NU ME BA ct) = true) (.ite ((decide ((qn_rv k s sg bg NA NU ME BA ct) ≤ (24 : Int))) = true) (.ite ((qe_rc k s sg bg NA NU ME BA ct) = true) (.ok (decide ((qe_rv k s sg bg NA NU ME BA ct) ≤ (3 : Int))))
                  .no)
                 (.ok false))
                .no)
               (.ok false))
              (.ok false))
             (.ok false))
            (.ok false))
           (.ok false))
          (.ok false))
         (.ok false))
        (.ite ((k == (6 : Int)) = true) (.ite ((qbw_v k s sg bg NA NU ME BA ct) = true) (.ite ((qbp_v k s sg bg NA NU ME BA ct) = true) (.ite (((NA.length : Int) == (0 : Int)) = true) (.ite (((NU.length : Int) == (0 : Int)) = true) (.ite (((ME.length : Int) == (0 : Int)) = true) (.ite (((BA.length : Int) == (0 : Int)) = true) (.ite ((ct == (0 : Int)) = true) (.ite ((qn_rc k s sg bg NA NU ME BA ct) = true) (.ite ((decide ((qn_rv k s sg bg NA NU ME BA ct) ≤ (24 : Int))) = true) (.ite ((qe_rc k s sg bg NA NU ME BA ct) = true) (.ok (decide ((qe_rv k s sg bg NA NU ME BA ct) ≤ (3 : Int))))
                   .no)
                  (.ok false))
                 .no)
                (.ok false))
               (.ok false))
              (.ok false))
             (.ok false))
            (.ok false))
           (.ok false))
          (.ok false))
         (.ite ((qbw_v k s sg bg NA NU ME BA ct) = true) (.ite ((qn_rc k s sg bg NA NU ME BA ct) = true) (.ite ((decide ((qn_rv k s sg bg NA NU ME BA ct) ≤ (24 : Int))) = true) (.ite ((qe_rc k s sg bg NA NU ME BA ct) = true) (.ok (decide ((qe_rv k s sg bg NA NU ME BA ct) ≤ (3 : Int))))
             .no)
            (.ok false))
           .no)
          (.ok false))))
       .no)
      (.ite ((k == (6 : Int)) = true) (.ite ((k == (2 : Int)) = true) (.ite ((s == (2 : Int)) = true) (.ite ((qbp_v k s sg bg NA NU ME BA ct) = true) (.ite (((NA.length : Int) == (0 : Int)) = true) (.ite (((NU.length : Int) == (0 : Int)) = true) (.ite (((ME.length : Int) == (0 : Int)) = true) (.ite (((BA.length : Int) == (0 : Int)) = true) (.ite ((ct == (0 : Int)) = true) (.ite ((qn_rc k s sg bg NA NU ME BA ct) = true) (.ite ((decide ((qn_rv k s sg bg NA NU ME BA ct) ≤ (24 : Int))) = true) (.ite ((qe_rc k s sg bg NA NU ME BA ct) = true) (.ok (decide ((qe_rv k s sg bg NA NU ME BA ct) ≤ (3 : Int))))
                  .no)
                 (.ok false))
                .no)
               (.ok false))
              (.ok false))
             (.ok false))
            (.ok false))
           (.ok false))
          (.ok false))
         (.ok false))
        (.ite ((k == (6 : Int)) = true) (.ite ((s == (2 : Int)) = true) (.ite ((qbp_v k s sg bg NA NU ME BA ct) = true) (.ite (((NA.length : Int) == (0 : Int)) = true) (.ite (((NU.length : Int) == (0 : Int)) = true) (.ite (((ME.length : Int) == (0 : Int)) = true) (.ite (((BA.length : Int) == (0 : Int)) = true) (.ite ((ct == (0 : Int)) = true) (.ite ((qn_rc k s sg bg NA NU ME BA ct) = true) (.ite ((decide ((qn_rv k s sg bg NA NU ME BA ct) ≤ (24 : Int))) = true) (.ite ((qe_rc k s sg bg NA NU ME BA ct) = true) (.ok (decide ((qe_rv k s sg bg NA NU ME BA ct) ≤ (3 : Int))))
                   .no)
                  (.ok false))
                 .no)
                (.ok false))
               (.ok false))
              (.ok false))
             (.ok false))
            (.ok false))
           (.ok false))
          (.ok false))
         (.ite ((s == (2 : Int)) = true) (.ite ((qn_rc k s sg bg NA NU ME BA ct) = true) (.ite ((decide ((qn_rv k s sg bg NA NU ME BA ct) ≤ (24 : Int))) = true) (.ite ((qe_rc k s sg bg NA NU ME BA ct) = true) (.ok (decide ((qe_rv k s sg bg NA NU ME BA ct) ≤ (3 : Int))))
             .no)
            (.ok false))
           .no)
          (.ok false))))
       (.ite ((k == (2 : Int)) = true) (.ok false)
        (.ite ((k == (6 : Int)) = true) (.ok false)
         (.ok false)))))))))
def qbi_mk (p : Bool) : Res := [(false, [⟨.bool, .sh, TC.b p⟩])]
def qbi_c (k s : Int) (sg bg : Bool) (NA NU ME BA : LL) (ct : Int) : Bool := (bif (k == (1 : Int)) then (bif (k == (2 : Int)) then (bif (qck_v k s sg bg NA NU ME BA ct) then (bif (qbp_v k s sg bg NA NU ME BA ct) then (bif ((NA.length : Int) == (0 : Int)) then (bif ((NU.length : Int) == (0 : Int)) then (bif ((ME.length : Int) == (0 : Int)) then (bif ((BA.length : Int) == (0 : Int)) then (bif (ct == (0 : Int)) then ((qn_rc k s sg bg NA NU ME BA ct) && (bif (decide ((qn_rv k s sg bg NA NU ME BA ct) ≤ (24 : Int))) then ((qe_rc k s sg bg NA NU ME BA ct) && true) else true)) else true) else true) else true) else true) else true) else true) else true) else (bif (k == (6 : Int)) then (bif (qck_v k s sg bg NA NU ME BA ct) then (bif (qbp_v k s sg bg NA NU ME BA ct) then (bif ((NA.length : Int) == (0 : Int)) then (bif ((NU.length : Int) == (0 : Int)) then (bif ((ME.length : Int) == (0 : Int)) then (bif ((BA.length : Int) == (0 : Int)) then (bif (ct == (0 : Int)) then ((qn_rc k s sg bg NA NU ME BA ct) && (bif (decide ((qn_rv k s sg bg NA NU ME BA ct) ≤ (24 : Int))) then ((qe_rc k s sg bg NA NU ME BA ct) && true) else true)) else true) else true) else true) else true) else true) else true) else true) else (bif (qck_v k s sg bg NA NU ME BA ct) then ((qn_rc k s sg bg NA NU ME BA ct) && (bif (decide ((qn_rv k s sg bg NA NU ME BA ct) ≤ (24 : Int))) then ((qe_rc k s sg bg NA NU ME BA ct) && true) else true)) else true))) else (bif (k == (2 : Int)) then (bif (k == (2 : Int)) then (bif (qch_v s (1 : Int) (16 : Int)) then (bif (qbp_v k s sg bg NA NU ME BA ct) then (bif ((NA.length : Int) == (0 : Int)) then (bif ((NU.length : Int) == (0 : Int)) then (bif ((ME.length : Int) == (0 : Int)) then (bif ((BA.length : Int) == (0 : Int)) then (bif (ct == (0 : Int)) then ((qn_rc k s sg bg NA NU ME BA ct) && (bif (decide ((qn_rv k s sg bg NA NU ME BA ct) ≤ (24 : Int))) then ((qe_rc k s sg bg NA NU ME BA ct) && true) else true)) else true) else true) else true) else true) else true) else true) else true) else (bif (k == (6 : Int)) then (bif (qch_v s (1 : Int) (16 : Int)) then (bif (qbp_v k s sg bg NA NU ME BA ct) then (bif ((NA.length : Int) == (0 : Int)) then (bif ((NU.length : Int) == (0 : Int)) then (bif ((ME.length : Int) == (0 : Int)) then (bif ((BA.length : Int) == (0 : Int)) then (bif (ct == (0 : Int)) then ((qn_rc k s sg bg NA NU ME BA ct) && (bif (decide ((qn_rv k s sg bg NA NU ME BA ct) ≤ (24 : Int))) then ((qe_rc k s sg bg NA NU ME BA ct) && true) else true)) else true) else true) else true) else true) else true) else true) else true) else (bif (qch_v s (1 : Int) (16 : Int)) then ((qn_rc k s sg bg NA NU ME BA ct) && (bif (decide ((qn_rv k s sg bg NA NU ME BA ct) ≤ (24 : Int))) then ((qe_rc k s sg bg NA NU ME BA ct) && true) else true)) else true))) else (bif (k == (3 : Int)) then ((qf_c k s sg bg NA NU ME BA ct) && (bif (k == (2 : Int)) then (bif (qf_v k s sg bg NA NU ME BA ct) then (bif (qbp_v k s sg bg NA NU ME BA ct) then (bif ((NA.length : Int) == (0 : Int)) then (bif ((NU.length : Int) == (0 : Int)) then (bif ((ME.length : Int) == (0 : Int)) then (bif ((BA.length : Int) == (0 : Int)) then (bif (ct == (0 : Int)) then ((qn_rc k s sg bg NA NU ME BA ct) && (bif (decide ((qn_rv k s sg bg NA NU ME BA ct) ≤ (24 : Int))) then ((qe_rc k s sg bg NA NU ME BA ct) && true) else true)) else true) else true) else true) else true) else true) else true) else true) else (bif (k == (6 : Int)) then (bif (qf_v k s sg bg NA NU ME BA ct) then (bif (qbp_v k s sg bg NA NU ME BA ct) then (bif ((NA.length : Int) == (0 : Int)) then (bif ((NU.length : Int) == (0 : Int)) then (bif ((ME.length : Int) == (0 : Int)) then (bif ((BA.length : Int) == (0 : Int)) then (bif (ct == (0 : Int)) then ((qn_rc k s sg bg NA NU ME BA ct) && (bif (decide ((qn_rv k s sg bg NA NU ME BA ct) ≤ (24 : Int))) then ((qe_rc k s sg bg NA NU ME BA ct) && true) else true)) else true) else true) else true) else true) else true) else true) else true) else (bif (qf_v k s sg bg NA NU ME BA ct) then ((qn_rc k s sg bg NA NU ME BA ct) && (bif (decide ((qn_rv k s sg bg NA NU ME BA ct) ≤ (24 : Int))) then ((qe_rc k s sg bg NA NU ME BA ct) && true) else true)) else true)))) else (bif (k == (4 : Int)) then ((qc_c k s sg bg NA NU ME BA ct) && (bif (k == (2 : Int)) then (bif (qc_v k s sg bg NA NU ME BA ct) then (bif (qbp_v k s sg bg NA NU ME BA ct) then (bif ((NA.length : Int) == (0 : Int)) then (bif ((NU.length : Int) == (0 : Int)) then (bif ((ME.length : Int) == (0 : Int)) then (bif ((BA.length : Int) == (0 : Int)) then (bif (ct == (0 : Int)) then ((qn_rc k s sg bg NA NU ME BA ct) && (bif (decide ((qn_rv k s sg bg NA NU ME BA ct) ≤ (24 : Int))) then ((qe_rc k s sg bg NA NU ME BA ct) && true) else true)) else true) else true) else true) else true) else true) else true) else true) else (bif (k == (6 : Int)) then (bif (qc_v k s sg bg NA NU ME BA ct) then (bif (qbp_v k s sg bg NA NU ME BA ct) then (bif ((NA.length : Int) == (0 : Int)) then (bif ((NU.length : Int) == (0 : Int)) then (bif ((ME.length : Int) == (0 : Int)) then (bif ((BA.length : Int) == (0 : Int)) then (bif (ct == (0 : Int)) then ((qn_rc k s sg bg NA NU ME BA ct) && (bif (decide ((qn_rv k s sg bg NA NU ME BA ct) ≤ (24 : Int))) then ((qe_rc k s sg bg NA NU ME BA ct) && true) else true)) else true) else true) else true) else true) else true) else true) else true) else (bif (qc_v k s sg bg NA NU ME BA ct) then ((qn_rc k s sg bg NA NU ME BA ct) && (bif (decide ((qn_rv k s sg bg NA NU ME BA ct) ≤ (24 : Int))) then ((qe_rc k s sg bg NA NU ME BA ct) && true) else true)) else true)))) else (bif (k == (5 : Int)) then ((qbw_c k s sg bg NA NU ME BA ct) && (bif (k == (2 : Int)) then (bif (qbw_v k s sg bg NA NU ME BA ct) then (bif (qbp_v k s sg bg NA NU ME BA ct) then (bif ((NA.length : Int) == (0 : Int)) then (bif ((NU.length : Int) == (0 : Int)) then (bif ((ME.length : Int) == (0 : Int)) then (bif ((BA.length : Int) == (0 : Int)) then (bif (ct == (0 : Int)) then ((qn_rc k s sg bg NA NU ME BA ct) && (bif (decide ((qn_rv k s sg bg NA NU ME BA ct) ≤ (24 : Int))) then ((qe_rc k s sg bg NA NU ME BA ct) && true) else true)) else true) else true) else true) else true) else true) else true) else true) else (bif (k == (6 : Int)) then (bif (qbw_v k s sg bg NA NU ME BA ct) then (bif (qbp_v k s sg bg NA NU ME BA ct) then (bif ((NA.length : Int) == (0 : Int)) then (bif ((NU.length : Int) == (0 : Int)) then (bif ((ME.length : Int) == (0 : Int)) then (bif ((BA.length : Int) == (0 : Int)) then (bif (ct == (0 : Int)) then ((qn_rc k s sg bg NA NU ME BA ct) && (bif (decide ((qn_rv k s sg bg NA NU ME BA ct) ≤ (24 : Int))) then ((qe_rc k s sg bg NA NU ME BA ct) && true) else true)) else true) else true) else true) else true) else true) else true) else true) else (bif (qbw_v k s sg bg NA NU ME BA ct) then ((qn_rc k s sg bg NA NU ME BA ct) && (bif (decide ((qn_rv k s sg bg NA NU ME BA ct) ≤ (24 : Int))) then ((qe_rc k s sg bg NA NU ME BA ct) && true) else true)) else true)))) else (bif (k == (6 : Int)) then (bif (k == (2 : Int)) then (bif (s == (2 : Int)) then (bif (qbp_v k s sg bg NA NU ME BA ct) then (bif ((NA.length : Int) == (0 : Int)) then (bif ((NU.length : Int) == (0 : Int)) then (bif ((ME.length : Int) == (0 : Int)) then (bif ((BA.length : Int) == (0 : Int)) then (bif (ct == (0 : Int)) then ((qn_rc k s sg bg NA NU ME BA ct) && (bif (decide ((qn_rv k s sg bg NA NU ME BA ct) ≤ (24 : Int))) then ((qe_rc k s sg bg NA NU ME BA ct) && true) else true)) else true) else true) else true) else true) else true) else true) else true) else (bif (k == (6 : Int)) then (bif (s == (2 : Int)) then (bif (qbp_v k s sg bg NA NU ME BA ct) then (bif ((NA.length : Int) == (0 : Int)) then (bif ((NU.length : Int) == (0 : Int)) then (bif ((ME.length : Int) == (0 : Int)) then (bif ((BA.length : Int) == (0 : Int)) then (bif (ct == (0 : Int)) then ((qn_rc k s sg bg NA NU ME BA ct) && (bif (decide ((qn_rv k s sg bg NA NU ME BA ct) ≤ (24 : Int))) then ((qe_rc k s sg bg NA NU ME BA ct) && true) else true)) else true) else true) else true) else true) else true) else true) else true) else (bif (s == (2 : Int)) then ((qn_rc k s sg bg NA NU ME BA ct) && (bif (decide ((qn_rv k s sg bg NA NU ME BA ct) ≤ (24 : Int))) then ((qe_rc k s sg bg NA NU ME BA ct) && true) else true)) else true))) else (bif (k == (2 : Int)) then true else (bif (k == (6 : Int)) then true else true))))))))
def qbi_v (k s : Int) (sg bg : Bool) (NA NU ME BA : LL) (ct : Int) : Bool := (bif (k == (1 : Int)) then (bif (k == (2 : Int)) then (bif (qck_v k s sg bg NA NU ME BA ct) then (bif (qbp_v k s sg bg NA NU ME BA ct) then (bif ((NA.length : Int) == (0 : Int)) then (bif ((NU.length : Int) == (0 : Int)) then (bif ((ME.length : Int) == (0 : Int)) then (bif ((BA.length : Int) == (0 : Int)) then (bif (ct == (0 : Int)) then (bif (decide ((qn_rv k s sg bg NA NU ME BA ct) ≤ (24 : Int))) then (decide ((qe_rv k s sg bg NA NU ME BA ct) ≤ (3 : Int))) else false) else false) else false) else false) else false) else false) else false) else false) else (bif (k == (6 : Int)) then (bif (qck_v k s sg bg NA NU ME BA ct) then (bif (qbp_v k s sg bg NA NU ME BA ct) then (bif ((NA.length : Int) == (0 : Int)) then (bif ((NU.length : Int) == (0 : Int)) then (bif ((ME.length : Int) == (0 : Int)) then (bif ((BA.length : Int) == (0 : Int)) then (bif (ct == (0 : Int)) then (bif (decide ((qn_rv k s sg bg NA NU ME BA ct) ≤ (24 : Int))) then (decide ((qe_rv k s sg bg NA NU ME BA ct) ≤ (3 : Int))) else false) else false) else false) else false) else false) else false) else false) else false) else (bif (qck_v k s sg bg NA NU ME BA ct) then (bif (decide ((qn_rv k s sg bg NA NU ME BA ct) ≤ (24 : Int))) then (decide ((qe_rv k s sg bg NA NU ME BA ct) ≤ (3 : Int))) else false) else false))) else (bif (k == (2 : Int)) then (bif (k == (2 : Int)) then (bif (qch_v s (1 : Int) (16 : Int)) then (bif (qbp_v k s sg bg NA NU ME BA ct) then (bif ((NA.length : Int) == (0 : Int)) then (bif ((NU.length : Int) == (0 : Int)) then (bif ((ME.length : Int) == (0 : Int)) then (bif ((BA.length : Int) == (0 : Int)) then (bif (ct == (0 : Int)) then (bif (decide ((qn_rv k s sg bg NA NU ME BA ct) ≤ (24 : Int))) then (decide ((qe_rv k s sg bg NA NU ME BA ct) ≤ (3 : Int))) else false) else false) else false) else false) else false) else false) else false) else false) else (bif (k == (6 : Int)) then (bif (qch_v s (1 : Int) (16 : Int)) then (bif (qbp_v k s sg bg NA NU ME BA ct) then (bif ((NA.length : Int) == (0 : Int)) then (bif ((NU.length : Int) == (0 : Int)) then (bif ((ME.length : Int) == (0 : Int)) then (bif ((BA.length : Int) == (0 : Int)) then (bif (ct == (0 : Int)) then (bif (decide ((qn_rv k s sg bg NA NU ME BA ct) ≤ (24 : Int))) then (decide ((qe_rv k s sg bg NA NU ME BA ct) ≤ (3 : Int))) else false) else false) else false) else false) else false) else false) else false) else false) else (bif (qch_v s (1 : Int) (16 : Int)) then (bif (decide ((qn_rv k s sg bg NA NU ME BA ct) ≤ (24 : Int))) then (decide ((qe_rv k s sg bg NA NU ME BA ct) ≤ (3 : Int))) else false) else false))) else (bif (k == (3 : Int)) then (bif (k == (2 : Int)) then (bif (qf_v k s sg bg NA NU ME BA ct) then (bif (qbp_v k s sg bg NA NU ME BA ct) then (bif ((NA.length : Int) == (0 : Int)) then (bif ((NU.length : Int) == (0 : Int)) then (bif ((ME.length : Int) == (0 : Int)) then (bif ((BA.length : Int) == (0 : Int)) then (bif (ct == (0 : Int)) then (bif (decide ((qn_rv k s sg bg NA NU ME BA ct) ≤ (24 : Int))) then (decide ((qe_rv k s sg bg NA NU ME BA ct) ≤ (3 : Int))) else false) else false) else false) else false) else false) else false) else false) else false) else (bif (k == (6 : Int)) then (bif (qf_v k s sg bg NA NU ME BA ct) then (bif (qbp_v k s sg bg NA NU ME BA ct) then (bif ((NA.length : Int) == (0 : Int)) then (bif ((NU.length : Int) == (0 : Int)) then (bif ((ME.length : Int) == (0 : Int)) then (bif ((BA.length : Int) == (0 : Int)) then (bif (ct == (0 : Int)) then (bif (decide ((qn_rv k s sg bg NA NU ME BA ct) ≤ (24 : Int))) then (decide ((qe_rv k s sg bg NA NU ME BA ct) ≤ (3 : Int))) else false) else false) else false) else false) else false) else false) else false) else false) else (bif (qf_v k s sg bg NA NU ME BA ct) then (bif (decide ((qn_rv k s sg bg NA NU ME BA ct) ≤ (24 : Int))) then (decide ((qe_rv k s sg bg NA NU ME BA ct) ≤ (3 : Int))) else false) else false))) else (bif (k == (4 : Int)) then (bif (k == (2 : Int)) then (bif (qc_v k s sg bg NA NU ME BA ct) then (bif (qbp_v k s sg bg NA NU ME BA ct) then (bif ((NA.length : Int) == (0 : Int)) then (bif ((NU.length : Int) == (0 : Int)) then (bif ((ME.length : Int) == (0 : Int)) then (bif ((BA.length : Int) == (0 : Int)) then (bif (ct == (0 : Int)) then (bif (decide ((qn_rv k s sg bg NA NU ME BA ct) ≤ (24 : Int))) then (decide ((qe_rv k s sg bg NA NU ME BA ct) ≤ (3 : Int))) else false) else false) else false) else false) else false) else false) else false) else false) else (bif (k == (6 : Int)) then (bif (qc_v k s sg bg NA NU ME BA ct) then (bif (qbp_v k s sg bg NA NU ME BA ct) then (bif ((NA.length : Int) == (0 : Int)) then (bif ((NU.length : Int) == (0 : Int)) then (bif ((ME.length : Int) == (0 : Int)) then (bif ((BA.length : Int) == (0 : Int)) then (bif (ct == (0 : Int)) then (bif (decide ((qn_rv k s sg bg NA NU ME BA ct) ≤ (24 : Int))) then (decide ((qe_rv k s sg bg NA NU ME BA ct) ≤ (3 : Int))) else false) else false) else false) else false) else false) else false) else false) else false) else (bif (qc_v k s sg bg NA NU ME BA ct) then (bif (decide ((qn_rv k s sg bg NA NU ME BA ct) ≤ (24 : Int))) then (decide ((qe_rv k s sg bg NA NU ME BA ct) ≤ (3 : Int))) else false) else false))) else (bif (k == (5 : Int)) then (bif (k == (2 : Int)) then (bif (qbw_v k s sg bg NA NU ME BA ct) then (bif (qbp_v k s sg bg NA NU ME BA ct) then (bif ((NA.length : Int) == (0 : Int)) then (bif ((NU.length : Int) == (0 : Int)) then (bif ((ME.length : Int) == (0 : Int)) then (bif ((BA.length : Int) == (0 : Int)) then (bif (ct == (0 : Int)) then (bif (decide ((qn_rv k s sg bg NA NU ME BA ct) ≤ (24 : Int))) then (decide ((qe_rv k s sg bg NA NU ME BA ct) ≤ (3 : Int))) else false) else false) else false) else false) else false) else false) else false) else false) else (bif (k == (6 : Int)) then (bif (qbw_v k s sg bg NA NU ME BA ct) then (bif (qbp_v k s sg bg NA NU ME BA ct) then (bif ((NA.length : Int) == (0 : Int)) then (bif ((NU.length : Int) == (0 : Int)) then (bif ((ME.length : Int) == (0 : Int)) then (bif ((BA.length : Int) == (0 : Int)) then (bif (ct == (0 : Int)) then (bif (decide ((qn_rv k s sg bg NA NU ME BA ct) ≤ (24 : Int))) then (decide ((qe_rv k s sg bg NA NU ME BA ct) ≤ (3 : Int))) else false) else false) else false) else false) else false) else false) else false) else false) else (bif (qbw_v k s sg bg NA NU ME BA ct) then (bif (decide ((qn_rv k s sg bg NA NU ME BA ct) ≤ (24 : Int))) then (decide ((qe_rv k s sg bg NA NU ME BA ct) ≤ (3 : Int))) else false) else false))) else (bif (k == (6 : Int)) then (bif (k == (2 : Int)) then (bif (s == (2 : Int)) then (bif (qbp_v k s sg bg NA NU ME BA ct) then (bif ((NA.length : Int) == (0 : Int)) then (bif ((NU.length : Int) == (0 : Int)) then (bif ((ME.length : Int) == (0 : Int)) then (bif ((BA.length : Int) == (0 : Int)) then (bif (ct == (0 : Int)) then (bif (decide ((qn_rv k s sg bg NA NU ME BA ct) ≤ (24 : Int))) then (decide ((qe_rv k s sg bg NA NU ME BA ct) ≤ (3 : Int))) else false) else false) else false) else false) else false) else false) else false) else false) else (bif (k == (6 : Int)) then (bif (s == (2 : Int)) then (bif (qbp_v k s sg bg NA NU ME BA ct) then (bif ((NA.length : Int) == (0 : Int)) then (bif ((NU.length : Int) == (0 : Int)) then (bif ((ME.length : Int) == (0 : Int)) then (bif ((BA.length : Int) == (0 : Int)) then (bif (ct == (0 : Int)) then (bif (decide ((qn_rv k s sg bg NA NU ME BA ct) ≤ (24 : Int))) then (decide ((qe_rv k s sg bg NA NU ME BA ct) ≤ (3 : Int))) else false) else false) else false) else false) else false) else false) else false) else false) else (bif (s == (2 : Int)) then (bif (decide ((qn_rv k s sg bg NA NU ME BA ct) ≤ (24 : Int))) then (decide ((qe_rv k s sg bg NA NU ME BA ct) ≤ (3 : Int))) else false) else false))) else (bif (k == (2 : Int)) then false else (bif (k == (6 : Int)) then false else false))))))))
theorem qbi_l (k s : Int) (sg bg : Bool) (NA NU ME BA : LL) (ct : Int) : (qbi_c k s sg bg NA NU ME BA ct) = true → (qbi_t k s sg bg NA NU ME BA ct).val = some (qbi_v k s sg bg NA NU ME BA ct) := by
  unfold qbi_t qbi_v qbi_c
  intro h
  repeat' first | refine Tr.gb h fun h => ?_ | refine Tr.gs h fun h => ?_ | refine Tr.ss h (fun h => ?_) fun h => ?_ | exact rfl
theorem qbi_e (k s : Int) (sg bg : Bool) (NA NU ME BA : LL) (ct : Int) : runF tab FT D26 live 30 noLoops [(true, [(.int .i64, TC.i k), (.int .i64, TC.i s), (.bool, TC.b sg), (.bool, TC.b bg), (.slice 9, TC.l NA), (.slice 2, TC.l NU), (.slice 71, TC.l ME), (.slice 32, TC.l BA), (.int .i64, TC.i ct)])] = (qbi_t k s sg bg NA NU ME BA ct).run fun p => some (qbi_mk p) := by kernel_rfl
theorem qbi_nx (k s : Int) (sg bg : Bool) (NA NU ME BA : LL) (ct : Int) : is (max (rowsDep ME) (rowsDep BA) < qbi_O.n + 1 ∧ max (rowsDep ME) (rowsDep BA) < qn_O.n ∧ max (rowsDep ME) (rowsDep BA) < qe_O.n ∧ Typed tab (.slice 9) (.l NA) ∧ Typed tab (.slice 2) (.l NU) ∧ Typed tab (.slice 71) (.l ME) ∧ Typed tab (.slice 32) (.l BA)) = true → (qbi_c k s sg bg NA NU ME BA ct) = true ∧ (qbi_v k s sg bg NA NU ME BA ct) = okV k s sg bg NA NU ME BA ct := by
  intro h
  obtain ⟨hM, hZ, hY, t4, t5, t6, t7⟩ := is_iff.1 h
  have hS : sizeC k BA = true → qn_rc k s sg bg NA NU ME BA ct = true := fun c => is_true ⟨by omega, c⟩
  have hD : depthC k ME BA = true → qe_rc k s sg bg NA NU ME BA ct = true := fun c => is_true ⟨by omega, c, t6, t7⟩
  have hmem : ∀ x, x ∈ ME → qbi_rc (nth x 2).int (nth x 3).int (nth x 4).bool (nth x 5).bool (nth x 6).list (nth x 7).list (nth x 8).list (nth x 9).list (nth x 10).int = true := fun x hx => by
    have := dep_max (BA := BA) hx 8 9
    exact is_true ⟨by omega, by omega, by omega, typed_list ((typed_elem t6 hx).2 6 (by decide)), typed_list ((typed_elem t6 hx).2 7 (by decide)), typed_list ((typed_elem t6 hx).2 8 (by decide)), typed_list ((typed_elem t6 hx).2 9 (by decide))⟩
  have hmz : ∀ x, x ∈ ME → (!(qbi_rv (nth x 2).int (nth x 3).int (nth x 4).bool (nth x 5).bool (nth x 6).list (nth x 7).list (nth x 8).list (nth x 9).list (nth x 10).int)) = false → qn_rc (nth x 2).int (nth x 3).int (nth x 4).bool (nth x 5).bool (nth x 6).list (nth x 7).list (nth x 8).list (nth x 9).list (nth x 10).int = true := fun x hx hk => by
    have := dep_max (BA := BA) hx 8 9
    have hk : qbi_rv (nth x 2).int (nth x 3).int (nth x 4).bool (nth x 5).bool (nth x 6).list (nth x 7).list (nth x 8).list (nth x 9).list (nth x 10).int = true := by simpa using hk
    have hk : okV (nth x 2).int (nth x 3).int (nth x 4).bool (nth x 5).bool (nth x 6).list (nth x 7).list (nth x 8).list (nth x 9).list (nth x 10).int = true := hk
    exact is_true ⟨by omega, okV_size hk⟩
  have hbase : 0 < BA.length → qbi_rc (nth (row BA (0 : Int)) 0).int (nth (row BA (0 : Int)) 1).int (nth (row BA (0 : Int)) 2).bool (nth (row BA (0 : Int)) 3).bool (nth (row BA (0 : Int)) 4).list (nth (row BA (0 : Int)) 5).list (nth (row BA (0 : Int)) 6).list (nth (row BA (0 : Int)) 7).list (nth (row BA (0 : Int)) 8).int = true := fun hb => by
    have := dep_base (ME := ME) hb 6 7
    exact is_true ⟨by omega, by omega, by omega, typed_list ((typed_elem t7 (mem_getD (i := 0) hb)).2 4 (by decide)), typed_list ((typed_elem t7 (mem_getD (i := 0) hb)).2 5 (by decide)), typed_list ((typed_elem t7 (mem_getD (i := 0) hb)).2 6 (by decide)), typed_list ((typed_elem t7 (mem_getD (i := 0) hb)).2 7 (by decide))⟩
  rw [okV, attach_okV]
  unfold qbi_c qbi_v
  rw [qf_cc t4, qc_cc t6 hmem hmz, qbw_cc hbase, qf_vv, qc_vv, qbw_vv, show qbp_v k s sg bg NA NU ME BA ct = plain sg bg from by unfold qbp_v plain; cases sg <;> cases bg <;> rfl, show qck_v k s sg bg NA NU ME BA ct = intV s sg bg NA NU ME BA ct from rfl, show qch_v s 1 16 = inB s 1 16 from rfl, show qn_rv k s sg bg NA NU ME BA ct = sizeV k s BA ct from rfl, show qe_rv k s sg bg NA NU ME BA ct = depthV k ME BA from rfl]
  by_cases k1 : k = 1
  · subst k1
    rw [hS (by rw [sizeC]; rfl), hD (by rw [depthC]; rfl)]
    simp only [Int.reduceBEq, cond_true, cond_false, Bool.true_and, Bool.and_true, bif_same, bif_ft, Bool.and_assoc, and_self]
  by_cases k2 : k = 2
  · subst k2
    rw [hS (by rw [sizeC]; rfl), hD (by rw [depthC]; rfl)]
    simp only [Int.reduceBEq, cond_true, cond_false, Bool.true_and, Bool.and_true, bif_same, bif_ft, Bool.and_assoc, and_self, bareV, empt]
  by_cases k6 : k = 6
  · subst k6
    rw [hS (by rw [sizeC]; rfl), hD (by rw [depthC]; rfl)]
    simp only [Int.reduceBEq, cond_true, cond_false, Bool.true_and, Bool.and_true, bif_same, bif_ft, Bool.and_assoc, and_self, bareV, empt]
  by_cases k3 : k = 3
  · subst k3
    rw [hD (by rw [depthC]; rfl)]
    simp only [Int.reduceBEq, cond_true, cond_false, Bool.true_and, Bool.and_true, bif_same, bif_ft, Bool.and_assoc]
    cases hf : enumV s sg bg NA NU ME BA ct with
    | false => exact ⟨rfl, trivial⟩
    | true =>
      have h1 : (BA.length : Int) = 1 := by
        simp only [enumV, Bool.and_eq_true] at hf
        simpa using hf.2.2.2.2.1
      rw [hS (by rw [sizeC]; exact decide_eq_true (by omega))]
      exact ⟨rfl, trivial⟩
  by_cases k4 : k = 4
  · subst k4
    rw [hS (by rw [sizeC]; rfl)]
    simp only [Int.reduceBEq, cond_true, cond_false, Bool.true_and, Bool.and_true, bif_same, bif_ft]
    cases hf : (compS s sg bg NA NU ME BA ct && ((allI (memP ME) ME.length && ME.all fun x => okV (nth x 2).int (nth x 3).int (nth x 4).bool (nth x 5).bool (nth x 6).list (nth x 7).list (nth x 8).list (nth x 9).list (nth x 10).int) && decide (endAt ME ME.length ≤ s))) with
    | false => exact ⟨rfl, trivial⟩
    | true =>
      simp only [Bool.and_eq_true, List.all_eq_true] at hf
      rw [hD (by
        rw [depthC]
        show (ME.attach.all fun x => depthC (nth x.1 2).int (nth x.1 8).list (nth x.1 9).list) = true
        rw [List.all_eq_true]
        exact fun x _ => okV_depth (hf.2.1.2 x.1 x.2))]
      exact ⟨bif_same, trivial⟩
  by_cases k5 : k = 5
  · subst k5
    simp only [Int.reduceBEq, cond_true, cond_false, Bool.true_and, Bool.and_true, bif_same, bif_ft]
    cases hf : (arrS s sg bg NA NU ME BA ct && (if h : 0 < BA.length then okV (nth (row BA (0 : Int)) 0).int (nth (row BA (0 : Int)) 1).int (nth (row BA (0 : Int)) 2).bool (nth (row BA (0 : Int)) 3).bool (nth (row BA (0 : Int)) 4).list (nth (row BA (0 : Int)) 5).list (nth (row BA (0 : Int)) 6).list (nth (row BA (0 : Int)) 7).list (nth (row BA (0 : Int)) 8).int else false)) with
    | false => exact ⟨rfl, trivial⟩
    | true =>
      rw [Bool.and_eq_true] at hf
      have hf := hf.2
      split at hf
      · rename_i hb
        rw [hS (by
          rw [sizeC]
          show (if h : 0 < BA.length then sizeC (nth (row BA (0 : Int)) 0).int (nth (row BA (0 : Int)) 7).list else false) = true
          rw [dif_pos hb]; exact okV_size hf), hD (by
          rw [depthC]
          show (if h : 0 < BA.length then depthC (nth (row BA (0 : Int)) 0).int (nth (row BA (0 : Int)) 6).list (nth (row BA (0 : Int)) 7).list else false) = true
          rw [dif_pos hb]; exact okV_depth hf)]
        exact ⟨bif_same, trivial⟩
      · cases hf
  have e1 : (k == 1) = false := by simpa using k1
  have e2 : (k == 2) = false := by simpa using k2
  have e3 : (k == 3) = false := by simpa using k3
  have e4 : (k == 4) = false := by simpa using k4
  have e5 : (k == 5) = false := by simpa using k5
  have e6 : (k == 6) = false := by simpa using k6
  simp only [e1, e2, e3, e4, e5, e6, cond_false, Bool.false_and, and_self]
end
end
end
end
end
end
end Go.Proofs.Ytdcafhfnkblfkaa.V
