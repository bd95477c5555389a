/- What the functions of FnExactAlwaysConverts answer. No condition. -/
import Derived.Test.YtdcafhfnkblfkaaVFnExactAlwaysConvertsP2
namespace Go.Proofs.Ytdcafhfnkblfkaa.V
open Go
set_option maxRecDepth 100000
set_option linter.unusedVariables false
set_option linter.unusedSectionVars false
set_option linter.unusedSimpArgs false
set_option maxHeartbeats 2000000
noncomputable section
section
variable [i_laws_szType : qbp_O]
variable [g_laws_szType : qbp_G]
section
variable [i_laws_toType : qj_O]
variable [g_laws_toType : qj_G]
section
variable [i_spec_l02Size : qu_O]
variable [g_spec_l02Size : qu_G]
section
variable [i_spec_l02Depth : qh_O]
variable [g_spec_l02Depth : qh_G]
section
variable [i_spec_l02Ok : qbs_O]
variable [g_spec_l02Ok : qbs_G]
theorem qbs_step : qbs_G (i_spec_l02Ok := ⟨qbs_O.n + 1⟩) := by
  have h := DOk.also2 (S := qbs_rS (i_spec_l02Ok := ⟨qbs_O.n + 1⟩)) mixed_ok tab_ok names_ok d23 d26 noLoops_ok qbs_rs
  refine qbs_G.mk (i_spec_l02Ok := ⟨qbs_O.n + 1⟩) ?_
  exact h
def qct_t (a0 a1 : Int) (a2 a3 : Bool) (a4 a5 a6 a7 : LL) (a8 : Int) : Tr (Bool) := (.ite ((a0 == (1 : Int)) = true) (.ok true)
  (.ok (a0 == (3 : Int))))
def qct_mk (p : Bool) : Res := [(false, [⟨.bool, .sh, TC.b p⟩])]
def qct_c (a0 a1 : Int) (a2 a3 : Bool) (a4 a5 a6 a7 : LL) (a8 : Int) : Bool := true
def qct_v (a0 a1 : Int) (a2 a3 : Bool) (a4 a5 a6 a7 : LL) (a8 : Int) : Bool := (bif (a0 == (1 : Int)) then true else (a0 == (3 : Int)))
theorem qct_l (a0 a1 : Int) (a2 a3 : Bool) (a4 a5 a6 a7 : LL) (a8 : Int) : (qct_c a0 a1 a2 a3 a4 a5 a6 a7 a8) = true → (qct_t a0 a1 a2 a3 a4 a5 a6 a7 a8).val = some (qct_v a0 a1 a2 a3 a4 a5 a6 a7 a8) := by
  intro h
  skip
  unfold qct_t qct_v
  exact (Tr.s rfl rfl)
def qct_S : List Arg → Option (Bool × Res) := fun xs => match xs with
  | [(true, [(.int .i64, TC.i a0), (.int .i64, TC.i a1), (.bool, TC.b a2), (.bool, TC.b a3), (.slice 9, TC.l a4), (.slice 2, TC.l a5), (.slice 71, TC.l a6), (.slice 32, TC.l a7), (.int .i64, TC.i a8)])] => some (true, qct_mk (qct_v a0 a1 a2 a3 a4 a5 a6 a7 a8))
  | _ => .none
theorem qct_e (a0 a1 : Int) (a2 a3 : Bool) (a4 a5 a6 a7 : LL) (a8 : Int) : runF tab FT D26 live 78 noLoops [(true, [(.int .i64, TC.i a0), (.int .i64, TC.i a1), (.bool, TC.b a2), (.bool, TC.b a3), (.slice 9, TC.l a4), (.slice 2, TC.l a5), (.slice 71, TC.l a6), (.slice 32, TC.l a7), (.int .i64, TC.i a8)])] = (qct_t a0 a1 a2 a3 a4 a5 a6 a7 a8).run fun p => some (qct_mk p) := by kernel_rfl
theorem qct_s : ∀ xs r, qct_S xs = some (true, r) → runF tab FT D26 live 78 noLoops xs = some r := by
  intro xs r h
  unfold qct_S at h
  split at h
  · obtain ⟨h1, rfl⟩ := sp h
    exact fun_told (qct_e ..) (qct_l _ _ _ _ _ _ _ _ _) rfl
  · cases h
def D27 : Dt := also D26 78 qct_S
theorem d27 : DOk Go.Proofs.Try.prog tab D27 := d26.also mixed_ok tab_ok names_ok noLoops_ok qct_s
section
class qbc_O where n : Nat
variable [i_spec_l04Can : qbc_O]
def qbc_rc (k s : Int) (sg bg : Bool) (NA NU ME BA : LL) (ct k2 s2 : Int) (sg2 bg2 : Bool) (NA2 NU2 ME2 BA2 : LL) (ct2 : Int) : Bool := is (max (rowsDep ME2) (rowsDep BA2) < qbc_O.n ∧ okV k s sg bg NA NU ME BA ct = true ∧ okV k2 s2 sg2 bg2 NA2 NU2 ME2 BA2 ct2 = true)
def qbc_rv (k s : Int) (sg bg : Bool) (NA NU ME BA : LL) (ct k2 s2 : Int) (sg2 bg2 : Bool) (NA2 NU2 ME2 BA2 : LL) (ct2 : Int) : Bool := canV k ME BA ct k2 ME2 BA2 ct2
def qbc_rmk (p : Bool) : Res := [(false, [⟨.bool, .sh, TC.b p⟩])]
def qbc_rS : List Arg → Option (Bool × Res) := fun xs => match xs with
  | [(true, [(.int .i64, TC.i k), (.int .i64, TC.i s), (.bool, TC.b sg), (.bool, TC.b bg), (.slice 9, TC.l NA), (.slice 2, TC.l NU), (.slice 71, TC.l ME), (.slice 32, TC.l BA), (.int .i64, TC.i ct)]), (true, [(.int .i64, TC.i k2), (.int .i64, TC.i s2), (.bool, TC.b sg2), (.bool, TC.b bg2), (.slice 9, TC.l NA2), (.slice 2, TC.l NU2), (.slice 71, TC.l ME2), (.slice 32, TC.l BA2), (.int .i64, TC.i ct2)])] => some ((qbc_rc k s sg bg NA NU ME BA ct k2 s2 sg2 bg2 NA2 NU2 ME2 BA2 ct2), qbc_rmk (qbc_rv k s sg bg NA NU ME BA ct k2 s2 sg2 bg2 NA2 NU2 ME2 BA2 ct2))
  | _ => .none
def D28 : Dt := also D27 50 qbc_rS
class qbc_G : Prop where ok : DOk Go.Proofs.Try.prog tab D28
variable [g_spec_l04Can : qbc_G]
theorem d28 : DOk Go.Proofs.Try.prog tab D28 := qbc_G.ok
abbrev qw_2_σ := BS × Int × Int × Bool × Bool × LL × LL × LL × LL × Int × Int
abbrev qw_2_ω := (Int) ⊕ (Unit)
def qw_2_step (nm : BS) (k s : Int) (sg bg : Bool) (NA NU ME BA : LL) (ct i : Int) : Tr (qw_2_σ ⊕ qw_2_ω) := (.ite ((decide (i < (ME.length : Int))) = true) (.ite ((0 : Int) ≤ i ∧ i < (ME.length : Int)) (.ite (((nth (row ME i) 0).str == nm) = true) (.ok (.inr (.inl i)))
    (.ok (.inl (nm, k, s, sg, bg, NA, NU, ME, BA, ct, (IntKind.wrap .i64 (i + (1 : Int)))))))
   .no)
  (.ok (.inr (.inr ()))))
def qw_2_st : qw_2_σ → Tr (qw_2_σ ⊕ qw_2_ω) := fun x => (qw_2_step (x.1) (x.2.1) (x.2.2.1) (x.2.2.2.1) (x.2.2.2.2.1) (x.2.2.2.2.2.1) (x.2.2.2.2.2.2.1) (x.2.2.2.2.2.2.2.1) (x.2.2.2.2.2.2.2.2.1) (x.2.2.2.2.2.2.2.2.2.1) (x.2.2.2.2.2.2.2.2.2.2))
def qw_k2_1 (nm : BS) (k s : Int) (sg bg : Bool) (NA NU ME BA : LL) (ct i : Int) : Bool := (ME).all (fun x => !((nth x 0).str == nm))
def qw_o2_2 (nm : BS) (k s : Int) (sg bg : Bool) (NA NU ME BA : LL) (ct i : Int) : Bool := is (i = 0 ∧ (ME).length ≤ 140737488351232)
def qw_o2_3 (nm : BS) (k s : Int) (sg bg : Bool) (NA NU ME BA : LL) (ct i : Int) : Bool := is (i = 0 ∧ (ME).length ≤ 140737488351232)
def qw_u2_3 (nm : BS) (k s : Int) (sg bg : Bool) (NA NU ME BA : LL) (ct i : Int) : Int := (Int.ofNat ((ME).findIdx fun x => !(fun x => !((nth x 0).str == nm)) x))
def qw_2_fin (nm : BS) (k s : Int) (sg bg : Bool) (NA NU ME BA : LL) (ct i : Int) : Told qw_2_ω := (.br (qw_k2_1 nm k s sg bg NA NU ME BA ct i) (.leaf (qw_o2_2 nm k s sg bg NA NU ME BA ct i) (.inr ())) (.leaf (qw_o2_3 nm k s sg bg NA NU ME BA ct i) (.inl (qw_u2_3 nm k s sg bg NA NU ME BA ct i))))
def qw_2_sl (x : qw_2_σ) : List Slot := [⟨.val false [⟨.str, .sh, TC.s (x.1)⟩], ⟨0, 0⟩⟩, ⟨.bx 32 [⟨.int .i64, .sh, TC.i (x.2.1)⟩, ⟨.int .i64, .sh, TC.i (x.2.2.1)⟩, ⟨.bool, .sh, TC.b (x.2.2.2.1)⟩, ⟨.bool, .sh, TC.b (x.2.2.2.2.1)⟩, ⟨.slice 9, .sh, TC.l (x.2.2.2.2.2.1)⟩, ⟨.slice 2, .sh, TC.l (x.2.2.2.2.2.2.1)⟩, ⟨.slice 71, .sh, TC.l (x.2.2.2.2.2.2.2.1)⟩, ⟨.slice 32, .sh, TC.l (x.2.2.2.2.2.2.2.2.1)⟩, ⟨.int .i64, .sh, TC.i (x.2.2.2.2.2.2.2.2.2.1)⟩], ⟨0, 0⟩⟩, ⟨.val false [⟨.int .i64, .sh, TC.i (x.2.2.2.2.2.2.2.2.2.2)⟩], ⟨0, 0⟩⟩]
def qw_2_out : qw_2_ω → Ex × List Slot := (Sum.elim (fun x => (.ret, [⟨.val false [⟨.int .i64, .sh, TC.i x⟩], ⟨0, 0⟩⟩])) (fun x => (.exit 0, [Slot.none])))
def qw_lo2 : List Slot → Option (Told (Ex × List Slot)) := fun s => match s with
  | [⟨.val false [⟨.str, .sh, TC.s nm⟩], ⟨0, 0⟩⟩, ⟨.bx 32 [⟨.int .i64, .sh, TC.i k⟩, ⟨.int .i64, .sh, TC.i s⟩, ⟨.bool, .sh, TC.b sg⟩, ⟨.bool, .sh, TC.b bg⟩, ⟨.slice 9, .sh, TC.l NA⟩, ⟨.slice 2, .sh, TC.l NU⟩, ⟨.slice 71, .sh, TC.l ME⟩, ⟨.slice 32, .sh, TC.l BA⟩, ⟨.int .i64, .sh, TC.i ct⟩], ⟨0, 0⟩⟩, ⟨.val false [⟨.int .i64, .sh, TC.i i⟩], ⟨0, 0⟩⟩] => some (((qw_2_fin nm k s sg bg NA NU ME BA ct i)).map qw_2_out)
  | _ => .none
def qw_lo : LoopTeller := fun r s => bif Nat.beq r 2 then qw_lo2 s else .none
theorem qw_2_r (nm : BS) (k s : Int) (sg bg : Bool) (NA NU ME BA : LL) (ct i : Int) (fuel : Nat) : rounds (rnd tab FT D28 live 79 qw_lo 0 2) leave (fuel + 1) (qw_2_sl (nm, k, s, sg, bg, NA, NU, ME, BA, ct, i)) = ((qw_2_step nm k s sg bg NA NU ME BA ct i)).run (goOn (fun s => rounds (rnd tab FT D28 live 79 qw_lo 0 2) leave fuel (qw_2_sl s)) fun w => some (qw_2_out w)) := by kernel_rfl
theorem qw_2_h (nm : BS) (k s : Int) (sg bg : Bool) (NA NU ME BA : LL) (ct i : Int) (ow : qw_2_ω) : ((qw_2_fin nm k s sg bg NA NU ME BA ct i)).val = some ow → ∃ fuel, loopN qw_2_st fuel (nm, k, s, sg, bg, NA, NU, ME, BA, ct, i) = some ow := by
  intro h
  have key : (ME).length ≤ 140737488351232 → loopN qw_2_st ((ME).length + 1) (nm, k, s, sg, bg, NA, NU, ME, BA, ct, (0 : Int)) = some (if (ME).all (fun x => !((nth x 0).str == nm)) = true then (.inr ()) else (.inl (Int.ofNat ((ME).findIdx fun x => !(fun x => !((nth x 0).str == nm)) x)))) := by
    intro ht
    have hlen : (ME).length ≤ 140737488351232 := ht
    have key := loopN_scan (step := qw_2_st) (ME) [] (fun x => !((nth x 0).str == nm)) (fun a _ => a) (fun i a => (nm, k, s, sg, bg, NA, NU, ME, BA, ct, (i : Int))) (fun a => (.inr ())) (fun i a => (.inl (i : Int))) (fun i a hi => ?_) (fun a => ?_) (ME).length 0 () (by omega)
    · first | (rw [Nat.zero_add] at key; exact key) | exact key
    · skip
      show (qw_2_step nm k s sg bg NA NU ME BA ct (i : Int)).val = _
      unfold qw_2_step
      refine Tr.t (by simp; omega) ?_
      skip
      refine Tr.t (by first | omega | (constructor <;> omega)) ?_
      refine Tr.b2 (fun hP => ?_) (fun _ => rfl)
      rw [Tr.val_ok, wrap64 (i := (i : Int) + 1) (by omega) (by omega)]; rfl
    · show (qw_2_step nm k s sg bg NA NU ME BA ct ((ME).length : Int)).val = _
      refine Tr.n (by simp) ?_
      rfl
  simp only [qw_2_fin, Told.val] at h
  cases hk : (ME).all (fun x => !((nth x 0).str == nm)) with
  | true =>
    rw [if_pos (show qw_k2_1 nm k s sg bg NA NU ME BA ct i = true from hk)] at h
    split at h
    · rename_i ho
      obtain ⟨rfl, ht⟩ := is_iff.1 ho
      cases h
      refine ⟨_, (key ht).trans ?_⟩
      rw [hk]; rfl
    · cases h
  | false =>
    rw [if_neg (show ¬qw_k2_1 nm k s sg bg NA NU ME BA ct i = true from by rw [show qw_k2_1 nm k s sg bg NA NU ME BA ct i = ((ME).all (fun x => !((nth x 0).str == nm))) from rfl, hk]; simp)] at h
    split at h
    · rename_i ho
      obtain ⟨rfl, ht⟩ := is_iff.1 ho
      cases h
      refine ⟨_, (key ht).trans ?_⟩
      rw [hk]; rfl
    · cases h
theorem qw_is2 : LoopIs tab FT D28 live 79 qw_lo 0 2 := by
  refine loop_told (sl := qw_2_sl) (step := qw_2_st) (out := qw_2_out) (lor := qw_lo2) (fin := fun x => (qw_2_fin (x.1) (x.2.1) (x.2.2.1) (x.2.2.2.1) (x.2.2.2.2.1) (x.2.2.2.2.2.1) (x.2.2.2.2.2.2.1) (x.2.2.2.2.2.2.2.1) (x.2.2.2.2.2.2.2.2.1) (x.2.2.2.2.2.2.2.2.2.1) (x.2.2.2.2.2.2.2.2.2.2))) (fun _ => rfl) ?_ (fun x n => qw_2_r x.1 x.2.1 x.2.2.1 x.2.2.2.1 x.2.2.2.2.1 x.2.2.2.2.2.1 x.2.2.2.2.2.2.1 x.2.2.2.2.2.2.2.1 x.2.2.2.2.2.2.2.2.1 x.2.2.2.2.2.2.2.2.2.1 x.2.2.2.2.2.2.2.2.2.2 n) (fun x ow => qw_2_h x.1 x.2.1 x.2.2.1 x.2.2.2.1 x.2.2.2.2.1 x.2.2.2.2.2.1 x.2.2.2.2.2.2.1 x.2.2.2.2.2.2.2.1 x.2.2.2.2.2.2.2.2.1 x.2.2.2.2.2.2.2.2.2.1 x.2.2.2.2.2.2.2.2.2.2 ow)
  intro s t h
  unfold qw_lo2 at h
  split at h
  · cases h; exact ⟨(_, _, _, _, _, _, _, _, _, _, _), rfl, rfl⟩
  · cases h
def qw_t (k s : Int) (sg bg : Bool) (NA NU ME BA : LL) (ct : Int) (nm : BS) : Tr (Int) := (.ite ((qw_k2_1 nm k s sg bg NA NU ME BA ct (0 : Int)) = true) (.ite ((qw_o2_2 nm k s sg bg NA NU ME BA ct (0 : Int)) = true) (.ok (-1 : Int))
   .no)
  (.ite ((qw_o2_3 nm k s sg bg NA NU ME BA ct (0 : Int)) = true) (.ok (qw_u2_3 nm k s sg bg NA NU ME BA ct (0 : Int)))
   .no))
def qw_mk (p : Int) : Res := [(false, [⟨.int .i64, .sh, TC.i p⟩])]
def qw_c (k s : Int) (sg bg : Bool) (NA NU ME BA : LL) (ct : Int) (nm : BS) : Bool := (bif (qw_k2_1 nm k s sg bg NA NU ME BA ct (0 : Int)) then ((qw_o2_2 nm k s sg bg NA NU ME BA ct (0 : Int)) && true) else ((qw_o2_3 nm k s sg bg NA NU ME BA ct (0 : Int)) && true))
def qw_v (k s : Int) (sg bg : Bool) (NA NU ME BA : LL) (ct : Int) (nm : BS) : Int := (bif (qw_k2_1 nm k s sg bg NA NU ME BA ct (0 : Int)) then (-1 : Int) else (qw_u2_3 nm k s sg bg NA NU ME BA ct (0 : Int)))
theorem qw_l (k s : Int) (sg bg : Bool) (NA NU ME BA : LL) (ct : Int) (nm : BS) : (qw_c k s sg bg NA NU ME BA ct nm) = true → (qw_t k s sg bg NA NU ME BA ct nm).val = some (qw_v k s sg bg NA NU ME BA ct nm) := by
  unfold qw_t qw_v qw_c
  exact fun h => (Tr.ss h (fun h => (Tr.gb h fun h => rfl)) (fun h => (Tr.gb h fun h => rfl)))
def qw_S : List Arg → Option (Bool × Res) := fun xs => match xs with
  | [(true, [(.int .i64, TC.i k), (.int .i64, TC.i s), (.bool, TC.b sg), (.bool, TC.b bg), (.slice 9, TC.l NA), (.slice 2, TC.l NU), (.slice 71, TC.l ME), (.slice 32, TC.l BA), (.int .i64, TC.i ct)]), (false, [(.str, TC.s nm)])] => some ((qw_c k s sg bg NA NU ME BA ct nm), qw_mk (qw_v k s sg bg NA NU ME BA ct nm))
  | _ => .none
theorem qw_e (k s : Int) (sg bg : Bool) (NA NU ME BA : LL) (ct : Int) (nm : BS) : runF tab FT D28 live 79 qw_lo [(true, [(.int .i64, TC.i k), (.int .i64, TC.i s), (.bool, TC.b sg), (.bool, TC.b bg), (.slice 9, TC.l NA), (.slice 2, TC.l NU), (.slice 71, TC.l ME), (.slice 32, TC.l BA), (.int .i64, TC.i ct)]), (false, [(.str, TC.s nm)])] = (qw_t k s sg bg NA NU ME BA ct nm).run fun p => some (qw_mk p) := by kernel_rfl
theorem qw_s : ∀ xs r, qw_S xs = some (true, r) → runF tab FT D28 live 79 qw_lo xs = some r := by
  intro xs r h
  unfold qw_S at h
  split at h
  · obtain ⟨h1, rfl⟩ := sp h
    exact fun_told (qw_e ..) (qw_l _ _ _ _ _ _ _ _ _ _) h1
  · cases h
def D29 : Dt := also D28 79 qw_S
theorem d29 : DOk Go.Proofs.Try.prog tab D29 := d28.also mixed_ok tab_ok names_ok (fnLoops_one (by kernel_rfl) qw_is2) qw_s
theorem qw_cc {k : Int} {s : Int} {sg : Bool} {bg : Bool} {NA : LL} {NU : LL} {ME : LL} {BA : LL} {ct : Int} {nm : BS} (hl : ME.length ≤ 140737488351232) : (qw_c k s sg bg NA NU ME BA ct nm) = true := by
  unfold qw_c
  refine bifT (fun b1 => ?_) (fun b1 => ?_)
  · skip
    refine andT (by exact is_true ⟨rfl, hl⟩) ?_
    rfl
  · skip
    refine andT (by exact is_true ⟨rfl, hl⟩) ?_
    rfl
theorem qw_vv (k s : Int) (sg bg : Bool) (NA NU ME BA : LL) (ct : Int) (nm : BS) : qw_v k s sg bg NA NU ME BA ct nm = bif memNo ME nm then -1 else ((memIx ME nm : Nat) : Int) := rfl
abbrev qbc_8_σ := Int × Int × Bool × Bool × LL × LL × LL × LL × Int × Int × Int × Bool × Bool × LL × LL × LL × LL × Int × Int
abbrev qbc_8_ω := (Unit) ⊕ (Unit)
def qbc_8_step (k s : Int) (sg bg : Bool) (NA NU ME BA : LL) (ct k2 s2 : Int) (sg2 bg2 : Bool) (NA2 NU2 ME2 BA2 : LL) (ct2 i : Int) : Tr (qbc_8_σ ⊕ qbc_8_ω) := (.ite ((decide (i < (ME2.length : Int))) = true) (.ite ((0 : Int) ≤ i ∧ i < (ME2.length : Int)) (.ite ((qw_c k s sg bg NA NU ME BA ct ((nth (row ME2 i) 0).str)) = true) (.ite ((decide ((qw_v k s sg bg NA NU ME BA ct ((nth (row ME2 i) 0).str)) ≥ (0 : Int))) = true) (.ite ((0 : Int) ≤ (qw_v k s sg bg NA NU ME BA ct ((nth (row ME2 i) 0).str)) ∧ (qw_v k s sg bg NA NU ME BA ct ((nth (row ME2 i) 0).str)) < (ME.length : Int)) (.ite ((0 : Int) ≤ i ∧ i < (ME2.length : Int)) (.ite ((qbc_rc ((nth (row ME (qw_v k s sg bg NA NU ME BA ct ((nth (row ME2 i) 0).str))) 2).int) ((nth (row ME (qw_v k s sg bg NA NU ME BA ct ((nth (row ME2 i) 0).str))) 3).int) ((nth (row ME (qw_v k s sg bg NA NU ME BA ct ((nth (row ME2 i) 0).str))) 4).bool) ((nth (row ME (qw_v k s sg bg NA NU ME BA ct ((nth (row ME2 i) 0).str))) 5).bool) ((nth (row ME (qw_v k s sg bg NA NU ME BA ct ((nth (row ME2 i) 0).str))) 6).list) ((nth (row ME (qw_v k s sg bg NA NU ME BA ct ((nth (row ME2 i) 0).str))) 7).list) ((nth (row ME (qw_v k s sg bg NA NU ME BA ct ((nth (row ME2 i) 0).str))) 8).list) ((nth (row ME (qw_v k s sg bg NA NU ME BA ct ((nth (row ME2 i) 0).str))) 9).list) ((nth (row ME (qw_v k s sg bg NA NU ME BA ct ((nth (row ME2 i) 0).str))) 10).int) ((nth (row ME2 i) 2).int) ((nth (row ME2 i) 3).int) ((nth (row ME2 i) 4).bool) ((nth (row ME2 i) 5).bool) ((nth (row ME2 i) 6).list) ((nth (row ME2 i) 7).list) ((nth (row ME2 i) 8).list) ((nth (row ME2 i) 9).list) ((nth (row ME2 i) 10).int)) = true) (.ite ((!(qbc_rv ((nth (row ME (qw_v k s sg bg NA NU ME BA ct ((nth (row ME2 i) 0).str))) 2).int) ((nth (row ME (qw_v k s sg bg NA NU ME BA ct ((nth (row ME2 i) 0).str))) 3).int) ((nth (row ME (qw_v k s sg bg NA NU ME BA ct ((nth (row ME2 i) 0).str))) 4).bool) ((nth (row ME (qw_v k s sg bg NA NU ME BA ct ((nth (row ME2 i) 0).str))) 5).bool) ((nth (row ME (qw_v k s sg bg NA NU ME BA ct ((nth (row ME2 i) 0).str))) 6).list) ((nth (row ME (qw_v k s sg bg NA NU ME BA ct ((nth (row ME2 i) 0).str))) 7).list) ((nth (row ME (qw_v k s sg bg NA NU ME BA ct ((nth (row ME2 i) 0).str))) 8).list) ((nth (row ME (qw_v k s sg bg NA NU ME BA ct ((nth (row ME2 i) 0).str))) 9).list) ((nth (row ME (qw_v k s sg bg NA NU ME BA ct ((nth (row ME2 i) 0).str))) 10).int) ((nth (row ME2 i) 2).int) ((nth (row ME2 i) 3).int) ((nth (row ME2 i) 4).bool) ((nth (row ME2 i) 5).bool) ((nth (row ME2 i) 6).list) ((nth (row ME2 i) 7).list) ((nth (row ME2 i) 8).list) ((nth (row ME2 i) 9).list) ((nth (row ME2 i) 10).int))) = true) (.ok (.inr (.inl ())))
         (.ok (.inl (k, s, sg, bg, NA, NU, ME, BA, ct, k2, s2, sg2, bg2, NA2, NU2, ME2, BA2, ct2, (IntKind.wrap .i64 (i + (1 : Int)))))))
        .no)
       .no)
      .no)
     (.ok (.inl (k, s, sg, bg, NA, NU, ME, BA, ct, k2, s2, sg2, bg2, NA2, NU2, ME2, BA2, ct2, (IntKind.wrap .i64 (i + (1 : Int)))))))
    .no)
   .no)
  (.ok (.inr (.inr ()))))
def qbc_8_st : qbc_8_σ → Tr (qbc_8_σ ⊕ qbc_8_ω) := fun x => (qbc_8_step (x.1) (x.2.1) (x.2.2.1) (x.2.2.2.1) (x.2.2.2.2.1) (x.2.2.2.2.2.1) (x.2.2.2.2.2.2.1) (x.2.2.2.2.2.2.2.1) (x.2.2.2.2.2.2.2.2.1) (x.2.2.2.2.2.2.2.2.2.1) (x.2.2.2.2.2.2.2.2.2.2.1) (x.2.2.2.2.2.2.2.2.2.2.2.1) (x.2.2.2.2.2.2.2.2.2.2.2.2.1) (x.2.2.2.2.2.2.2.2.2.2.2.2.2.1) (x.2.2.2.2.2.2.2.2.2.2.2.2.2.2.1) (x.2.2.2.2.2.2.2.2.2.2.2.2.2.2.2.1) (x.2.2.2.2.2.2.2.2.2.2.2.2.2.2.2.2.1) (x.2.2.2.2.2.2.2.2.2.2.2.2.2.2.2.2.2.1) (x.2.2.2.2.2.2.2.2.2.2.2.2.2.2.2.2.2.2))
def qbc_k8_1 (k s : Int) (sg bg : Bool) (NA NU ME BA : LL) (ct k2 s2 : Int) (sg2 bg2 : Bool) (NA2 NU2 ME2 BA2 : LL) (ct2 i : Int) : Bool := allI (fun j : Nat => (memNo ME (nth (row ME2 (j : Int)) 0).str || canV (nth (row ME ((memIx ME (nth (row ME2 (j : Int)) 0).str : Nat) : Int)) 2).int (nth (row ME ((memIx ME (nth (row ME2 (j : Int)) 0).str : Nat) : Int)) 8).list (nth (row ME ((memIx ME (nth (row ME2 (j : Int)) 0).str : Nat) : Int)) 9).list (nth (row ME ((memIx ME (nth (row ME2 (j : Int)) 0).str : Nat) : Int)) 10).int (nth (row ME2 (j : Int)) 2).int (nth (row ME2 (j : Int)) 8).list (nth (row ME2 (j : Int)) 9).list (nth (row ME2 (j : Int)) 10).int)) (ME2.length)
def qbc_o8_2 (k s : Int) (sg bg : Bool) (NA NU ME BA : LL) (ct k2 s2 : Int) (sg2 bg2 : Bool) (NA2 NU2 ME2 BA2 : LL) (ct2 i : Int) : Bool := is (i = 0 ∧ (ME.length ≤ 4 ∧ ME2.length ≤ 4 ∧ (∀ y : List TC, y ∈ ME2 → memNo ME (nth y 0).str = false → qbc_rc (nth (row ME ((memIx ME (nth y 0).str : Nat) : Int)) 2).int (nth (row ME ((memIx ME (nth y 0).str : Nat) : Int)) 3).int (nth (row ME ((memIx ME (nth y 0).str : Nat) : Int)) 4).bool (nth (row ME ((memIx ME (nth y 0).str : Nat) : Int)) 5).bool (nth (row ME ((memIx ME (nth y 0).str : Nat) : Int)) 6).list (nth (row ME ((memIx ME (nth y 0).str : Nat) : Int)) 7).list (nth (row ME ((memIx ME (nth y 0).str : Nat) : Int)) 8).list (nth (row ME ((memIx ME (nth y 0).str : Nat) : Int)) 9).list (nth (row ME ((memIx ME (nth y 0).str : Nat) : Int)) 10).int (nth y 2).int (nth y 3).int (nth y 4).bool (nth y 5).bool (nth y 6).list (nth y 7).list (nth y 8).list (nth y 9).list (nth y 10).int = true)))
def qbc_o8_3 (k s : Int) (sg bg : Bool) (NA NU ME BA : LL) (ct k2 s2 : Int) (sg2 bg2 : Bool) (NA2 NU2 ME2 BA2 : LL) (ct2 i : Int) : Bool := (qbc_o8_2 k s sg bg NA NU ME BA ct k2 s2 sg2 bg2 NA2 NU2 ME2 BA2 ct2 i)
def qbc_8_fin (k s : Int) (sg bg : Bool) (NA NU ME BA : LL) (ct k2 s2 : Int) (sg2 bg2 : Bool) (NA2 NU2 ME2 BA2 : LL) (ct2 i : Int) : Told qbc_8_ω := (.br (qbc_k8_1 k s sg bg NA NU ME BA ct k2 s2 sg2 bg2 NA2 NU2 ME2 BA2 ct2 i) (.leaf (qbc_o8_2 k s sg bg NA NU ME BA ct k2 s2 sg2 bg2 NA2 NU2 ME2 BA2 ct2 i) (.inr ())) (.leaf (qbc_o8_3 k s sg bg NA NU ME BA ct k2 s2 sg2 bg2 NA2 NU2 ME2 BA2 ct2 i) (.inl ())))
def qbc_8_sl : qbc_8_σ → List Slot := fun x => match x with | (k, s, sg, bg, NA, NU, ME, BA, ct, k2, s2, sg2, bg2, NA2, NU2, ME2, BA2, ct2, i) => [⟨.bx 32 [⟨.int .i64, .sh, TC.i k⟩, ⟨.int .i64, .sh, TC.i s⟩, ⟨.bool, .sh, TC.b sg⟩, ⟨.bool, .sh, TC.b bg⟩, ⟨.slice 9, .sh, TC.l NA⟩, ⟨.slice 2, .sh, TC.l NU⟩, ⟨.slice 71, .sh, TC.l ME⟩, ⟨.slice 32, .sh, TC.l BA⟩, ⟨.int .i64, .sh, TC.i ct⟩], ⟨0, 0⟩⟩, ⟨.bx 32 [⟨.int .i64, .sh, TC.i k2⟩, ⟨.int .i64, .sh, TC.i s2⟩, ⟨.bool, .sh, TC.b sg2⟩, ⟨.bool, .sh, TC.b bg2⟩, ⟨.slice 9, .sh, TC.l NA2⟩, ⟨.slice 2, .sh, TC.l NU2⟩, ⟨.slice 71, .sh, TC.l ME2⟩, ⟨.slice 32, .sh, TC.l BA2⟩, ⟨.int .i64, .sh, TC.i ct2⟩], ⟨0, 0⟩⟩, ⟨.val false [⟨.int .i64, .sh, TC.i i⟩], ⟨0, 0⟩⟩]
def qbc_8_out : qbc_8_ω → Ex × List Slot := (Sum.elim (fun x => (.ret, [⟨.val false [⟨.bool, .sh, TC.b false⟩], ⟨0, 0⟩⟩])) (fun x => (.exit 0, [Slot.none])))
def qbc_lo8 : List Slot → Option (Told (Ex × List Slot)) := fun s => match s with
  | [⟨.bx 32 [⟨.int .i64, .sh, TC.i k⟩, ⟨.int .i64, .sh, TC.i s⟩, ⟨.bool, .sh, TC.b sg⟩, ⟨.bool, .sh, TC.b bg⟩, ⟨.slice 9, .sh, TC.l NA⟩, ⟨.slice 2, .sh, TC.l NU⟩, ⟨.slice 71, .sh, TC.l ME⟩, ⟨.slice 32, .sh, TC.l BA⟩, ⟨.int .i64, .sh, TC.i ct⟩], ⟨0, 0⟩⟩, ⟨.bx 32 [⟨.int .i64, .sh, TC.i k2⟩, ⟨.int .i64, .sh, TC.i s2⟩, ⟨.bool, .sh, TC.b sg2⟩, ⟨.bool, .sh, TC.b bg2⟩, ⟨.slice 9, .sh, TC.l NA2⟩, ⟨.slice 2, .sh, TC.l NU2⟩, ⟨.slice 71, .sh, TC.l ME2⟩, ⟨.slice 32, .sh, TC.l BA2⟩, ⟨.int .i64, .sh, TC.i ct2⟩], ⟨0, 0⟩⟩, ⟨.val false [⟨.int .i64, .sh, TC.i i⟩], ⟨0, 0⟩⟩] => some (((qbc_8_fin k s sg bg NA NU ME BA ct k2 s2 sg2 bg2 NA2 NU2 ME2 BA2 ct2 i)).map qbc_8_out)
  | _ => .none
def qbc_lo : LoopTeller := fun r s => bif Nat.beq r 8 then qbc_lo8 s else .none
theorem qbc_8_r (k s : Int) (sg bg : Bool) (NA NU ME BA : LL) (ct k2 s2 : Int) (sg2 bg2 : Bool) (NA2 NU2 ME2 BA2 : LL) (ct2 i : Int) (fuel : Nat) : rounds (rnd tab FT D29 live 50 qbc_lo 0 8) leave (fuel + 1) (qbc_8_sl (k, s, sg, bg, NA, NU, ME, BA, ct, k2, s2, sg2, bg2, NA2, NU2, ME2, BA2, ct2, i)) = ((qbc_8_step k s sg bg NA NU ME BA ct k2 s2 sg2 bg2 NA2 NU2 ME2 BA2 ct2 i)).run (goOn (fun s => rounds (rnd tab FT D29 live 50 qbc_lo 0 8) leave fuel (qbc_8_sl s)) fun w => some (qbc_8_out w)) := by kernel_rfl
theorem qbc_8_h (k s : Int) (sg bg : Bool) (NA NU ME BA : LL) (ct k2 s2 : Int) (sg2 bg2 : Bool) (NA2 NU2 ME2 BA2 : LL) (ct2 i : Int) (ow : qbc_8_ω) : ((qbc_8_fin k s sg bg NA NU ME BA ct k2 s2 sg2 bg2 NA2 NU2 ME2 BA2 ct2 i)).val = some ow → ∃ fuel, loopN qbc_8_st fuel (k, s, sg, bg, NA, NU, ME, BA, ct, k2, s2, sg2, bg2, NA2, NU2, ME2, BA2, ct2, i) = some ow := by
  intro h
  have key : (ME.length ≤ 4 ∧ ME2.length ≤ 4 ∧ (∀ y : List TC, y ∈ ME2 → memNo ME (nth y 0).str = false → qbc_rc (nth (row ME ((memIx ME (nth y 0).str : Nat) : Int)) 2).int (nth (row ME ((memIx ME (nth y 0).str : Nat) : Int)) 3).int (nth (row ME ((memIx ME (nth y 0).str : Nat) : Int)) 4).bool (nth (row ME ((memIx ME (nth y 0).str : Nat) : Int)) 5).bool (nth (row ME ((memIx ME (nth y 0).str : Nat) : Int)) 6).list (nth (row ME ((memIx ME (nth y 0).str : Nat) : Int)) 7).list (nth (row ME ((memIx ME (nth y 0).str : Nat) : Int)) 8).list (nth (row ME ((memIx ME (nth y 0).str : Nat) : Int)) 9).list (nth (row ME ((memIx ME (nth y 0).str : Nat) : Int)) 10).int (nth y 2).int (nth y 3).int (nth y 4).bool (nth y 5).bool (nth y 6).list (nth y 7).list (nth y 8).list (nth y 9).list (nth y 10).int = true)) → loopN qbc_8_st ((ME2.length) + 1) (k, s, sg, bg, NA, NU, ME, BA, ct, k2, s2, sg2, bg2, NA2, NU2, ME2, BA2, ct2, (0 : Int)) = some (if allI (fun j : Nat => (memNo ME (nth (row ME2 (j : Int)) 0).str || canV (nth (row ME ((memIx ME (nth (row ME2 (j : Int)) 0).str : Nat) : Int)) 2).int (nth (row ME ((memIx ME (nth (row ME2 (j : Int)) 0).str : Nat) : Int)) 8).list (nth (row ME ((memIx ME (nth (row ME2 (j : Int)) 0).str : Nat) : Int)) 9).list (nth (row ME ((memIx ME (nth (row ME2 (j : Int)) 0).str : Nat) : Int)) 10).int (nth (row ME2 (j : Int)) 2).int (nth (row ME2 (j : Int)) 8).list (nth (row ME2 (j : Int)) 9).list (nth (row ME2 (j : Int)) 10).int)) (ME2.length) = true then (.inr ()) else (.inl ())) := by
    intro ht
    obtain ⟨hl1, hl2, hr⟩ := ht
    have key := loopN_scanI (step := qbc_8_st) (ME2.length) (fun j : Nat => (memNo ME (nth (row ME2 (j : Int)) 0).str || canV (nth (row ME ((memIx ME (nth (row ME2 (j : Int)) 0).str : Nat) : Int)) 2).int (nth (row ME ((memIx ME (nth (row ME2 (j : Int)) 0).str : Nat) : Int)) 8).list (nth (row ME ((memIx ME (nth (row ME2 (j : Int)) 0).str : Nat) : Int)) 9).list (nth (row ME ((memIx ME (nth (row ME2 (j : Int)) 0).str : Nat) : Int)) 10).int (nth (row ME2 (j : Int)) 2).int (nth (row ME2 (j : Int)) 8).list (nth (row ME2 (j : Int)) 9).list (nth (row ME2 (j : Int)) 10).int)) (fun _ a => a) (fun i a => (k, s, sg, bg, NA, NU, ME, BA, ct, k2, s2, sg2, bg2, NA2, NU2, ME2, BA2, ct2, (i : Int))) (fun a => (.inr ())) (fun i a => (.inl ())) (fun i a hi => ?_) (fun a => ?_) ()
    · first | exact key
    · skip
      show (qbc_8_step k s sg bg NA NU ME BA ct k2 s2 sg2 bg2 NA2 NU2 ME2 BA2 ct2 (i : Int)).val = _
      unfold qbc_8_step
      refine Tr.t (by simp; omega) ?_
      skip
      have hx : (row ME2 (i : Int)) ∈ ME2 := by rw [row_nat]; exact mem_getD hi
      refine Tr.t (by constructor <;> omega) (Tr.t (qw_cc (by omega)) ?_)
      rw [qw_vv]
      cases hm : memNo ME (nth (row ME2 (i : Int)) 0).str with
      | true =>
        refine Tr.n (by simp) ?_
        rw [Tr.val_ok, wrap64 (by omega) (by omega)]
        rfl
      | false =>
        have hlt := memIx_lt hm
        rw [show (bif false then (-1 : Int) else ((memIx ME (nth (row ME2 (i : Int)) 0).str : Nat) : Int)) = ((memIx ME (nth (row ME2 (i : Int)) 0).str : Nat) : Int) from rfl]
        refine Tr.t (by simp) (Tr.t ⟨by omega, by omega⟩ (Tr.t (by constructor <;> omega) (Tr.t (hr _ hx hm) ?_)))
        rw [show qbc_rv (nth (row ME ((memIx ME (nth (row ME2 (i : Int)) 0).str : Nat) : Int)) 2).int (nth (row ME ((memIx ME (nth (row ME2 (i : Int)) 0).str : Nat) : Int)) 3).int (nth (row ME ((memIx ME (nth (row ME2 (i : Int)) 0).str : Nat) : Int)) 4).bool (nth (row ME ((memIx ME (nth (row ME2 (i : Int)) 0).str : Nat) : Int)) 5).bool (nth (row ME ((memIx ME (nth (row ME2 (i : Int)) 0).str : Nat) : Int)) 6).list (nth (row ME ((memIx ME (nth (row ME2 (i : Int)) 0).str : Nat) : Int)) 7).list (nth (row ME ((memIx ME (nth (row ME2 (i : Int)) 0).str : Nat) : Int)) 8).list (nth (row ME ((memIx ME (nth (row ME2 (i : Int)) 0).str : Nat) : Int)) 9).list (nth (row ME ((memIx ME (nth (row ME2 (i : Int)) 0).str : Nat) : Int)) 10).int (nth (row ME2 (i : Int)) 2).int (nth (row ME2 (i : Int)) 3).int (nth (row ME2 (i : Int)) 4).bool (nth (row ME2 (i : Int)) 5).bool (nth (row ME2 (i : Int)) 6).list (nth (row ME2 (i : Int)) 7).list (nth (row ME2 (i : Int)) 8).list (nth (row ME2 (i : Int)) 9).list (nth (row ME2 (i : Int)) 10).int = canV (nth (row ME ((memIx ME (nth (row ME2 (i : Int)) 0).str : Nat) : Int)) 2).int (nth (row ME ((memIx ME (nth (row ME2 (i : Int)) 0).str : Nat) : Int)) 8).list (nth (row ME ((memIx ME (nth (row ME2 (i : Int)) 0).str : Nat) : Int)) 9).list (nth (row ME ((memIx ME (nth (row ME2 (i : Int)) 0).str : Nat) : Int)) 10).int (nth (row ME2 (i : Int)) 2).int (nth (row ME2 (i : Int)) 8).list (nth (row ME2 (i : Int)) 9).list (nth (row ME2 (i : Int)) 10).int from rfl]
        cases hc : canV (nth (row ME ((memIx ME (nth (row ME2 (i : Int)) 0).str : Nat) : Int)) 2).int (nth (row ME ((memIx ME (nth (row ME2 (i : Int)) 0).str : Nat) : Int)) 8).list (nth (row ME ((memIx ME (nth (row ME2 (i : Int)) 0).str : Nat) : Int)) 9).list (nth (row ME ((memIx ME (nth (row ME2 (i : Int)) 0).str : Nat) : Int)) 10).int (nth (row ME2 (i : Int)) 2).int (nth (row ME2 (i : Int)) 8).list (nth (row ME2 (i : Int)) 9).list (nth (row ME2 (i : Int)) 10).int with
        | true =>
          refine Tr.n (by simp) ?_
          rw [Tr.val_ok, wrap64 (by omega) (by omega)]
          rfl
        | false => exact Tr.t rfl rfl
    · show (qbc_8_step k s sg bg NA NU ME BA ct k2 s2 sg2 bg2 NA2 NU2 ME2 BA2 ct2 (ME2.length : Int)).val = _
      refine Tr.n (by first | (simp; done) | (simp; omega)) ?_
      rfl
  simp only [qbc_8_fin, Told.val] at h
  cases hk : allI (fun j : Nat => (memNo ME (nth (row ME2 (j : Int)) 0).str || canV (nth (row ME ((memIx ME (nth (row ME2 (j : Int)) 0).str : Nat) : Int)) 2).int (nth (row ME ((memIx ME (nth (row ME2 (j : Int)) 0).str : Nat) : Int)) 8).list (nth (row ME ((memIx ME (nth (row ME2 (j : Int)) 0).str : Nat) : Int)) 9).list (nth (row ME ((memIx ME (nth (row ME2 (j : Int)) 0).str : Nat) : Int)) 10).int (nth (row ME2 (j : Int)) 2).int (nth (row ME2 (j : Int)) 8).list (nth (row ME2 (j : Int)) 9).list (nth (row ME2 (j : Int)) 10).int)) (ME2.length) with
  | true =>
    rw [if_pos (show qbc_k8_1 k s sg bg NA NU ME BA ct k2 s2 sg2 bg2 NA2 NU2 ME2 BA2 ct2 i = true from hk)] at h
    split at h
    · rename_i ho
      obtain ⟨rfl, ht⟩ := is_iff.1 ho
      cases h
      refine ⟨_, (key ht).trans ?_⟩
      rw [hk]; rfl
    · cases h
  | false =>
    rw [if_neg (show ¬qbc_k8_1 k s sg bg NA NU ME BA ct k2 s2 sg2 bg2 NA2 NU2 ME2 BA2 ct2 i = true from by rw [show qbc_k8_1 k s sg bg NA NU ME BA ct k2 s2 sg2 bg2 NA2 NU2 ME2 BA2 ct2 i = (allI (fun j : Nat => (memNo ME (nth (row ME2 (j : Int)) 0).str || canV (nth (row ME ((memIx ME (nth (row ME2 (j : Int)) 0).str : Nat) : Int)) 2).int (nth (row ME ((memIx ME (nth (row ME2 (j : Int)) 0).str : Nat) : Int)) 8).list (nth (row ME ((memIx ME (nth (row ME2 (j : Int)) 0).str : Nat) : Int)) 9).list (nth (row ME ((memIx ME (nth (row ME2 (j : Int)) 0).str : Nat) : Int)) 10).int (nth (row ME2 (j : Int)) 2).int (nth (row ME2 (j : Int)) 8).list (nth (row ME2 (j : Int)) 9).list (nth (row ME2 (j : Int)) 10).int)) (ME2.length)) from rfl, hk]; simp)] at h
    split at h
    · rename_i ho
      obtain ⟨rfl, ht⟩ := is_iff.1 ho
      cases h
      refine ⟨_, (key ht).trans ?_⟩
      rw [hk]; rfl
    · cases h
theorem qbc_is8 : LoopIs tab FT D29 live 50 qbc_lo 0 8 := by
  refine loop_told (sl := qbc_8_sl) (step := qbc_8_st) (out := qbc_8_out) (lor := qbc_lo8) (fin := fun x => (qbc_8_fin (x.1) (x.2.1) (x.2.2.1) (x.2.2.2.1) (x.2.2.2.2.1) (x.2.2.2.2.2.1) (x.2.2.2.2.2.2.1) (x.2.2.2.2.2.2.2.1) (x.2.2.2.2.2.2.2.2.1) (x.2.2.2.2.2.2.2.2.2.1) (x.2.2.2.2.2.2.2.2.2.2.1) (x.2.2.2.2.2.2.2.2.2.2.2.1) (x.2.2.2.2.2.2.2.2.2.2.2.2.1) (x.2.2.2.2.2.2.2.2.2.2.2.2.2.1) (x.2.2.2.2.2.2.2.2.2.2.2.2.2.2.1) (x.2.2.2.2.2.2.2.2.2.2.2.2.2.2.2.1) (x.2.2.2.2.2.2.2.2.2.2.2.2.2.2.2.2.1) (x.2.2.2.2.2.2.2.2.2.2.2.2.2.2.2.2.2.1) (x.2.2.2.2.2.2.2.2.2.2.2.2.2.2.2.2.2.2))) (fun _ => rfl) ?_ (fun x n => qbc_8_r x.1 x.2.1 x.2.2.1 x.2.2.2.1 x.2.2.2.2.1 x.2.2.2.2.2.1 x.2.2.2.2.2.2.1 x.2.2.2.2.2.2.2.1 x.2.2.2.2.2.2.2.2.1 x.2.2.2.2.2.2.2.2.2.1 x.2.2.2.2.2.2.2.2.2.2.1 x.2.2.2.2.2.2.2.2.2.2.2.1 x.2.2.2.2.2.2.2.2.2.2.2.2.1 x.2.2.2.2.2.2.2.2.2.2.2.2.2.1 x.2.2.2.2.2.2.2.2.2.2.2.2.2.2.1 x.2.2.2.2.2.2.2.2.2.2.2.2.2.2.2.1 x.2.2.2.2.2.2.2.2.2.2.2.2.2.2.2.2.1 x.2.2.2.2.2.2.2.2.2.2.2.2.2.2.2.2.2.1 x.2.2.2.2.2.2.2.2.2.2.2.2.2.2.2.2.2.2 n) (fun x ow => qbc_8_h x.1 x.2.1 x.2.2.1 x.2.2.2.1 x.2.2.2.2.1 x.2.2.2.2.2.1 x.2.2.2.2.2.2.1 x.2.2.2.2.2.2.2.1 x.2.2.2.2.2.2.2.2.1 x.2.2.2.2.2.2.2.2.2.1 x.2.2.2.2.2.2.2.2.2.2.1 x.2.2.2.2.2.2.2.2.2.2.2.1 x.2.2.2.2.2.2.2.2.2.2.2.2.1 x.2.2.2.2.2.2.2.2.2.2.2.2.2.1 x.2.2.2.2.2.2.2.2.2.2.2.2.2.2.1 x.2.2.2.2.2.2.2.2.2.2.2.2.2.2.2.1 x.2.2.2.2.2.2.2.2.2.2.2.2.2.2.2.2.1 x.2.2.2.2.2.2.2.2.2.2.2.2.2.2.2.2.2.1 x.2.2.2.2.2.2.2.2.2.2.2.2.2.2.2.2.2.2 ow)
  intro s t h
  unfold qbc_lo8 at h
  split at h
  · cases h; exact ⟨(_, _, _, _, _, _, _, _, _, _, _, _, _, _, _, _, _, _, _), rfl, rfl⟩
  · cases h
def qbc_t (k s : Int) (sg bg : Bool) (NA NU ME BA : LL) (ct k2 s2 : Int) (sg2 bg2 : Bool) (NA2 NU2 ME2 BA2 : LL) (ct2 : Int) : Tr (Bool) := (.ite ((qct_v k s sg bg NA NU ME BA ct) = true) (.ite ((qct_v k s sg bg NA NU ME BA ct) = true) (.ok (qct_v k2 s2 sg2 bg2 NA2 NU2 ME2 BA2 ct2))
   (.ok false))
  (.ite ((qct_v k2 s2 sg2 bg2 NA2 NU2 ME2 BA2 ct2) = true) (.ite ((qct_v k s sg bg NA NU ME BA ct) = true) (.ok (qct_v k2 s2 sg2 bg2 NA2 NU2 ME2 BA2 ct2))
    (.ok false))
   (.ite ((!(k == k2)) = true) (.ok false)
    (.ite ((k == (5 : Int)) = true) (.ite ((ct == ct2) = true) (.ite ((0 : Int) ≤ (0 : Int) ∧ (0 : Int) < (BA.length : Int)) (.ite ((0 : Int) ≤ (0 : Int) ∧ (0 : Int) < (BA2.length : Int)) (.ite ((qbc_rc ((nth (row BA (0 : Int)) 0).int) ((nth (row BA (0 : Int)) 1).int) ((nth (row BA (0 : Int)) 2).bool) ((nth (row BA (0 : Int)) 3).bool) ((nth (row BA (0 : Int)) 4).list) ((nth (row BA (0 : Int)) 5).list) ((nth (row BA (0 : Int)) 6).list) ((nth (row BA (0 : Int)) 7).list) ((nth (row BA (0 : Int)) 8).int) ((nth (row BA2 (0 : Int)) 0).int) ((nth (row BA2 (0 : Int)) 1).int) ((nth (row BA2 (0 : Int)) 2).bool) ((nth (row BA2 (0 : Int)) 3).bool) ((nth (row BA2 (0 : Int)) 4).list) ((nth (row BA2 (0 : Int)) 5).list) ((nth (row BA2 (0 : Int)) 6).list) ((nth (row BA2 (0 : Int)) 7).list) ((nth (row BA2 (0 : Int)) 8).int)) = true) (.ok (qbc_rv ((nth (row BA (0 : Int)) 0).int) ((nth (row BA (0 : Int)) 1).int) ((nth (row BA (0 : Int)) 2).bool) ((nth (row BA (0 : Int)) 3).bool) ((nth (row BA (0 : Int)) 4).list) ((nth (row BA (0 : Int)) 5).list) ((nth (row BA (0 : Int)) 6).list) ((nth (row BA (0 : Int)) 7).list) ((nth (row BA (0 : Int)) 8).int) ((nth (row BA2 (0 : Int)) 0).int) ((nth (row BA2 (0 : Int)) 1).int) ((nth (row BA2 (0 : Int)) 2).bool) ((nth (row BA2 (0 : Int)) 3).bool) ((nth (row BA2 (0 : Int)) 4).list) ((nth (row BA2 (0 : Int)) 5).list) ((nth (row BA2 (0 : Int)) 6).list) ((nth (row BA2 (0 : Int)) 7).list) ((nth (row BA2 (0 : Int)) 8).int)))
         .no)
        .no)
       .no)
      (.ok false))
     (.ite ((qbc_k8_1 k s sg bg NA NU ME BA ct k2 s2 sg2 bg2 NA2 NU2 ME2 BA2 ct2 (0 : Int)) = true) (.ite ((qbc_o8_2 k s sg bg NA NU ME BA ct k2 s2 sg2 bg2 NA2 NU2 ME2 BA2 ct2 (0 : Int)) = true) (.ok true)
       .no)
      (.ite ((qbc_o8_3 k s sg bg NA NU ME BA ct k2 s2 sg2 bg2 NA2 NU2 ME2 BA2 ct2 (0 : Int)) = true) (.ok false)
       .no))))))
def qbc_mk (p : Bool) : Res := [(false, [⟨.bool, .sh, TC.b p⟩])]
def qbc_c (k s : Int) (sg bg : Bool) (NA NU ME BA : LL) (ct k2 s2 : Int) (sg2 bg2 : Bool) (NA2 NU2 ME2 BA2 : LL) (ct2 : Int) : Bool := (bif (qct_v k s sg bg NA NU ME BA ct) then (bif (qct_v k s sg bg NA NU ME BA ct) then true else true) else (bif (qct_v k2 s2 sg2 bg2 NA2 NU2 ME2 BA2 ct2) then (bif (qct_v k s sg bg NA NU ME BA ct) then true else true) else (bif (!(k == k2)) then true else (bif (k == (5 : Int)) then (bif (ct == ct2) then (is ((0 : Int) ≤ (0 : Int) ∧ (0 : Int) < (BA.length : Int)) && (is ((0 : Int) ≤ (0 : Int) ∧ (0 : Int) < (BA2.length : Int)) && ((qbc_rc ((nth (row BA (0 : Int)) 0).int) ((nth (row BA (0 : Int)) 1).int) ((nth (row BA (0 : Int)) 2).bool) ((nth (row BA (0 : Int)) 3).bool) ((nth (row BA (0 : Int)) 4).list) ((nth (row BA (0 : Int)) 5).list) ((nth (row BA (0 : Int)) 6).list) ((nth (row BA (0 : Int)) 7).list) ((nth (row BA (0 : Int)) 8).int) ((nth (row BA2 (0 : Int)) 0).int) ((nth (row BA2 (0 : Int)) 1).int) ((nth (row BA2 (0 : Int)) 2).bool) ((nth (row BA2 (0 : Int)) 3).bool) ((nth (row BA2 (0 : Int)) 4).list) ((nth (row BA2 (0 : Int)) 5).list) ((nth (row BA2 (0 : Int)) 6).list) ((nth (row BA2 (0 : Int)) 7).list) ((nth (row BA2 (0 : Int)) 8).int)) && true))) else true) else (bif (qbc_k8_1 k s sg bg NA NU ME BA ct k2 s2 sg2 bg2 NA2 NU2 ME2 BA2 ct2 (0 : Int)) then ((qbc_o8_2 k s sg bg NA NU ME BA ct k2 s2 sg2 bg2 NA2 NU2 ME2 BA2 ct2 (0 : Int)) && true) else ((qbc_o8_3 k s sg bg NA NU ME BA ct k2 s2 sg2 bg2 NA2 NU2 ME2 BA2 ct2 (0 : Int)) && true))))))
def qbc_v (k s : Int) (sg bg : Bool) (NA NU ME BA : LL) (ct k2 s2 : Int) (sg2 bg2 : Bool) (NA2 NU2 ME2 BA2 : LL) (ct2 : Int) : Bool := (bif (qct_v k s sg bg NA NU ME BA ct) then (bif (qct_v k s sg bg NA NU ME BA ct) then (qct_v k2 s2 sg2 bg2 NA2 NU2 ME2 BA2 ct2) else false) else (bif (qct_v k2 s2 sg2 bg2 NA2 NU2 ME2 BA2 ct2) then (bif (qct_v k s sg bg NA NU ME BA ct) then (qct_v k2 s2 sg2 bg2 NA2 NU2 ME2 BA2 ct2) else false) else (bif (!(k == k2)) then false else (bif (k == (5 : Int)) then (bif (ct == ct2) then (qbc_rv ((nth (row BA (0 : Int)) 0).int) ((nth (row BA (0 : Int)) 1).int) ((nth (row BA (0 : Int)) 2).bool) ((nth (row BA (0 : Int)) 3).bool) ((nth (row BA (0 : Int)) 4).list) ((nth (row BA (0 : Int)) 5).list) ((nth (row BA (0 : Int)) 6).list) ((nth (row BA (0 : Int)) 7).list) ((nth (row BA (0 : Int)) 8).int) ((nth (row BA2 (0 : Int)) 0).int) ((nth (row BA2 (0 : Int)) 1).int) ((nth (row BA2 (0 : Int)) 2).bool) ((nth (row BA2 (0 : Int)) 3).bool) ((nth (row BA2 (0 : Int)) 4).list) ((nth (row BA2 (0 : Int)) 5).list) ((nth (row BA2 (0 : Int)) 6).list) ((nth (row BA2 (0 : Int)) 7).list) ((nth (row BA2 (0 : Int)) 8).int)) else false) else (bif (qbc_k8_1 k s sg bg NA NU ME BA ct k2 s2 sg2 bg2 NA2 NU2 ME2 BA2 ct2 (0 : Int)) then true else false)))))
theorem qbc_l (k s : Int) (sg bg : Bool) (NA NU ME BA : LL) (ct k2 s2 : Int) (sg2 bg2 : Bool) (NA2 NU2 ME2 BA2 : LL) (ct2 : Int) : (qbc_c k s sg bg NA NU ME BA ct k2 s2 sg2 bg2 NA2 NU2 ME2 BA2 ct2) = true → (qbc_t k s sg bg NA NU ME BA ct k2 s2 sg2 bg2 NA2 NU2 ME2 BA2 ct2).val = some (qbc_v k s sg bg NA NU ME BA ct k2 s2 sg2 bg2 NA2 NU2 ME2 BA2 ct2) := by
  unfold qbc_t qbc_v qbc_c
  intro h
  repeat' first | refine Tr.gb h fun h => ?_ | refine Tr.gs h fun h => ?_ | refine Tr.ss h (fun h => ?_) fun h => ?_ | exact rfl
theorem qbc_e (k s : Int) (sg bg : Bool) (NA NU ME BA : LL) (ct k2 s2 : Int) (sg2 bg2 : Bool) (NA2 NU2 ME2 BA2 : LL) (ct2 : Int) : runF tab FT D29 live 50 qbc_lo [(true, [(.int .i64, TC.i k), (.int .i64, TC.i s), (.bool, TC.b sg), (.bool, TC.b bg), (.slice 9, TC.l NA), (.slice 2, TC.l NU), (.slice 71, TC.l ME), (.slice 32, TC.l BA), (.int .i64, TC.i ct)]), (true, [(.int .i64, TC.i k2), (.int .i64, TC.i s2), (.bool, TC.b sg2), (.bool, TC.b bg2), (.slice 9, TC.l NA2), (.slice 2, TC.l NU2), (.slice 71, TC.l ME2), (.slice 32, TC.l BA2), (.int .i64, TC.i ct2)])] = (qbc_t k s sg bg NA NU ME BA ct k2 s2 sg2 bg2 NA2 NU2 ME2 BA2 ct2).run fun p => some (qbc_mk p) := by kernel_rfl
theorem qbc_nx (k s : Int) (sg bg : Bool) (NA NU ME BA : LL) (ct k2 s2 : Int) (sg2 bg2 : Bool) (NA2 NU2 ME2 BA2 : LL) (ct2 : Int) : is (max (rowsDep ME2) (rowsDep BA2) < qbc_O.n + 1 ∧ okV k s sg bg NA NU ME BA ct = true ∧ okV k2 s2 sg2 bg2 NA2 NU2 ME2 BA2 ct2 = true) = true → (qbc_c k s sg bg NA NU ME BA ct k2 s2 sg2 bg2 NA2 NU2 ME2 BA2 ct2) = true ∧ (qbc_v k s sg bg NA NU ME BA ct k2 s2 sg2 bg2 NA2 NU2 ME2 BA2 ct2) = canV k ME BA ct k2 ME2 BA2 ct2 := by
  intro h
  obtain ⟨hM, hk, hk2⟩ := is_iff.1 h
  obtain ⟨hl1, hm1⟩ := okV_me hk
  obtain ⟨hl2, hm2⟩ := okV_me hk2
  have hr : ∀ y : List TC, y ∈ ME2 → memNo ME (nth y 0).str = false → qbc_rc (nth (row ME ((memIx ME (nth y 0).str : Nat) : Int)) 2).int (nth (row ME ((memIx ME (nth y 0).str : Nat) : Int)) 3).int (nth (row ME ((memIx ME (nth y 0).str : Nat) : Int)) 4).bool (nth (row ME ((memIx ME (nth y 0).str : Nat) : Int)) 5).bool (nth (row ME ((memIx ME (nth y 0).str : Nat) : Int)) 6).list (nth (row ME ((memIx ME (nth y 0).str : Nat) : Int)) 7).list (nth (row ME ((memIx ME (nth y 0).str : Nat) : Int)) 8).list (nth (row ME ((memIx ME (nth y 0).str : Nat) : Int)) 9).list (nth (row ME ((memIx ME (nth y 0).str : Nat) : Int)) 10).int (nth y 2).int (nth y 3).int (nth y 4).bool (nth y 5).bool (nth y 6).list (nth y 7).list (nth y 8).list (nth y 9).list (nth y 10).int = true := fun y hy hn => is_true ⟨by have := dep_max (BA := BA2) hy 8 9; omega, hm1 _ (by rw [row_nat]; exact mem_getD (memIx_lt hn)), hm2 y hy⟩
  unfold qbc_c qbc_v
  rw [canV, attach_can, show qct_v k s sg bg NA NU ME BA ct = numE k from rfl, show qct_v k2 s2 sg2 bg2 NA2 NU2 ME2 BA2 ct2 = numE k2 from rfl]
  cases h1 : numE k with
  | true => cases h2 : numE k2 <;> exact ⟨rfl, rfl⟩
  | false =>
    cases h2 : numE k2 with
    | true => exact ⟨rfl, rfl⟩
    | false =>
      cases hkk : (k == k2) with
      | false => exact ⟨rfl, rfl⟩
      | true =>
        have hkk := eq_of_beq hkk
        subst hkk
        cases h5 : (k == 5) with
        | true =>
          have h5 := eq_of_beq h5
          subst h5
          obtain ⟨hb, ho⟩ := okV_base hk
          obtain ⟨hb2, ho2⟩ := okV_base hk2
          have hrb : qbc_rc (nth (row BA (0 : Int)) 0).int (nth (row BA (0 : Int)) 1).int (nth (row BA (0 : Int)) 2).bool (nth (row BA (0 : Int)) 3).bool (nth (row BA (0 : Int)) 4).list (nth (row BA (0 : Int)) 5).list (nth (row BA (0 : Int)) 6).list (nth (row BA (0 : Int)) 7).list (nth (row BA (0 : Int)) 8).int (nth (row BA2 (0 : Int)) 0).int (nth (row BA2 (0 : Int)) 1).int (nth (row BA2 (0 : Int)) 2).bool (nth (row BA2 (0 : Int)) 3).bool (nth (row BA2 (0 : Int)) 4).list (nth (row BA2 (0 : Int)) 5).list (nth (row BA2 (0 : Int)) 6).list (nth (row BA2 (0 : Int)) 7).list (nth (row BA2 (0 : Int)) 8).int = true := is_true ⟨by have := dep_base (ME := ME2) hb2 6 7; omega, ho, ho2⟩
          rw [dif_pos hb2]
          cases hct : (ct == ct2) with
          | false => exact ⟨rfl, rfl⟩
          | true => exact ⟨andT (is_true (by constructor <;> omega)) (andT (is_true (by constructor <;> omega)) (andT hrb rfl)), rfl⟩
        | false =>
          have c2 : qbc_o8_2 k s sg bg NA NU ME BA ct k s2 sg2 bg2 NA2 NU2 ME2 BA2 ct2 (0 : Int) = true := is_true ⟨rfl, hl1, hl2, hr⟩
          have c3 : qbc_o8_3 k s sg bg NA NU ME BA ct k s2 sg2 bg2 NA2 NU2 ME2 BA2 ct2 (0 : Int) = true := is_true ⟨rfl, hl1, hl2, hr⟩
          rw [c2, c3, show qbc_k8_1 k s sg bg NA NU ME BA ct k s2 sg2 bg2 NA2 NU2 ME2 BA2 ct2 (0 : Int) = ME2.all (fun y => memNo ME (nth y 0).str || canV (nth (row ME ((memIx ME (nth y 0).str : Nat) : Int)) 2).int (nth (row ME ((memIx ME (nth y 0).str : Nat) : Int)) 8).list (nth (row ME ((memIx ME (nth y 0).str : Nat) : Int)) 9).list (nth (row ME ((memIx ME (nth y 0).str : Nat) : Int)) 10).int (nth y 2).int (nth y 8).list (nth y 9).list (nth y 10).int) from allI_rows (P := fun y => memNo ME (nth y 0).str || canV (nth (row ME ((memIx ME (nth y 0).str : Nat) : Int)) 2).int (nth (row ME ((memIx ME (nth y 0).str : Nat) : Int)) 8).list (nth (row ME ((memIx ME (nth y 0).str : Nat) : Int)) 9).list (nth (row ME ((memIx ME (nth y 0).str : Nat) : Int)) 10).int (nth y 2).int (nth y 8).list (nth y 9).list (nth y 10).int) (A := ME2)]
          cases ME2.all (fun y => memNo ME (nth y 0).str || canV (nth (row ME ((memIx ME (nth y 0).str : Nat) : Int)) 2).int (nth (row ME ((memIx ME (nth y 0).str : Nat) : Int)) 8).list (nth (row ME ((memIx ME (nth y 0).str : Nat) : Int)) 9).list (nth (row ME ((memIx ME (nth y 0).str : Nat) : Int)) 10).int (nth y 2).int (nth y 8).list (nth y 9).list (nth y 10).int) <;> exact ⟨rfl, rfl⟩
theorem qbc_nxr (k s : Int) (sg bg : Bool) (NA NU ME BA : LL) (ct k2 s2 : Int) (sg2 bg2 : Bool) (NA2 NU2 ME2 BA2 : LL) (ct2 : Int) : qbc_rc (i_spec_l04Can := ⟨qbc_O.n + 1⟩) k s sg bg NA NU ME BA ct k2 s2 sg2 bg2 NA2 NU2 ME2 BA2 ct2 = true → (qbc_c k s sg bg NA NU ME BA ct k2 s2 sg2 bg2 NA2 NU2 ME2 BA2 ct2) = true ∧ (qbc_v k s sg bg NA NU ME BA ct k2 s2 sg2 bg2 NA2 NU2 ME2 BA2 ct2) = (qbc_rv k s sg bg NA NU ME BA ct k2 s2 sg2 bg2 NA2 NU2 ME2 BA2 ct2) := fun h => qbc_nx k s sg bg NA NU ME BA ct k2 s2 sg2 bg2 NA2 NU2 ME2 BA2 ct2 h
theorem qbc_rs : ∀ xs r, qbc_rS (i_spec_l04Can := ⟨qbc_O.n + 1⟩) xs = some (true, r) → runF tab FT D29 live 50 qbc_lo xs = some r := by
  intro xs r h
  unfold qbc_rS at h
  split at h
  · obtain ⟨h1, rfl⟩ := sp h
    have hx := qbc_nxr _ _ _ _ _ _ _ _ _ _ _ _ _ _ _ _ _ _ h1
    have ht := fun_told (qbc_e ..) (qbc_l _ _ _ _ _ _ _ _ _ _ _ _ _ _ _ _ _ _) hx.1
    rw [hx.2] at ht
    exact ht
  · cases h
theorem qbc_step : qbc_G (i_spec_l04Can := ⟨qbc_O.n + 1⟩) := by
  have h := DOk.also2 (S := qbc_rS (i_spec_l04Can := ⟨qbc_O.n + 1⟩)) mixed_ok tab_ok names_ok d27 d29 (fnLoops_one (by kernel_rfl) qbc_is8) qbc_rs
  refine qbc_G.mk (i_spec_l04Can := ⟨qbc_O.n + 1⟩) ?_
  exact h
def qcp_t (k s : Int) (sg bg : Bool) (NA NU ME BA : LL) (ct k2 s2 : Int) (sg2 bg2 : Bool) (NA2 NU2 ME2 BA2 : LL) (ct2 : Int) : Tr (Bool) := (.ite ((qbs_rc k s sg bg NA NU ME BA ct) = true) (.ite ((qbs_rv k s sg bg NA NU ME BA ct) = true) (.ite ((qbs_rc k2 s2 sg2 bg2 NA2 NU2 ME2 BA2 ct2) = true) (.ite ((qbs_rv k2 s2 sg2 bg2 NA2 NU2 ME2 BA2 ct2) = true) (.ite ((qbc_rc k s sg bg NA NU ME BA ct k2 s2 sg2 bg2 NA2 NU2 ME2 BA2 ct2) = true) (.ok (qbc_rv k s sg bg NA NU ME BA ct k2 s2 sg2 bg2 NA2 NU2 ME2 BA2 ct2))
      .no)
     (.ok false))
    .no)
   (.ok false))
  .no)
def qcp_mk (p : Bool) : Res := [(false, [⟨.bool, .sh, TC.b p⟩])]
def qcp_c (k s : Int) (sg bg : Bool) (NA NU ME BA : LL) (ct k2 s2 : Int) (sg2 bg2 : Bool) (NA2 NU2 ME2 BA2 : LL) (ct2 : Int) : Bool := ((qbs_rc k s sg bg NA NU ME BA ct) && (bif (qbs_rv k s sg bg NA NU ME BA ct) then ((qbs_rc k2 s2 sg2 bg2 NA2 NU2 ME2 BA2 ct2) && (bif (qbs_rv k2 s2 sg2 bg2 NA2 NU2 ME2 BA2 ct2) then ((qbc_rc k s sg bg NA NU ME BA ct k2 s2 sg2 bg2 NA2 NU2 ME2 BA2 ct2) && true) else true)) else true))
def qcp_v (k s : Int) (sg bg : Bool) (NA NU ME BA : LL) (ct k2 s2 : Int) (sg2 bg2 : Bool) (NA2 NU2 ME2 BA2 : LL) (ct2 : Int) : Bool := (bif (qbs_rv k s sg bg NA NU ME BA ct) then (bif (qbs_rv k2 s2 sg2 bg2 NA2 NU2 ME2 BA2 ct2) then (qbc_rv k s sg bg NA NU ME BA ct k2 s2 sg2 bg2 NA2 NU2 ME2 BA2 ct2) else false) else false)
theorem qcp_l (k s : Int) (sg bg : Bool) (NA NU ME BA : LL) (ct k2 s2 : Int) (sg2 bg2 : Bool) (NA2 NU2 ME2 BA2 : LL) (ct2 : Int) : (qcp_c k s sg bg NA NU ME BA ct k2 s2 sg2 bg2 NA2 NU2 ME2 BA2 ct2) = true → (qcp_t k s sg bg NA NU ME BA ct k2 s2 sg2 bg2 NA2 NU2 ME2 BA2 ct2).val = some (qcp_v k s sg bg NA NU ME BA ct k2 s2 sg2 bg2 NA2 NU2 ME2 BA2 ct2) := by
  unfold qcp_t qcp_v qcp_c
  exact fun h => (Tr.gb h fun h => (Tr.ss h (fun h => (Tr.gb h fun h => (Tr.ss h (fun h => (Tr.gb h fun h => rfl)) (fun h => rfl)))) (fun h => rfl)))
def qcp_S : List Arg → Option (Bool × Res) := fun xs => match xs with
  | [(true, [(.int .i64, TC.i k), (.int .i64, TC.i s), (.bool, TC.b sg), (.bool, TC.b bg), (.slice 9, TC.l NA), (.slice 2, TC.l NU), (.slice 71, TC.l ME), (.slice 32, TC.l BA), (.int .i64, TC.i ct)]), (true, [(.int .i64, TC.i k2), (.int .i64, TC.i s2), (.bool, TC.b sg2), (.bool, TC.b bg2), (.slice 9, TC.l NA2), (.slice 2, TC.l NU2), (.slice 71, TC.l ME2), (.slice 32, TC.l BA2), (.int .i64, TC.i ct2)])] => some ((qcp_c k s sg bg NA NU ME BA ct k2 s2 sg2 bg2 NA2 NU2 ME2 BA2 ct2), qcp_mk (qcp_v k s sg bg NA NU ME BA ct k2 s2 sg2 bg2 NA2 NU2 ME2 BA2 ct2))
  | _ => .none
theorem qcp_e (k s : Int) (sg bg : Bool) (NA NU ME BA : LL) (ct k2 s2 : Int) (sg2 bg2 : Bool) (NA2 NU2 ME2 BA2 : LL) (ct2 : Int) : runF tab FT D29 live 16 noLoops [(true, [(.int .i64, TC.i k), (.int .i64, TC.i s), (.bool, TC.b sg), (.bool, TC.b bg), (.slice 9, TC.l NA), (.slice 2, TC.l NU), (.slice 71, TC.l ME), (.slice 32, TC.l BA), (.int .i64, TC.i ct)]), (true, [(.int .i64, TC.i k2), (.int .i64, TC.i s2), (.bool, TC.b sg2), (.bool, TC.b bg2), (.slice 9, TC.l NA2), (.slice 2, TC.l NU2), (.slice 71, TC.l ME2), (.slice 32, TC.l BA2), (.int .i64, TC.i ct2)])] = (qcp_t k s sg bg NA NU ME BA ct k2 s2 sg2 bg2 NA2 NU2 ME2 BA2 ct2).run fun p => some (qcp_mk p) := by kernel_rfl
theorem qcp_s : ∀ xs r, qcp_S xs = some (true, r) → runF tab FT D29 live 16 noLoops xs = some r := by
  intro xs r h
  unfold qcp_S at h
  split at h
  · obtain ⟨h1, rfl⟩ := sp h
    exact fun_told (qcp_e ..) (qcp_l _ _ _ _ _ _ _ _ _ _ _ _ _ _ _ _ _ _) h1
  · cases h
def D30 : Dt := also D29 16 qcp_S
theorem d30 : DOk Go.Proofs.Try.prog tab D30 := d29.also mixed_ok tab_ok names_ok noLoops_ok qcp_s
theorem qcp_cc {k : Int} {s : Int} {sg : Bool} {bg : Bool} {NA : LL} {NU : LL} {ME : LL} {BA : LL} {ct : Int} {k2 : Int} {s2 : Int} {sg2 : Bool} {bg2 : Bool} {NA2 : LL} {NU2 : LL} {ME2 : LL} {BA2 : LL} {ct2 : Int} (okc : qbs_rc k s sg bg NA NU ME BA ct = true) (okc2 : qbs_rc k2 s2 sg2 bg2 NA2 NU2 ME2 BA2 ct2 = true) (can : okV k s sg bg NA NU ME BA ct = true → okV k2 s2 sg2 bg2 NA2 NU2 ME2 BA2 ct2 = true → qbc_rc k s sg bg NA NU ME BA ct k2 s2 sg2 bg2 NA2 NU2 ME2 BA2 ct2 = true) : (qcp_c k s sg bg NA NU ME BA ct k2 s2 sg2 bg2 NA2 NU2 ME2 BA2 ct2) = true := by
  unfold qcp_c
  refine andT (by first | exact okc | exact okc2) ?_
  refine bifT (fun b1 => ?_) (fun b1 => ?_)
  · skip
    refine andT (by first | exact okc | exact okc2) ?_
    refine bifT (fun b2 => ?_) (fun b2 => ?_)
    · skip
      refine andT (by exact can b1 b2) ?_
      rfl
    · skip
      rfl
  · skip
    rfl
theorem qcp_vv (k s : Int) (sg bg : Bool) (NA NU ME BA : LL) (ct : Int) (k2 s2 : Int) (sg2 bg2 : Bool) (NA2 NU2 ME2 BA2 : LL) (ct2 : Int) : qcp_v k s sg bg NA NU ME BA ct k2 s2 sg2 bg2 NA2 NU2 ME2 BA2 ct2 = bif okV k s sg bg NA NU ME BA ct then (bif okV k2 s2 sg2 bg2 NA2 NU2 ME2 BA2 ct2 then canV k ME BA ct k2 ME2 BA2 ct2 else false) else false := rfl
abbrev qbo_2_σ := BS × Int × Int × Bool × Bool × LL × LL × LL × LL × Int × Int
abbrev qbo_2_ω := (Int) ⊕ (Unit)
def qbo_2_step (nm : BS) (k s : Int) (sg bg : Bool) (NA NU ME BA : LL) (ct i : Int) : Tr (qbo_2_σ ⊕ qbo_2_ω) := (.ite ((decide (i < (NA.length : Int))) = true) (.ite ((0 : Int) ≤ i ∧ i < (NA.length : Int)) (.ite (((nth (row NA i) 0).str == nm) = true) (.ok (.inr (.inl i)))
    (.ok (.inl (nm, k, s, sg, bg, NA, NU, ME, BA, ct, (IntKind.wrap .i64 (i + (1 : Int)))))))
   .no)
  (.ok (.inr (.inr ()))))
def qbo_2_st : qbo_2_σ → Tr (qbo_2_σ ⊕ qbo_2_ω) := fun x => (qbo_2_step (x.1) (x.2.1) (x.2.2.1) (x.2.2.2.1) (x.2.2.2.2.1) (x.2.2.2.2.2.1) (x.2.2.2.2.2.2.1) (x.2.2.2.2.2.2.2.1) (x.2.2.2.2.2.2.2.2.1) (x.2.2.2.2.2.2.2.2.2.1) (x.2.2.2.2.2.2.2.2.2.2))
def qbo_k2_1 (nm : BS) (k s : Int) (sg bg : Bool) (NA NU ME BA : LL) (ct i : Int) : Bool := (NA).all (fun x => !((nth x 0).str == nm))
def qbo_o2_2 (nm : BS) (k s : Int) (sg bg : Bool) (NA NU ME BA : LL) (ct i : Int) : Bool := is (i = 0 ∧ (NA).length ≤ 140737488351232)
def qbo_o2_3 (nm : BS) (k s : Int) (sg bg : Bool) (NA NU ME BA : LL) (ct i : Int) : Bool := is (i = 0 ∧ (NA).length ≤ 140737488351232)
def qbo_u2_3 (nm : BS) (k s : Int) (sg bg : Bool) (NA NU ME BA : LL) (ct i : Int) : Int := (Int.ofNat ((NA).findIdx fun x => !(fun x => !((nth x 0).str == nm)) x))
def qbo_2_fin (nm : BS) (k s : Int) (sg bg : Bool) (NA NU ME BA : LL) (ct i : Int) : Told qbo_2_ω := (.br (qbo_k2_1 nm k s sg bg NA NU ME BA ct i) (.leaf (qbo_o2_2 nm k s sg bg NA NU ME BA ct i) (.inr ())) (.leaf (qbo_o2_3 nm k s sg bg NA NU ME BA ct i) (.inl (qbo_u2_3 nm k s sg bg NA NU ME BA ct i))))
def qbo_2_sl (x : qbo_2_σ) : List Slot := [⟨.val false [⟨.str, .sh, TC.s (x.1)⟩], ⟨0, 0⟩⟩, ⟨.bx 32 [⟨.int .i64, .sh, TC.i (x.2.1)⟩, ⟨.int .i64, .sh, TC.i (x.2.2.1)⟩, ⟨.bool, .sh, TC.b (x.2.2.2.1)⟩, ⟨.bool, .sh, TC.b (x.2.2.2.2.1)⟩, ⟨.slice 9, .sh, TC.l (x.2.2.2.2.2.1)⟩, ⟨.slice 2, .sh, TC.l (x.2.2.2.2.2.2.1)⟩, ⟨.slice 71, .sh, TC.l (x.2.2.2.2.2.2.2.1)⟩, ⟨.slice 32, .sh, TC.l (x.2.2.2.2.2.2.2.2.1)⟩, ⟨.int .i64, .sh, TC.i (x.2.2.2.2.2.2.2.2.2.1)⟩], ⟨0, 0⟩⟩, ⟨.val false [⟨.int .i64, .sh, TC.i (x.2.2.2.2.2.2.2.2.2.2)⟩], ⟨0, 0⟩⟩]
def qbo_2_out : qbo_2_ω → Ex × List Slot := (Sum.elim (fun x => (.ret, [⟨.val false [⟨.int .i64, .sh, TC.i x⟩], ⟨0, 0⟩⟩])) (fun x => (.exit 0, [Slot.none])))
def qbo_lo2 : List Slot → Option (Told (Ex × List Slot)) := fun s => match s with
  | [⟨.val false [⟨.str, .sh, TC.s nm⟩], ⟨0, 0⟩⟩, ⟨.bx 32 [⟨.int .i64, .sh, TC.i k⟩, ⟨.int .i64, .sh, TC.i s⟩, ⟨.bool, .sh, TC.b sg⟩, ⟨.bool, .sh, TC.b bg⟩, ⟨.slice 9, .sh, TC.l NA⟩, ⟨.slice 2, .sh, TC.l NU⟩, ⟨.slice 71, .sh, TC.l ME⟩, ⟨.slice 32, .sh, TC.l BA⟩, ⟨.int .i64, .sh, TC.i ct⟩], ⟨0, 0⟩⟩, ⟨.val false [⟨.int .i64, .sh, TC.i i⟩], ⟨0, 0⟩⟩] => some (((qbo_2_fin nm k s sg bg NA NU ME BA ct i)).map qbo_2_out)
  | _ => .none
def qbo_lo : LoopTeller := fun r s => bif Nat.beq r 2 then qbo_lo2 s else .none
theorem qbo_2_r (nm : BS) (k s : Int) (sg bg : Bool) (NA NU ME BA : LL) (ct i : Int) (fuel : Nat) : rounds (rnd tab FT D30 live 116 qbo_lo 0 2) leave (fuel + 1) (qbo_2_sl (nm, k, s, sg, bg, NA, NU, ME, BA, ct, i)) = ((qbo_2_step nm k s sg bg NA NU ME BA ct i)).run (goOn (fun s => rounds (rnd tab FT D30 live 116 qbo_lo 0 2) leave fuel (qbo_2_sl s)) fun w => some (qbo_2_out w)) := by kernel_rfl
theorem qbo_2_h (nm : BS) (k s : Int) (sg bg : Bool) (NA NU ME BA : LL) (ct i : Int) (ow : qbo_2_ω) : ((qbo_2_fin nm k s sg bg NA NU ME BA ct i)).val = some ow → ∃ fuel, loopN qbo_2_st fuel (nm, k, s, sg, bg, NA, NU, ME, BA, ct, i) = some ow := by
  intro h
  have key : (NA).length ≤ 140737488351232 → loopN qbo_2_st ((NA).length + 1) (nm, k, s, sg, bg, NA, NU, ME, BA, ct, (0 : Int)) = some (if (NA).all (fun x => !((nth x 0).str == nm)) = true then (.inr ()) else (.inl (Int.ofNat ((NA).findIdx fun x => !(fun x => !((nth x 0).str == nm)) x)))) := by
    intro ht
    have hlen : (NA).length ≤ 140737488351232 := ht
    have key := loopN_scan (step := qbo_2_st) (NA) [] (fun x => !((nth x 0).str == nm)) (fun a _ => a) (fun i a => (nm, k, s, sg, bg, NA, NU, ME, BA, ct, (i : Int))) (fun a => (.inr ())) (fun i a => (.inl (i : Int))) (fun i a hi => ?_) (fun a => ?_) (NA).length 0 () (by omega)
    · first | (rw [Nat.zero_add] at key; exact key) | exact key
    · skip
      show (qbo_2_step nm k s sg bg NA NU ME BA ct (i : Int)).val = _
      unfold qbo_2_step
      refine Tr.t (by simp; omega) ?_
      skip
      refine Tr.t (by first | omega | (constructor <;> omega)) ?_
      refine Tr.b2 (fun hP => ?_) (fun _ => rfl)
      rw [Tr.val_ok, wrap64 (i := (i : Int) + 1) (by omega) (by omega)]; rfl
    · show (qbo_2_step nm k s sg bg NA NU ME BA ct ((NA).length : Int)).val = _
      refine Tr.n (by simp) ?_
      rfl
  simp only [qbo_2_fin, Told.val] at h
  cases hk : (NA).all (fun x => !((nth x 0).str == nm)) with
  | true =>
    rw [if_pos (show qbo_k2_1 nm k s sg bg NA NU ME BA ct i = true from hk)] at h
    split at h
    · rename_i ho
      obtain ⟨rfl, ht⟩ := is_iff.1 ho
      cases h
      refine ⟨_, (key ht).trans ?_⟩
      rw [hk]; rfl
    · cases h
  | false =>
    rw [if_neg (show ¬qbo_k2_1 nm k s sg bg NA NU ME BA ct i = true from by rw [show qbo_k2_1 nm k s sg bg NA NU ME BA ct i = ((NA).all (fun x => !((nth x 0).str == nm))) from rfl, hk]; simp)] at h
    split at h
    · rename_i ho
      obtain ⟨rfl, ht⟩ := is_iff.1 ho
      cases h
      refine ⟨_, (key ht).trans ?_⟩
      rw [hk]; rfl
    · cases h
theorem qbo_is2 : LoopIs tab FT D30 live 116 qbo_lo 0 2 := by
  refine loop_told (sl := qbo_2_sl) (step := qbo_2_st) (out := qbo_2_out) (lor := qbo_lo2) (fin := fun x => (qbo_2_fin (x.1) (x.2.1) (x.2.2.1) (x.2.2.2.1) (x.2.2.2.2.1) (x.2.2.2.2.2.1) (x.2.2.2.2.2.2.1) (x.2.2.2.2.2.2.2.1) (x.2.2.2.2.2.2.2.2.1) (x.2.2.2.2.2.2.2.2.2.1) (x.2.2.2.2.2.2.2.2.2.2))) (fun _ => rfl) ?_ (fun x n => qbo_2_r x.1 x.2.1 x.2.2.1 x.2.2.2.1 x.2.2.2.2.1 x.2.2.2.2.2.1 x.2.2.2.2.2.2.1 x.2.2.2.2.2.2.2.1 x.2.2.2.2.2.2.2.2.1 x.2.2.2.2.2.2.2.2.2.1 x.2.2.2.2.2.2.2.2.2.2 n) (fun x ow => qbo_2_h x.1 x.2.1 x.2.2.1 x.2.2.2.1 x.2.2.2.2.1 x.2.2.2.2.2.1 x.2.2.2.2.2.2.1 x.2.2.2.2.2.2.2.1 x.2.2.2.2.2.2.2.2.1 x.2.2.2.2.2.2.2.2.2.1 x.2.2.2.2.2.2.2.2.2.2 ow)
  intro s t h
  unfold qbo_lo2 at h
  split at h
  · cases h; exact ⟨(_, _, _, _, _, _, _, _, _, _, _), rfl, rfl⟩
  · cases h
def qbo_t (k s : Int) (sg bg : Bool) (NA NU ME BA : LL) (ct : Int) (nm : BS) : Tr (Int) := (.ite ((qbo_k2_1 nm k s sg bg NA NU ME BA ct (0 : Int)) = true) (.ite ((qbo_o2_2 nm k s sg bg NA NU ME BA ct (0 : Int)) = true) (.ok (-1 : Int))
   .no)
  (.ite ((qbo_o2_3 nm k s sg bg NA NU ME BA ct (0 : Int)) = true) (.ok (qbo_u2_3 nm k s sg bg NA NU ME BA ct (0 : Int)))
   .no))
def qbo_mk (p : Int) : Res := [(false, [⟨.int .i64, .sh, TC.i p⟩])]
def qbo_c (k s : Int) (sg bg : Bool) (NA NU ME BA : LL) (ct : Int) (nm : BS) : Bool := (bif (qbo_k2_1 nm k s sg bg NA NU ME BA ct (0 : Int)) then ((qbo_o2_2 nm k s sg bg NA NU ME BA ct (0 : Int)) && true) else ((qbo_o2_3 nm k s sg bg NA NU ME BA ct (0 : Int)) && true))
def qbo_v (k s : Int) (sg bg : Bool) (NA NU ME BA : LL) (ct : Int) (nm : BS) : Int := (bif (qbo_k2_1 nm k s sg bg NA NU ME BA ct (0 : Int)) then (-1 : Int) else (qbo_u2_3 nm k s sg bg NA NU ME BA ct (0 : Int)))
theorem qbo_l (k s : Int) (sg bg : Bool) (NA NU ME BA : LL) (ct : Int) (nm : BS) : (qbo_c k s sg bg NA NU ME BA ct nm) = true → (qbo_t k s sg bg NA NU ME BA ct nm).val = some (qbo_v k s sg bg NA NU ME BA ct nm) := by
  unfold qbo_t qbo_v qbo_c
  exact fun h => (Tr.ss h (fun h => (Tr.gb h fun h => rfl)) (fun h => (Tr.gb h fun h => rfl)))
def qbo_S : List Arg → Option (Bool × Res) := fun xs => match xs with
  | [(true, [(.int .i64, TC.i k), (.int .i64, TC.i s), (.bool, TC.b sg), (.bool, TC.b bg), (.slice 9, TC.l NA), (.slice 2, TC.l NU), (.slice 71, TC.l ME), (.slice 32, TC.l BA), (.int .i64, TC.i ct)]), (false, [(.str, TC.s nm)])] => some ((qbo_c k s sg bg NA NU ME BA ct nm), qbo_mk (qbo_v k s sg bg NA NU ME BA ct nm))
  | _ => .none
theorem qbo_e (k s : Int) (sg bg : Bool) (NA NU ME BA : LL) (ct : Int) (nm : BS) : runF tab FT D30 live 116 qbo_lo [(true, [(.int .i64, TC.i k), (.int .i64, TC.i s), (.bool, TC.b sg), (.bool, TC.b bg), (.slice 9, TC.l NA), (.slice 2, TC.l NU), (.slice 71, TC.l ME), (.slice 32, TC.l BA), (.int .i64, TC.i ct)]), (false, [(.str, TC.s nm)])] = (qbo_t k s sg bg NA NU ME BA ct nm).run fun p => some (qbo_mk p) := by kernel_rfl
theorem qbo_s : ∀ xs r, qbo_S xs = some (true, r) → runF tab FT D30 live 116 qbo_lo xs = some r := by
  intro xs r h
  unfold qbo_S at h
  split at h
  · obtain ⟨h1, rfl⟩ := sp h
    exact fun_told (qbo_e ..) (qbo_l _ _ _ _ _ _ _ _ _ _) h1
  · cases h
def D31 : Dt := also D30 116 qbo_S
theorem d31 : DOk Go.Proofs.Try.prog tab D31 := d30.also mixed_ok tab_ok names_ok (fnLoops_one (by kernel_rfl) qbo_is2) qbo_s
theorem qbo_cc {k : Int} {s : Int} {sg : Bool} {bg : Bool} {NA : LL} {NU : LL} {ME : LL} {BA : LL} {ct : Int} {nm : BS} (hl : NA.length ≤ 140737488351232) : (qbo_c k s sg bg NA NU ME BA ct nm) = true := by
  unfold qbo_c
  refine bifT (fun b1 => ?_) (fun b1 => ?_)
  · skip
    refine andT (by exact is_true ⟨rfl, hl⟩) ?_
    rfl
  · skip
    refine andT (by exact is_true ⟨rfl, hl⟩) ?_
    rfl
theorem qbo_vv (k s : Int) (sg bg : Bool) (NA NU ME BA : LL) (ct : Int) (nm : BS) : qbo_v k s sg bg NA NU ME BA ct nm = bif memNo NA nm then -1 else ((memIx NA nm : Nat) : Int) := rfl
abbrev qbk_2_σ := Int × Int × Bool × Bool × LL × LL × LL × LL × Int × Int × Int × Bool × Bool × LL × LL × LL × LL × Int × Int
abbrev qbk_2_ω := (Unit) ⊕ (Unit)
def qbk_2_step (k s : Int) (sg bg : Bool) (NA NU ME BA : LL) (ct k2 s2 : Int) (sg2 bg2 : Bool) (NA2 NU2 ME2 BA2 : LL) (ct2 i : Int) : Tr (qbk_2_σ ⊕ qbk_2_ω) := (.ite ((decide (i < (NA.length : Int))) = true) (.ite ((0 : Int) ≤ i ∧ i < (NA.length : Int)) (.ite ((qbo_c k2 s2 sg2 bg2 NA2 NU2 ME2 BA2 ct2 ((nth (row NA i) 0).str)) = true) (.ite ((decide ((qbo_v k2 s2 sg2 bg2 NA2 NU2 ME2 BA2 ct2 ((nth (row NA i) 0).str)) < (0 : Int))) = true) (.ok (.inr (.inl ())))
     (.ok (.inl (k, s, sg, bg, NA, NU, ME, BA, ct, k2, s2, sg2, bg2, NA2, NU2, ME2, BA2, ct2, (IntKind.wrap .i64 (i + (1 : Int)))))))
    .no)
   .no)
  (.ok (.inr (.inr ()))))
def qbk_2_st : qbk_2_σ → Tr (qbk_2_σ ⊕ qbk_2_ω) := fun x => (qbk_2_step (x.1) (x.2.1) (x.2.2.1) (x.2.2.2.1) (x.2.2.2.2.1) (x.2.2.2.2.2.1) (x.2.2.2.2.2.2.1) (x.2.2.2.2.2.2.2.1) (x.2.2.2.2.2.2.2.2.1) (x.2.2.2.2.2.2.2.2.2.1) (x.2.2.2.2.2.2.2.2.2.2.1) (x.2.2.2.2.2.2.2.2.2.2.2.1) (x.2.2.2.2.2.2.2.2.2.2.2.2.1) (x.2.2.2.2.2.2.2.2.2.2.2.2.2.1) (x.2.2.2.2.2.2.2.2.2.2.2.2.2.2.1) (x.2.2.2.2.2.2.2.2.2.2.2.2.2.2.2.1) (x.2.2.2.2.2.2.2.2.2.2.2.2.2.2.2.2.1) (x.2.2.2.2.2.2.2.2.2.2.2.2.2.2.2.2.2.1) (x.2.2.2.2.2.2.2.2.2.2.2.2.2.2.2.2.2.2))
def qbk_k2_1 (k s : Int) (sg bg : Bool) (NA NU ME BA : LL) (ct k2 s2 : Int) (sg2 bg2 : Bool) (NA2 NU2 ME2 BA2 : LL) (ct2 i : Int) : Bool := allI (fun j : Nat => !(memNo NA2 (nth (row NA (j : Int)) 0).str)) (NA.length)
def qbk_o2_2 (k s : Int) (sg bg : Bool) (NA NU ME BA : LL) (ct k2 s2 : Int) (sg2 bg2 : Bool) (NA2 NU2 ME2 BA2 : LL) (ct2 i : Int) : Bool := is (i = 0 ∧ (NA.length ≤ 140737488351232 ∧ NA2.length ≤ 140737488351232))
def qbk_o2_3 (k s : Int) (sg bg : Bool) (NA NU ME BA : LL) (ct k2 s2 : Int) (sg2 bg2 : Bool) (NA2 NU2 ME2 BA2 : LL) (ct2 i : Int) : Bool := is (i = 0 ∧ (NA.length ≤ 140737488351232 ∧ NA2.length ≤ 140737488351232))
def qbk_2_fin (k s : Int) (sg bg : Bool) (NA NU ME BA : LL) (ct k2 s2 : Int) (sg2 bg2 : Bool) (NA2 NU2 ME2 BA2 : LL) (ct2 i : Int) : Told qbk_2_ω := (.br (qbk_k2_1 k s sg bg NA NU ME BA ct k2 s2 sg2 bg2 NA2 NU2 ME2 BA2 ct2 i) (.leaf (qbk_o2_2 k s sg bg NA NU ME BA ct k2 s2 sg2 bg2 NA2 NU2 ME2 BA2 ct2 i) (.inr ())) (.leaf (qbk_o2_3 k s sg bg NA NU ME BA ct k2 s2 sg2 bg2 NA2 NU2 ME2 BA2 ct2 i) (.inl ())))
def qbk_2_sl : qbk_2_σ → List Slot := fun x => match x with | (k, s, sg, bg, NA, NU, ME, BA, ct, k2, s2, sg2, bg2, NA2, NU2, ME2, BA2, ct2, i) => [⟨.bx 32 [⟨.int .i64, .sh, TC.i k⟩, ⟨.int .i64, .sh, TC.i s⟩, ⟨.bool, .sh, TC.b sg⟩, ⟨.bool, .sh, TC.b bg⟩, ⟨.slice 9, .sh, TC.l NA⟩, ⟨.slice 2, .sh, TC.l NU⟩, ⟨.slice 71, .sh, TC.l ME⟩, ⟨.slice 32, .sh, TC.l BA⟩, ⟨.int .i64, .sh, TC.i ct⟩], ⟨0, 0⟩⟩, ⟨.bx 32 [⟨.int .i64, .sh, TC.i k2⟩, ⟨.int .i64, .sh, TC.i s2⟩, ⟨.bool, .sh, TC.b sg2⟩, ⟨.bool, .sh, TC.b bg2⟩, ⟨.slice 9, .sh, TC.l NA2⟩, ⟨.slice 2, .sh, TC.l NU2⟩, ⟨.slice 71, .sh, TC.l ME2⟩, ⟨.slice 32, .sh, TC.l BA2⟩, ⟨.int .i64, .sh, TC.i ct2⟩], ⟨0, 0⟩⟩, ⟨.val false [⟨.int .i64, .sh, TC.i i⟩], ⟨0, 0⟩⟩]
def qbk_2_out : qbk_2_ω → Ex × List Slot := (Sum.elim (fun x => (.ret, [⟨.val false [⟨.bool, .sh, TC.b false⟩], ⟨0, 0⟩⟩])) (fun x => (.exit 0, [Slot.none])))
def qbk_lo2 : List Slot → Option (Told (Ex × List Slot)) := fun s => match s with
  | [⟨.bx 32 [⟨.int .i64, .sh, TC.i k⟩, ⟨.int .i64, .sh, TC.i s⟩, ⟨.bool, .sh, TC.b sg⟩, ⟨.bool, .sh, TC.b bg⟩, ⟨.slice 9, .sh, TC.l NA⟩, ⟨.slice 2, .sh, TC.l NU⟩, ⟨.slice 71, .sh, TC.l ME⟩, ⟨.slice 32, .sh, TC.l BA⟩, ⟨.int .i64, .sh, TC.i ct⟩], ⟨0, 0⟩⟩, ⟨.bx 32 [⟨.int .i64, .sh, TC.i k2⟩, ⟨.int .i64, .sh, TC.i s2⟩, ⟨.bool, .sh, TC.b sg2⟩, ⟨.bool, .sh, TC.b bg2⟩, ⟨.slice 9, .sh, TC.l NA2⟩, ⟨.slice 2, .sh, TC.l NU2⟩, ⟨.slice 71, .sh, TC.l ME2⟩, ⟨.slice 32, .sh, TC.l BA2⟩, ⟨.int .i64, .sh, TC.i ct2⟩], ⟨0, 0⟩⟩, ⟨.val false [⟨.int .i64, .sh, TC.i i⟩], ⟨0, 0⟩⟩] => some (((qbk_2_fin k s sg bg NA NU ME BA ct k2 s2 sg2 bg2 NA2 NU2 ME2 BA2 ct2 i)).map qbk_2_out)
  | _ => .none
def qbk_lo : LoopTeller := fun r s => bif Nat.beq r 2 then qbk_lo2 s else .none
theorem qbk_2_r (k s : Int) (sg bg : Bool) (NA NU ME BA : LL) (ct k2 s2 : Int) (sg2 bg2 : Bool) (NA2 NU2 ME2 BA2 : LL) (ct2 i : Int) (fuel : Nat) : rounds (rnd tab FT D31 live 91 qbk_lo 0 2) leave (fuel + 1) (qbk_2_sl (k, s, sg, bg, NA, NU, ME, BA, ct, k2, s2, sg2, bg2, NA2, NU2, ME2, BA2, ct2, i)) = ((qbk_2_step k s sg bg NA NU ME BA ct k2 s2 sg2 bg2 NA2 NU2 ME2 BA2 ct2 i)).run (goOn (fun s => rounds (rnd tab FT D31 live 91 qbk_lo 0 2) leave fuel (qbk_2_sl s)) fun w => some (qbk_2_out w)) := by kernel_rfl
theorem qbk_2_h (k s : Int) (sg bg : Bool) (NA NU ME BA : LL) (ct k2 s2 : Int) (sg2 bg2 : Bool) (NA2 NU2 ME2 BA2 : LL) (ct2 i : Int) (ow : qbk_2_ω) : ((qbk_2_fin k s sg bg NA NU ME BA ct k2 s2 sg2 bg2 NA2 NU2 ME2 BA2 ct2 i)).val = some ow → ∃ fuel, loopN qbk_2_st fuel (k, s, sg, bg, NA, NU, ME, BA, ct, k2, s2, sg2, bg2, NA2, NU2, ME2, BA2, ct2, i) = some ow := by
  intro h
  have key : (NA.length ≤ 140737488351232 ∧ NA2.length ≤ 140737488351232) → loopN qbk_2_st ((NA.length) + 1) (k, s, sg, bg, NA, NU, ME, BA, ct, k2, s2, sg2, bg2, NA2, NU2, ME2, BA2, ct2, (0 : Int)) = some (if allI (fun j : Nat => !(memNo NA2 (nth (row NA (j : Int)) 0).str)) (NA.length) = true then (.inr ()) else (.inl ())) := by
    intro ht
    obtain ⟨hl1, hl2⟩ := ht
    have key := loopN_scanI (step := qbk_2_st) (NA.length) (fun j : Nat => !(memNo NA2 (nth (row NA (j : Int)) 0).str)) (fun _ a => a) (fun i a => (k, s, sg, bg, NA, NU, ME, BA, ct, k2, s2, sg2, bg2, NA2, NU2, ME2, BA2, ct2, (i : Int))) (fun a => (.inr ())) (fun i a => (.inl ())) (fun i a hi => ?_) (fun a => ?_) ()
    · first | exact key
    · skip
      show (qbk_2_step k s sg bg NA NU ME BA ct k2 s2 sg2 bg2 NA2 NU2 ME2 BA2 ct2 (i : Int)).val = _
      unfold qbk_2_step
      refine Tr.t (by simp; omega) ?_
      skip
      refine Tr.t (by constructor <;> omega) (Tr.t (qbo_cc hl2) ?_)
      rw [qbo_vv]
      cases hm : memNo NA2 (nth (row NA (i : Int)) 0).str with
      | true => exact Tr.t rfl rfl
      | false =>
        refine Tr.n (by first | (simp; done) | (simp; omega)) ?_
        rw [Tr.val_ok, wrap64 (by omega) (by omega)]
        rfl
    · show (qbk_2_step k s sg bg NA NU ME BA ct k2 s2 sg2 bg2 NA2 NU2 ME2 BA2 ct2 (NA.length : Int)).val = _
      refine Tr.n (by first | (simp; done) | (simp; omega)) ?_
      rfl
  simp only [qbk_2_fin, Told.val] at h
  cases hk : allI (fun j : Nat => !(memNo NA2 (nth (row NA (j : Int)) 0).str)) (NA.length) with
  | true =>
    rw [if_pos (show qbk_k2_1 k s sg bg NA NU ME BA ct k2 s2 sg2 bg2 NA2 NU2 ME2 BA2 ct2 i = true from hk)] at h
    split at h
    · rename_i ho
      obtain ⟨rfl, ht⟩ := is_iff.1 ho
      cases h
      refine ⟨_, (key ht).trans ?_⟩
      rw [hk]; rfl
    · cases h
  | false =>
    rw [if_neg (show ¬qbk_k2_1 k s sg bg NA NU ME BA ct k2 s2 sg2 bg2 NA2 NU2 ME2 BA2 ct2 i = true from by rw [show qbk_k2_1 k s sg bg NA NU ME BA ct k2 s2 sg2 bg2 NA2 NU2 ME2 BA2 ct2 i = (allI (fun j : Nat => !(memNo NA2 (nth (row NA (j : Int)) 0).str)) (NA.length)) from rfl, hk]; simp)] at h
    split at h
    · rename_i ho
      obtain ⟨rfl, ht⟩ := is_iff.1 ho
      cases h
      refine ⟨_, (key ht).trans ?_⟩
      rw [hk]; rfl
    · cases h
theorem qbk_is2 : LoopIs tab FT D31 live 91 qbk_lo 0 2 := by
  refine loop_told (sl := qbk_2_sl) (step := qbk_2_st) (out := qbk_2_out) (lor := qbk_lo2) (fin := fun x => (qbk_2_fin (x.1) (x.2.1) (x.2.2.1) (x.2.2.2.1) (x.2.2.2.2.1) (x.2.2.2.2.2.1) (x.2.2.2.2.2.2.1) (x.2.2.2.2.2.2.2.1) (x.2.2.2.2.2.2.2.2.1) (x.2.2.2.2.2.2.2.2.2.1) (x.2.2.2.2.2.2.2.2.2.2.1) (x.2.2.2.2.2.2.2.2.2.2.2.1) (x.2.2.2.2.2.2.2.2.2.2.2.2.1) (x.2.2.2.2.2.2.2.2.2.2.2.2.2.1) (x.2.2.2.2.2.2.2.2.2.2.2.2.2.2.1) (x.2.2.2.2.2.2.2.2.2.2.2.2.2.2.2.1) (x.2.2.2.2.2.2.2.2.2.2.2.2.2.2.2.2.1) (x.2.2.2.2.2.2.2.2.2.2.2.2.2.2.2.2.2.1) (x.2.2.2.2.2.2.2.2.2.2.2.2.2.2.2.2.2.2))) (fun _ => rfl) ?_ (fun x n => qbk_2_r x.1 x.2.1 x.2.2.1 x.2.2.2.1 x.2.2.2.2.1 x.2.2.2.2.2.1 x.2.2.2.2.2.2.1 x.2.2.2.2.2.2.2.1 x.2.2.2.2.2.2.2.2.1 x.2.2.2.2.2.2.2.2.2.1 x.2.2.2.2.2.2.2.2.2.2.1 x.2.2.2.2.2.2.2.2.2.2.2.1 x.2.2.2.2.2.2.2.2.2.2.2.2.1 x.2.2.2.2.2.2.2.2.2.2.2.2.2.1 x.2.2.2.2.2.2.2.2.2.2.2.2.2.2.1 x.2.2.2.2.2.2.2.2.2.2.2.2.2.2.2.1 x.2.2.2.2.2.2.2.2.2.2.2.2.2.2.2.2.1 x.2.2.2.2.2.2.2.2.2.2.2.2.2.2.2.2.2.1 x.2.2.2.2.2.2.2.2.2.2.2.2.2.2.2.2.2.2 n) (fun x ow => qbk_2_h x.1 x.2.1 x.2.2.1 x.2.2.2.1 x.2.2.2.2.1 x.2.2.2.2.2.1 x.2.2.2.2.2.2.1 x.2.2.2.2.2.2.2.1 x.2.2.2.2.2.2.2.2.1 x.2.2.2.2.2.2.2.2.2.1 x.2.2.2.2.2.2.2.2.2.2.1 x.2.2.2.2.2.2.2.2.2.2.2.1 x.2.2.2.2.2.2.2.2.2.2.2.2.1 x.2.2.2.2.2.2.2.2.2.2.2.2.2.1 x.2.2.2.2.2.2.2.2.2.2.2.2.2.2.1 x.2.2.2.2.2.2.2.2.2.2.2.2.2.2.2.1 x.2.2.2.2.2.2.2.2.2.2.2.2.2.2.2.2.1 x.2.2.2.2.2.2.2.2.2.2.2.2.2.2.2.2.2.1 x.2.2.2.2.2.2.2.2.2.2.2.2.2.2.2.2.2.2 ow)
  intro s t h
  unfold qbk_lo2 at h
  split at h
  · cases h; exact ⟨(_, _, _, _, _, _, _, _, _, _, _, _, _, _, _, _, _, _, _), rfl, rfl⟩
  · cases h
def qbk_t (k s : Int) (sg bg : Bool) (NA NU ME BA : LL) (ct k2 s2 : Int) (sg2 bg2 : Bool) (NA2 NU2 ME2 BA2 : LL) (ct2 : Int) : Tr (Bool) := (.ite ((qbk_k2_1 k s sg bg NA NU ME BA ct k2 s2 sg2 bg2 NA2 NU2 ME2 BA2 ct2 (0 : Int)) = true) (.ite ((qbk_o2_2 k s sg bg NA NU ME BA ct k2 s2 sg2 bg2 NA2 NU2 ME2 BA2 ct2 (0 : Int)) = true) (.ok true)
   .no)
  (.ite ((qbk_o2_3 k s sg bg NA NU ME BA ct k2 s2 sg2 bg2 NA2 NU2 ME2 BA2 ct2 (0 : Int)) = true) (.ok false)
   .no))
def qbk_mk (p : Bool) : Res := [(false, [⟨.bool, .sh, TC.b p⟩])]
def qbk_c (k s : Int) (sg bg : Bool) (NA NU ME BA : LL) (ct k2 s2 : Int) (sg2 bg2 : Bool) (NA2 NU2 ME2 BA2 : LL) (ct2 : Int) : Bool := (bif (qbk_k2_1 k s sg bg NA NU ME BA ct k2 s2 sg2 bg2 NA2 NU2 ME2 BA2 ct2 (0 : Int)) then ((qbk_o2_2 k s sg bg NA NU ME BA ct k2 s2 sg2 bg2 NA2 NU2 ME2 BA2 ct2 (0 : Int)) && true) else ((qbk_o2_3 k s sg bg NA NU ME BA ct k2 s2 sg2 bg2 NA2 NU2 ME2 BA2 ct2 (0 : Int)) && true))
def qbk_v (k s : Int) (sg bg : Bool) (NA NU ME BA : LL) (ct k2 s2 : Int) (sg2 bg2 : Bool) (NA2 NU2 ME2 BA2 : LL) (ct2 : Int) : Bool := (bif (qbk_k2_1 k s sg bg NA NU ME BA ct k2 s2 sg2 bg2 NA2 NU2 ME2 BA2 ct2 (0 : Int)) then true else false)
theorem qbk_l (k s : Int) (sg bg : Bool) (NA NU ME BA : LL) (ct k2 s2 : Int) (sg2 bg2 : Bool) (NA2 NU2 ME2 BA2 : LL) (ct2 : Int) : (qbk_c k s sg bg NA NU ME BA ct k2 s2 sg2 bg2 NA2 NU2 ME2 BA2 ct2) = true → (qbk_t k s sg bg NA NU ME BA ct k2 s2 sg2 bg2 NA2 NU2 ME2 BA2 ct2).val = some (qbk_v k s sg bg NA NU ME BA ct k2 s2 sg2 bg2 NA2 NU2 ME2 BA2 ct2) := by
  unfold qbk_t qbk_v qbk_c
  exact fun h => (Tr.ss h (fun h => (Tr.gb h fun h => rfl)) (fun h => (Tr.gb h fun h => rfl)))
def qbk_S : List Arg → Option (Bool × Res) := fun xs => match xs with
  | [(true, [(.int .i64, TC.i k), (.int .i64, TC.i s), (.bool, TC.b sg), (.bool, TC.b bg), (.slice 9, TC.l NA), (.slice 2, TC.l NU), (.slice 71, TC.l ME), (.slice 32, TC.l BA), (.int .i64, TC.i ct)]), (true, [(.int .i64, TC.i k2), (.int .i64, TC.i s2), (.bool, TC.b sg2), (.bool, TC.b bg2), (.slice 9, TC.l NA2), (.slice 2, TC.l NU2), (.slice 71, TC.l ME2), (.slice 32, TC.l BA2), (.int .i64, TC.i ct2)])] => some ((qbk_c k s sg bg NA NU ME BA ct k2 s2 sg2 bg2 NA2 NU2 ME2 BA2 ct2), qbk_mk (qbk_v k s sg bg NA NU ME BA ct k2 s2 sg2 bg2 NA2 NU2 ME2 BA2 ct2))
  | _ => .none
theorem qbk_e (k s : Int) (sg bg : Bool) (NA NU ME BA : LL) (ct k2 s2 : Int) (sg2 bg2 : Bool) (NA2 NU2 ME2 BA2 : LL) (ct2 : Int) : runF tab FT D31 live 91 qbk_lo [(true, [(.int .i64, TC.i k), (.int .i64, TC.i s), (.bool, TC.b sg), (.bool, TC.b bg), (.slice 9, TC.l NA), (.slice 2, TC.l NU), (.slice 71, TC.l ME), (.slice 32, TC.l BA), (.int .i64, TC.i ct)]), (true, [(.int .i64, TC.i k2), (.int .i64, TC.i s2), (.bool, TC.b sg2), (.bool, TC.b bg2), (.slice 9, TC.l NA2), (.slice 2, TC.l NU2), (.slice 71, TC.l ME2), (.slice 32, TC.l BA2), (.int .i64, TC.i ct2)])] = (qbk_t k s sg bg NA NU ME BA ct k2 s2 sg2 bg2 NA2 NU2 ME2 BA2 ct2).run fun p => some (qbk_mk p) := by kernel_rfl
theorem qbk_s : ∀ xs r, qbk_S xs = some (true, r) → runF tab FT D31 live 91 qbk_lo xs = some r := by
  intro xs r h
  unfold qbk_S at h
  split at h
  · obtain ⟨h1, rfl⟩ := sp h
    exact fun_told (qbk_e ..) (qbk_l _ _ _ _ _ _ _ _ _ _ _ _ _ _ _ _ _ _) h1
  · cases h
def D32 : Dt := also D31 91 qbk_S
theorem d32 : DOk Go.Proofs.Try.prog tab D32 := d31.also mixed_ok tab_ok names_ok (fnLoops_one (by kernel_rfl) qbk_is2) qbk_s
theorem qbk_cc {k : Int} {s : Int} {sg : Bool} {bg : Bool} {NA : LL} {NU : LL} {ME : LL} {BA : LL} {ct : Int} {k2 : Int} {s2 : Int} {sg2 : Bool} {bg2 : Bool} {NA2 : LL} {NU2 : LL} {ME2 : LL} {BA2 : LL} {ct2 : Int} (h1 : NA.length ≤ 140737488351232) (h2 : NA2.length ≤ 140737488351232) : (qbk_c k s sg bg NA NU ME BA ct k2 s2 sg2 bg2 NA2 NU2 ME2 BA2 ct2) = true := by
  unfold qbk_c
  refine bifT (fun b1 => ?_) (fun b1 => ?_)
  · skip
    refine andT (by exact is_true ⟨rfl, h1, h2⟩) ?_
    rfl
  · skip
    refine andT (by exact is_true ⟨rfl, h1, h2⟩) ?_
    rfl
theorem qbk_vv (k s : Int) (sg bg : Bool) (NA NU ME BA : LL) (ct : Int) (k2 s2 : Int) (sg2 bg2 : Bool) (NA2 NU2 ME2 BA2 : LL) (ct2 : Int) : qbk_v k s sg bg NA NU ME BA ct k2 s2 sg2 bg2 NA2 NU2 ME2 BA2 ct2 = namesIn NA NA2 := by
  show (bif allI (fun j : Nat => !(memNo NA2 (nth (row NA (j : Int)) 0).str)) NA.length then true else false) = _
  rw [allI_rows (P := fun x => !(memNo NA2 (nth x 0).str)) (A := NA)]
  unfold namesIn
  cases NA.all (fun x => !(memNo NA2 (nth x 0).str)) <;> rfl
def qcj_t (a0 a1 : Int) (a2 a3 : Bool) (a4 a5 a6 a7 : LL) (a8 : Int) : Tr (Int × Int × Bool × Bool × LL × LL × LL × LL × Int × Bool) := (.ite ((a0 == (1 : Int)) = true) (.ok (a0, a1, a2, a3, a4, a5, a6, a7, a8, true))
  (.ite ((a0 == (3 : Int)) = true) (.ite ((0 : Int) ≤ (0 : Int) ∧ (0 : Int) < (a7.length : Int)) (.ok ((nth (row a7 (0 : Int)) 0).int, (nth (row a7 (0 : Int)) 1).int, (nth (row a7 (0 : Int)) 2).bool, (nth (row a7 (0 : Int)) 3).bool, (nth (row a7 (0 : Int)) 4).list, (nth (row a7 (0 : Int)) 5).list, (nth (row a7 (0 : Int)) 6).list, (nth (row a7 (0 : Int)) 7).list, (nth (row a7 (0 : Int)) 8).int, true))
    .no)
   (.ite ((a0 == (6 : Int)) = true) (.ok ((1 : Int), (2 : Int), false, false, [], [], [], [], (0 : Int), true))
    (.ok ((0 : Int), (0 : Int), false, false, [], [], [], [], (0 : Int), false)))))
def qcj_mk (p : Int × Int × Bool × Bool × LL × LL × LL × LL × Int × Bool) : Res := [(true, [⟨.int .i64, .sh, TC.i (p.1)⟩, ⟨.int .i64, .sh, TC.i (p.2.1)⟩, ⟨.bool, .sh, TC.b (p.2.2.1)⟩, ⟨.bool, .sh, TC.b (p.2.2.2.1)⟩, ⟨.slice 9, .sh, TC.l (p.2.2.2.2.1)⟩, ⟨.slice 2, .sh, TC.l (p.2.2.2.2.2.1)⟩, ⟨.slice 71, .sh, TC.l (p.2.2.2.2.2.2.1)⟩, ⟨.slice 32, .sh, TC.l (p.2.2.2.2.2.2.2.1)⟩, ⟨.int .i64, .sh, TC.i (p.2.2.2.2.2.2.2.2.1)⟩]), (false, [⟨.bool, .sh, TC.b (p.2.2.2.2.2.2.2.2.2)⟩])]
def qcj_c (a0 a1 : Int) (a2 a3 : Bool) (a4 a5 a6 a7 : LL) (a8 : Int) : Bool := (bif (a0 == (1 : Int)) then true else (bif (a0 == (3 : Int)) then (is ((0 : Int) ≤ (0 : Int) ∧ (0 : Int) < (a7.length : Int)) && true) else (bif (a0 == (6 : Int)) then true else true)))
def qcj_v (a0 a1 : Int) (a2 a3 : Bool) (a4 a5 a6 a7 : LL) (a8 : Int) : Int × Int × Bool × Bool × LL × LL × LL × LL × Int × Bool := (bif (a0 == (1 : Int)) then (a0, a1, a2, a3, a4, a5, a6, a7, a8, true) else (bif (a0 == (3 : Int)) then ((nth (row a7 (0 : Int)) 0).int, (nth (row a7 (0 : Int)) 1).int, (nth (row a7 (0 : Int)) 2).bool, (nth (row a7 (0 : Int)) 3).bool, (nth (row a7 (0 : Int)) 4).list, (nth (row a7 (0 : Int)) 5).list, (nth (row a7 (0 : Int)) 6).list, (nth (row a7 (0 : Int)) 7).list, (nth (row a7 (0 : Int)) 8).int, true) else (bif (a0 == (6 : Int)) then ((1 : Int), (2 : Int), false, false, [], [], [], [], (0 : Int), true) else ((0 : Int), (0 : Int), false, false, [], [], [], [], (0 : Int), false))))
theorem qcj_l (a0 a1 : Int) (a2 a3 : Bool) (a4 a5 a6 a7 : LL) (a8 : Int) : (qcj_c a0 a1 a2 a3 a4 a5 a6 a7 a8) = true → (qcj_t a0 a1 a2 a3 a4 a5 a6 a7 a8).val = some (qcj_v a0 a1 a2 a3 a4 a5 a6 a7 a8) := by
  unfold qcj_t qcj_v qcj_c
  exact fun h => (Tr.ss h (fun h => rfl) (fun h => (Tr.ss h (fun h => (Tr.gs h fun h => rfl)) (fun h => (Tr.ss h (fun h => rfl) (fun h => rfl))))))
def qcj_S : List Arg → Option (Bool × Res) := fun xs => match xs with
  | [(true, [(.int .i64, TC.i a0), (.int .i64, TC.i a1), (.bool, TC.b a2), (.bool, TC.b a3), (.slice 9, TC.l a4), (.slice 2, TC.l a5), (.slice 71, TC.l a6), (.slice 32, TC.l a7), (.int .i64, TC.i a8)])] => some ((qcj_c a0 a1 a2 a3 a4 a5 a6 a7 a8), qcj_mk (qcj_v a0 a1 a2 a3 a4 a5 a6 a7 a8))
  | _ => .none
theorem qcj_e (a0 a1 : Int) (a2 a3 : Bool) (a4 a5 a6 a7 : LL) (a8 : Int) : runF tab FT D32 live 54 noLoops [(true, [(.int .i64, TC.i a0), (.int .i64, TC.i a1), (.bool, TC.b a2), (.bool, TC.b a3), (.slice 9, TC.l a4), (.slice 2, TC.l a5), (.slice 71, TC.l a6), (.slice 32, TC.l a7), (.int .i64, TC.i a8)])] = (qcj_t a0 a1 a2 a3 a4 a5 a6 a7 a8).run fun p => some (qcj_mk p) := by kernel_rfl
theorem qcj_s : ∀ xs r, qcj_S xs = some (true, r) → runF tab FT D32 live 54 noLoops xs = some r := by
  intro xs r h
  unfold qcj_S at h
  split at h
  · obtain ⟨h1, rfl⟩ := sp h
    exact fun_told (qcj_e ..) (qcj_l _ _ _ _ _ _ _ _ _) h1
  · cases h
def D33 : Dt := also D32 54 qcj_S
theorem d33 : DOk Go.Proofs.Try.prog tab D33 := d32.also mixed_ok tab_ok names_ok noLoops_ok qcj_s
def qcy_t (k s : Int) (sg bg : Bool) (NA NU ME BA : LL) (ct : Int) : Tr (Int × Int) := (.ite ((k == (3 : Int)) = true) (.ite ((0 : Int) ≤ (0 : Int) ∧ (0 : Int) < (NU.length : Int)) (.ite ((0 : Int) ≤ (IntKind.wrap .i64 ((NU.length : Int) - (1 : Int))) ∧ (IntKind.wrap .i64 ((NU.length : Int) - (1 : Int))) < (NU.length : Int)) (.ok ((nth (row NU (0 : Int)) 0).int, (nth (row NU (IntKind.wrap .i64 ((NU.length : Int) - (1 : Int)))) 0).int))
    .no)
   .no)
  (.ite ((qcj_c k s sg bg NA NU ME BA ct) = true) (.ite ((qbj_c ((qcj_v k s sg bg NA NU ME BA ct).1) ((qcj_v k s sg bg NA NU ME BA ct).2.1) ((qcj_v k s sg bg NA NU ME BA ct).2.2.1) ((qcj_v k s sg bg NA NU ME BA ct).2.2.2.1) ((qcj_v k s sg bg NA NU ME BA ct).2.2.2.2.1) ((qcj_v k s sg bg NA NU ME BA ct).2.2.2.2.2.1) ((qcj_v k s sg bg NA NU ME BA ct).2.2.2.2.2.2.1) ((qcj_v k s sg bg NA NU ME BA ct).2.2.2.2.2.2.2.1) ((qcj_v k s sg bg NA NU ME BA ct).2.2.2.2.2.2.2.2.1)) = true) (.ok ((qbj_v ((qcj_v k s sg bg NA NU ME BA ct).1) ((qcj_v k s sg bg NA NU ME BA ct).2.1) ((qcj_v k s sg bg NA NU ME BA ct).2.2.1) ((qcj_v k s sg bg NA NU ME BA ct).2.2.2.1) ((qcj_v k s sg bg NA NU ME BA ct).2.2.2.2.1) ((qcj_v k s sg bg NA NU ME BA ct).2.2.2.2.2.1) ((qcj_v k s sg bg NA NU ME BA ct).2.2.2.2.2.2.1) ((qcj_v k s sg bg NA NU ME BA ct).2.2.2.2.2.2.2.1) ((qcj_v k s sg bg NA NU ME BA ct).2.2.2.2.2.2.2.2.1)).1, (qbj_v ((qcj_v k s sg bg NA NU ME BA ct).1) ((qcj_v k s sg bg NA NU ME BA ct).2.1) ((qcj_v k s sg bg NA NU ME BA ct).2.2.1) ((qcj_v k s sg bg NA NU ME BA ct).2.2.2.1) ((qcj_v k s sg bg NA NU ME BA ct).2.2.2.2.1) ((qcj_v k s sg bg NA NU ME BA ct).2.2.2.2.2.1) ((qcj_v k s sg bg NA NU ME BA ct).2.2.2.2.2.2.1) ((qcj_v k s sg bg NA NU ME BA ct).2.2.2.2.2.2.2.1) ((qcj_v k s sg bg NA NU ME BA ct).2.2.2.2.2.2.2.2.1)).2))
    .no)
   .no))
def qcy_mk (p : Int × Int) : Res := [(false, [⟨.int .i64, .sh, TC.i (p.1)⟩]), (false, [⟨.int .i64, .sh, TC.i (p.2)⟩])]
def qcy_c (k s : Int) (sg bg : Bool) (NA NU ME BA : LL) (ct : Int) : Bool := (bif (k == (3 : Int)) then (is ((0 : Int) ≤ (0 : Int) ∧ (0 : Int) < (NU.length : Int)) && (is ((0 : Int) ≤ (IntKind.wrap .i64 ((NU.length : Int) - (1 : Int))) ∧ (IntKind.wrap .i64 ((NU.length : Int) - (1 : Int))) < (NU.length : Int)) && true)) else ((qcj_c k s sg bg NA NU ME BA ct) && ((qbj_c ((qcj_v k s sg bg NA NU ME BA ct).1) ((qcj_v k s sg bg NA NU ME BA ct).2.1) ((qcj_v k s sg bg NA NU ME BA ct).2.2.1) ((qcj_v k s sg bg NA NU ME BA ct).2.2.2.1) ((qcj_v k s sg bg NA NU ME BA ct).2.2.2.2.1) ((qcj_v k s sg bg NA NU ME BA ct).2.2.2.2.2.1) ((qcj_v k s sg bg NA NU ME BA ct).2.2.2.2.2.2.1) ((qcj_v k s sg bg NA NU ME BA ct).2.2.2.2.2.2.2.1) ((qcj_v k s sg bg NA NU ME BA ct).2.2.2.2.2.2.2.2.1)) && true)))
def qcy_v (k s : Int) (sg bg : Bool) (NA NU ME BA : LL) (ct : Int) : Int × Int := (bif (k == (3 : Int)) then ((nth (row NU (0 : Int)) 0).int, (nth (row NU (IntKind.wrap .i64 ((NU.length : Int) - (1 : Int)))) 0).int) else ((qbj_v ((qcj_v k s sg bg NA NU ME BA ct).1) ((qcj_v k s sg bg NA NU ME BA ct).2.1) ((qcj_v k s sg bg NA NU ME BA ct).2.2.1) ((qcj_v k s sg bg NA NU ME BA ct).2.2.2.1) ((qcj_v k s sg bg NA NU ME BA ct).2.2.2.2.1) ((qcj_v k s sg bg NA NU ME BA ct).2.2.2.2.2.1) ((qcj_v k s sg bg NA NU ME BA ct).2.2.2.2.2.2.1) ((qcj_v k s sg bg NA NU ME BA ct).2.2.2.2.2.2.2.1) ((qcj_v k s sg bg NA NU ME BA ct).2.2.2.2.2.2.2.2.1)).1, (qbj_v ((qcj_v k s sg bg NA NU ME BA ct).1) ((qcj_v k s sg bg NA NU ME BA ct).2.1) ((qcj_v k s sg bg NA NU ME BA ct).2.2.1) ((qcj_v k s sg bg NA NU ME BA ct).2.2.2.1) ((qcj_v k s sg bg NA NU ME BA ct).2.2.2.2.1) ((qcj_v k s sg bg NA NU ME BA ct).2.2.2.2.2.1) ((qcj_v k s sg bg NA NU ME BA ct).2.2.2.2.2.2.1) ((qcj_v k s sg bg NA NU ME BA ct).2.2.2.2.2.2.2.1) ((qcj_v k s sg bg NA NU ME BA ct).2.2.2.2.2.2.2.2.1)).2))
theorem qcy_l (k s : Int) (sg bg : Bool) (NA NU ME BA : LL) (ct : Int) : (qcy_c k s sg bg NA NU ME BA ct) = true → (qcy_t k s sg bg NA NU ME BA ct).val = some (qcy_v k s sg bg NA NU ME BA ct) := by
  unfold qcy_t qcy_v qcy_c
  exact fun h => (Tr.ss h (fun h => (Tr.gs h fun h => (Tr.gs h fun h => rfl))) (fun h => (Tr.gb h fun h => (Tr.gb h fun h => rfl))))
def qcy_S : List Arg → Option (Bool × Res) := fun xs => match xs with
  | [(true, [(.int .i64, TC.i k), (.int .i64, TC.i s), (.bool, TC.b sg), (.bool, TC.b bg), (.slice 9, TC.l NA), (.slice 2, TC.l NU), (.slice 71, TC.l ME), (.slice 32, TC.l BA), (.int .i64, TC.i ct)])] => some ((qcy_c k s sg bg NA NU ME BA ct), qcy_mk (qcy_v k s sg bg NA NU ME BA ct))
  | _ => .none
theorem qcy_e (k s : Int) (sg bg : Bool) (NA NU ME BA : LL) (ct : Int) : runF tab FT D33 live 86 noLoops [(true, [(.int .i64, TC.i k), (.int .i64, TC.i s), (.bool, TC.b sg), (.bool, TC.b bg), (.slice 9, TC.l NA), (.slice 2, TC.l NU), (.slice 71, TC.l ME), (.slice 32, TC.l BA), (.int .i64, TC.i ct)])] = (qcy_t k s sg bg NA NU ME BA ct).run fun p => some (qcy_mk p) := by kernel_rfl
theorem qcy_s : ∀ xs r, qcy_S xs = some (true, r) → runF tab FT D33 live 86 noLoops xs = some r := by
  intro xs r h
  unfold qcy_S at h
  split at h
  · obtain ⟨h1, rfl⟩ := sp h
    exact fun_told (qcy_e ..) (qcy_l _ _ _ _ _ _ _ _ _) h1
  · cases h
def D34 : Dt := also D33 86 qcy_S
theorem d34 : DOk Go.Proofs.Try.prog tab D34 := d33.also mixed_ok tab_ok names_ok noLoops_ok qcy_s
theorem qcy_ok {k s : Int} {sg bg : Bool} {NA NU ME BA : LL} {ct : Int} (h : okV k s sg bg NA NU ME BA ct = true) (hn : numK k = true) : qcj_c k s sg bg NA NU ME BA ct = true ∧ (qcj_v k s sg bg NA NU ME BA ct).2.2.2.2.2.2.2.2.2 = true ∧ qcy_c k s sg bg NA NU ME BA ct = true ∧ qcy_v k s sg bg NA NU ME BA ct = rangeT k s sg NU := by
  rcases okV_kind h with rfl | rfl | rfl | rfl | rfl | rfl
  · have hI := okV_int h
    refine ⟨rfl, rfl, ?_, ?_⟩
    · show (true && (qbj_c 1 s sg bg NA NU ME BA ct && true)) = true
      rw [qbj_cc]; rfl
    · show ((qbj_v 1 s sg bg NA NU ME BA ct).1, (qbj_v 1 s sg bg NA NU ME BA ct).2) = (loV s sg, hiV s sg)
      rw [(range_lo hI).1, (range_lo hI).2]
  · cases hn
  · obtain ⟨e1, e2, -, e3, -⟩ := okV_enum h
    have hw : IntKind.wrap .i64 ((NU.length : Int) - (1 : Int)) = (NU.length : Int) - 1 := wrap64 (by omega) (by omega)
    refine ⟨?_, rfl, ?_, rfl⟩
    · show (is ((0 : Int) ≤ (0 : Int) ∧ (0 : Int) < (BA.length : Int)) && true) = true
      exact andT (is_true ⟨by omega, by omega⟩) rfl
    · show (is ((0 : Int) ≤ (0 : Int) ∧ (0 : Int) < (NU.length : Int)) && (is ((0 : Int) ≤ (IntKind.wrap .i64 ((NU.length : Int) - (1 : Int))) ∧ (IntKind.wrap .i64 ((NU.length : Int) - (1 : Int))) < (NU.length : Int)) && true)) = true
      rw [hw]
      exact andT (is_true ⟨by omega, by omega⟩) (andT (is_true ⟨by omega, by omega⟩) rfl)
  · cases hn
  · cases hn
  · refine ⟨rfl, rfl, ?_, ?_⟩
    · show (true && (qbj_c 1 2 false false [] [] [] [] 0 && true)) = true
      rw [qbj_cc]; rfl
    · show ((qbj_v 1 2 false false [] [] [] [] 0).1, (qbj_v 1 2 false false [] [] [] [] 0).2) = (0, 65535)
      unfold qbj_v
      decide
section
class qi_O where n : Nat
variable [i_spec_l04Always : qi_O]
def qi_rc (k s : Int) (sg bg : Bool) (NA NU ME BA : LL) (ct k2 s2 : Int) (sg2 bg2 : Bool) (NA2 NU2 ME2 BA2 : LL) (ct2 : Int) : Bool := is (max (rowsDep ME2) (rowsDep BA2) < qi_O.n ∧ okV k s sg bg NA NU ME BA ct = true ∧ okV k2 s2 sg2 bg2 NA2 NU2 ME2 BA2 ct2 = true ∧ canV k ME BA ct k2 ME2 BA2 ct2 = true)
def qi_rv (k s : Int) (sg bg : Bool) (NA NU ME BA : LL) (ct k2 s2 : Int) (sg2 bg2 : Bool) (NA2 NU2 ME2 BA2 : LL) (ct2 : Int) : Bool := alwV k s sg NA NU ME BA k2 s2 sg2 NA2 NU2 ME2 BA2
def qi_rmk (p : Bool) : Res := [(false, [⟨.bool, .sh, TC.b p⟩])]
def qi_rS : List Arg → Option (Bool × Res) := fun xs => match xs with
  | [(true, [(.int .i64, TC.i k), (.int .i64, TC.i s), (.bool, TC.b sg), (.bool, TC.b bg), (.slice 9, TC.l NA), (.slice 2, TC.l NU), (.slice 71, TC.l ME), (.slice 32, TC.l BA), (.int .i64, TC.i ct)]), (true, [(.int .i64, TC.i k2), (.int .i64, TC.i s2), (.bool, TC.b sg2), (.bool, TC.b bg2), (.slice 9, TC.l NA2), (.slice 2, TC.l NU2), (.slice 71, TC.l ME2), (.slice 32, TC.l BA2), (.int .i64, TC.i ct2)])] => some ((qi_rc k s sg bg NA NU ME BA ct k2 s2 sg2 bg2 NA2 NU2 ME2 BA2 ct2), qi_rmk (qi_rv k s sg bg NA NU ME BA ct k2 s2 sg2 bg2 NA2 NU2 ME2 BA2 ct2))
  | _ => .none
def D35 : Dt := also D34 58 qi_rS
class qi_G : Prop where ok : DOk Go.Proofs.Try.prog tab D35
variable [g_spec_l04Always : qi_G]
theorem d35 : DOk Go.Proofs.Try.prog tab D35 := qi_G.ok
abbrev qi_14_σ := Int × Int × Bool × Bool × LL × LL × LL × LL × Int × Int × Int × Bool × Bool × LL × LL × LL × LL × Int × Int
abbrev qi_14_ω := (Unit) ⊕ (Unit)
def qi_14_step (k s : Int) (sg bg : Bool) (NA NU ME BA : LL) (ct k2 s2 : Int) (sg2 bg2 : Bool) (NA2 NU2 ME2 BA2 : LL) (ct2 i : Int) : Tr (qi_14_σ ⊕ qi_14_ω) := (.ite ((decide (i < (ME2.length : Int))) = true) (.ite ((0 : Int) ≤ i ∧ i < (ME2.length : Int)) (.ite ((qw_c k s sg bg NA NU ME BA ct ((nth (row ME2 i) 0).str)) = true) (.ite ((decide ((qw_v k s sg bg NA NU ME BA ct ((nth (row ME2 i) 0).str)) ≥ (0 : Int))) = true) (.ite ((0 : Int) ≤ (qw_v k s sg bg NA NU ME BA ct ((nth (row ME2 i) 0).str)) ∧ (qw_v k s sg bg NA NU ME BA ct ((nth (row ME2 i) 0).str)) < (ME.length : Int)) (.ite ((0 : Int) ≤ i ∧ i < (ME2.length : Int)) (.ite ((qi_rc ((nth (row ME (qw_v k s sg bg NA NU ME BA ct ((nth (row ME2 i) 0).str))) 2).int) ((nth (row ME (qw_v k s sg bg NA NU ME BA ct ((nth (row ME2 i) 0).str))) 3).int) ((nth (row ME (qw_v k s sg bg NA NU ME BA ct ((nth (row ME2 i) 0).str))) 4).bool) ((nth (row ME (qw_v k s sg bg NA NU ME BA ct ((nth (row ME2 i) 0).str))) 5).bool) ((nth (row ME (qw_v k s sg bg NA NU ME BA ct ((nth (row ME2 i) 0).str))) 6).list) ((nth (row ME (qw_v k s sg bg NA NU ME BA ct ((nth (row ME2 i) 0).str))) 7).list) ((nth (row ME (qw_v k s sg bg NA NU ME BA ct ((nth (row ME2 i) 0).str))) 8).list) ((nth (row ME (qw_v k s sg bg NA NU ME BA ct ((nth (row ME2 i) 0).str))) 9).list) ((nth (row ME (qw_v k s sg bg NA NU ME BA ct ((nth (row ME2 i) 0).str))) 10).int) ((nth (row ME2 i) 2).int) ((nth (row ME2 i) 3).int) ((nth (row ME2 i) 4).bool) ((nth (row ME2 i) 5).bool) ((nth (row ME2 i) 6).list) ((nth (row ME2 i) 7).list) ((nth (row ME2 i) 8).list) ((nth (row ME2 i) 9).list) ((nth (row ME2 i) 10).int)) = true) (.ite ((!(qi_rv ((nth (row ME (qw_v k s sg bg NA NU ME BA ct ((nth (row ME2 i) 0).str))) 2).int) ((nth (row ME (qw_v k s sg bg NA NU ME BA ct ((nth (row ME2 i) 0).str))) 3).int) ((nth (row ME (qw_v k s sg bg NA NU ME BA ct ((nth (row ME2 i) 0).str))) 4).bool) ((nth (row ME (qw_v k s sg bg NA NU ME BA ct ((nth (row ME2 i) 0).str))) 5).bool) ((nth (row ME (qw_v k s sg bg NA NU ME BA ct ((nth (row ME2 i) 0).str))) 6).list) ((nth (row ME (qw_v k s sg bg NA NU ME BA ct ((nth (row ME2 i) 0).str))) 7).list) ((nth (row ME (qw_v k s sg bg NA NU ME BA ct ((nth (row ME2 i) 0).str))) 8).list) ((nth (row ME (qw_v k s sg bg NA NU ME BA ct ((nth (row ME2 i) 0).str))) 9).list) ((nth (row ME (qw_v k s sg bg NA NU ME BA ct ((nth (row ME2 i) 0).str))) 10).int) ((nth (row ME2 i) 2).int) ((nth (row ME2 i) 3).int) ((nth (row ME2 i) 4).bool) ((nth (row ME2 i) 5).bool) ((nth (row ME2 i) 6).list) ((nth (row ME2 i) 7).list) ((nth (row ME2 i) 8).list) ((nth (row ME2 i) 9).list) ((nth (row ME2 i) 10).int))) = true) (.ok (.inr (.inl ())))
         (.ok (.inl (k, s, sg, bg, NA, NU, ME, BA, ct, k2, s2, sg2, bg2, NA2, NU2, ME2, BA2, ct2, (IntKind.wrap .i64 (i + (1 : Int)))))))
        .no)
       .no)
      .no)
     (.ok (.inl (k, s, sg, bg, NA, NU, ME, BA, ct, k2, s2, sg2, bg2, NA2, NU2, ME2, BA2, ct2, (IntKind.wrap .i64 (i + (1 : Int)))))))
    .no)
   .no)
  (.ok (.inr (.inr ()))))
def qi_14_st : qi_14_σ → Tr (qi_14_σ ⊕ qi_14_ω) := fun x => (qi_14_step (x.1) (x.2.1) (x.2.2.1) (x.2.2.2.1) (x.2.2.2.2.1) (x.2.2.2.2.2.1) (x.2.2.2.2.2.2.1) (x.2.2.2.2.2.2.2.1) (x.2.2.2.2.2.2.2.2.1) (x.2.2.2.2.2.2.2.2.2.1) (x.2.2.2.2.2.2.2.2.2.2.1) (x.2.2.2.2.2.2.2.2.2.2.2.1) (x.2.2.2.2.2.2.2.2.2.2.2.2.1) (x.2.2.2.2.2.2.2.2.2.2.2.2.2.1) (x.2.2.2.2.2.2.2.2.2.2.2.2.2.2.1) (x.2.2.2.2.2.2.2.2.2.2.2.2.2.2.2.1) (x.2.2.2.2.2.2.2.2.2.2.2.2.2.2.2.2.1) (x.2.2.2.2.2.2.2.2.2.2.2.2.2.2.2.2.2.1) (x.2.2.2.2.2.2.2.2.2.2.2.2.2.2.2.2.2.2))
def qi_k14_1 (k s : Int) (sg bg : Bool) (NA NU ME BA : LL) (ct k2 s2 : Int) (sg2 bg2 : Bool) (NA2 NU2 ME2 BA2 : LL) (ct2 i : Int) : Bool := allI (fun j : Nat => (memNo ME (nth (row ME2 (j : Int)) 0).str || alwV (nth (row ME ((memIx ME (nth (row ME2 (j : Int)) 0).str : Nat) : Int)) 2).int (nth (row ME ((memIx ME (nth (row ME2 (j : Int)) 0).str : Nat) : Int)) 3).int (nth (row ME ((memIx ME (nth (row ME2 (j : Int)) 0).str : Nat) : Int)) 4).bool (nth (row ME ((memIx ME (nth (row ME2 (j : Int)) 0).str : Nat) : Int)) 6).list (nth (row ME ((memIx ME (nth (row ME2 (j : Int)) 0).str : Nat) : Int)) 7).list (nth (row ME ((memIx ME (nth (row ME2 (j : Int)) 0).str : Nat) : Int)) 8).list (nth (row ME ((memIx ME (nth (row ME2 (j : Int)) 0).str : Nat) : Int)) 9).list (nth (row ME2 (j : Int)) 2).int (nth (row ME2 (j : Int)) 3).int (nth (row ME2 (j : Int)) 4).bool (nth (row ME2 (j : Int)) 6).list (nth (row ME2 (j : Int)) 7).list (nth (row ME2 (j : Int)) 8).list (nth (row ME2 (j : Int)) 9).list)) (ME2.length)
def qi_o14_2 (k s : Int) (sg bg : Bool) (NA NU ME BA : LL) (ct k2 s2 : Int) (sg2 bg2 : Bool) (NA2 NU2 ME2 BA2 : LL) (ct2 i : Int) : Bool := is (i = 0 ∧ (ME.length ≤ 4 ∧ ME2.length ≤ 4 ∧ (∀ y : List TC, y ∈ ME2 → memNo ME (nth y 0).str = false → qi_rc (nth (row ME ((memIx ME (nth y 0).str : Nat) : Int)) 2).int (nth (row ME ((memIx ME (nth y 0).str : Nat) : Int)) 3).int (nth (row ME ((memIx ME (nth y 0).str : Nat) : Int)) 4).bool (nth (row ME ((memIx ME (nth y 0).str : Nat) : Int)) 5).bool (nth (row ME ((memIx ME (nth y 0).str : Nat) : Int)) 6).list (nth (row ME ((memIx ME (nth y 0).str : Nat) : Int)) 7).list (nth (row ME ((memIx ME (nth y 0).str : Nat) : Int)) 8).list (nth (row ME ((memIx ME (nth y 0).str : Nat) : Int)) 9).list (nth (row ME ((memIx ME (nth y 0).str : Nat) : Int)) 10).int (nth y 2).int (nth y 3).int (nth y 4).bool (nth y 5).bool (nth y 6).list (nth y 7).list (nth y 8).list (nth y 9).list (nth y 10).int = true)))
def qi_o14_3 (k s : Int) (sg bg : Bool) (NA NU ME BA : LL) (ct k2 s2 : Int) (sg2 bg2 : Bool) (NA2 NU2 ME2 BA2 : LL) (ct2 i : Int) : Bool := (qi_o14_2 k s sg bg NA NU ME BA ct k2 s2 sg2 bg2 NA2 NU2 ME2 BA2 ct2 i)
def qi_14_fin (k s : Int) (sg bg : Bool) (NA NU ME BA : LL) (ct k2 s2 : Int) (sg2 bg2 : Bool) (NA2 NU2 ME2 BA2 : LL) (ct2 i : Int) : Told qi_14_ω := (.br (qi_k14_1 k s sg bg NA NU ME BA ct k2 s2 sg2 bg2 NA2 NU2 ME2 BA2 ct2 i) (.leaf (qi_o14_2 k s sg bg NA NU ME BA ct k2 s2 sg2 bg2 NA2 NU2 ME2 BA2 ct2 i) (.inr ())) (.leaf (qi_o14_3 k s sg bg NA NU ME BA ct k2 s2 sg2 bg2 NA2 NU2 ME2 BA2 ct2 i) (.inl ())))
def qi_14_sl : qi_14_σ → List Slot := fun x => match x with | (k, s, sg, bg, NA, NU, ME, BA, ct, k2, s2, sg2, bg2, NA2, NU2, ME2, BA2, ct2, i) => [⟨.bx 32 [⟨.int .i64, .sh, TC.i k⟩, ⟨.int .i64, .sh, TC.i s⟩, ⟨.bool, .sh, TC.b sg⟩, ⟨.bool, .sh, TC.b bg⟩, ⟨.slice 9, .sh, TC.l NA⟩, ⟨.slice 2, .sh, TC.l NU⟩, ⟨.slice 71, .sh, TC.l ME⟩, ⟨.slice 32, .sh, TC.l BA⟩, ⟨.int .i64, .sh, TC.i ct⟩], ⟨0, 0⟩⟩, ⟨.bx 32 [⟨.int .i64, .sh, TC.i k2⟩, ⟨.int .i64, .sh, TC.i s2⟩, ⟨.bool, .sh, TC.b sg2⟩, ⟨.bool, .sh, TC.b bg2⟩, ⟨.slice 9, .sh, TC.l NA2⟩, ⟨.slice 2, .sh, TC.l NU2⟩, ⟨.slice 71, .sh, TC.l ME2⟩, ⟨.slice 32, .sh, TC.l BA2⟩, ⟨.int .i64, .sh, TC.i ct2⟩], ⟨0, 0⟩⟩, ⟨.val false [⟨.int .i64, .sh, TC.i i⟩], ⟨0, 0⟩⟩]
def qi_14_out : qi_14_ω → Ex × List Slot := (Sum.elim (fun x => (.ret, [⟨.val false [⟨.bool, .sh, TC.b false⟩], ⟨0, 0⟩⟩])) (fun x => (.exit 1, [Slot.none])))
def qi_lo14 : List Slot → Option (Told (Ex × List Slot)) := fun s => match s with
  | [⟨.bx 32 [⟨.int .i64, .sh, TC.i k⟩, ⟨.int .i64, .sh, TC.i s⟩, ⟨.bool, .sh, TC.b sg⟩, ⟨.bool, .sh, TC.b bg⟩, ⟨.slice 9, .sh, TC.l NA⟩, ⟨.slice 2, .sh, TC.l NU⟩, ⟨.slice 71, .sh, TC.l ME⟩, ⟨.slice 32, .sh, TC.l BA⟩, ⟨.int .i64, .sh, TC.i ct⟩], ⟨0, 0⟩⟩, ⟨.bx 32 [⟨.int .i64, .sh, TC.i k2⟩, ⟨.int .i64, .sh, TC.i s2⟩, ⟨.bool, .sh, TC.b sg2⟩, ⟨.bool, .sh, TC.b bg2⟩, ⟨.slice 9, .sh, TC.l NA2⟩, ⟨.slice 2, .sh, TC.l NU2⟩, ⟨.slice 71, .sh, TC.l ME2⟩, ⟨.slice 32, .sh, TC.l BA2⟩, ⟨.int .i64, .sh, TC.i ct2⟩], ⟨0, 0⟩⟩, ⟨.val false [⟨.int .i64, .sh, TC.i i⟩], ⟨0, 0⟩⟩] => some (((qi_14_fin k s sg bg NA NU ME BA ct k2 s2 sg2 bg2 NA2 NU2 ME2 BA2 ct2 i)).map qi_14_out)
  | _ => .none
def qi_lo : LoopTeller := fun r s => bif Nat.beq r 14 then qi_lo14 s else .none
theorem qi_14_r (k s : Int) (sg bg : Bool) (NA NU ME BA : LL) (ct k2 s2 : Int) (sg2 bg2 : Bool) (NA2 NU2 ME2 BA2 : LL) (ct2 i : Int) (fuel : Nat) : rounds (rnd tab FT D35 live 58 qi_lo 0 14) leave (fuel + 1) (qi_14_sl (k, s, sg, bg, NA, NU, ME, BA, ct, k2, s2, sg2, bg2, NA2, NU2, ME2, BA2, ct2, i)) = ((qi_14_step k s sg bg NA NU ME BA ct k2 s2 sg2 bg2 NA2 NU2 ME2 BA2 ct2 i)).run (goOn (fun s => rounds (rnd tab FT D35 live 58 qi_lo 0 14) leave fuel (qi_14_sl s)) fun w => some (qi_14_out w)) := by kernel_rfl
theorem qi_14_h (k s : Int) (sg bg : Bool) (NA NU ME BA : LL) (ct k2 s2 : Int) (sg2 bg2 : Bool) (NA2 NU2 ME2 BA2 : LL) (ct2 i : Int) (ow : qi_14_ω) : ((qi_14_fin k s sg bg NA NU ME BA ct k2 s2 sg2 bg2 NA2 NU2 ME2 BA2 ct2 i)).val = some ow → ∃ fuel, loopN qi_14_st fuel (k, s, sg, bg, NA, NU, ME, BA, ct, k2, s2, sg2, bg2, NA2, NU2, ME2, BA2, ct2, i) = some ow := by
  intro h
  have key : (ME.length ≤ 4 ∧ ME2.length ≤ 4 ∧ (∀ y : List TC, y ∈ ME2 → memNo ME (nth y 0).str = false → qi_rc (nth (row ME ((memIx ME (nth y 0).str : Nat) : Int)) 2).int (nth (row ME ((memIx ME (nth y 0).str : Nat) : Int)) 3).int (nth (row ME ((memIx ME (nth y 0).str : Nat) : Int)) 4).bool (nth (row ME ((memIx ME (nth y 0).str : Nat) : Int)) 5).bool (nth (row ME ((memIx ME (nth y 0).str : Nat) : Int)) 6).list (nth (row ME ((memIx ME (nth y 0).str : Nat) : Int)) 7).list (nth (row ME ((memIx ME (nth y 0).str : Nat) : Int)) 8).list (nth (row ME ((memIx ME (nth y 0).str : Nat) : Int)) 9).list (nth (row ME ((memIx ME (nth y 0).str : Nat) : Int)) 10).int (nth y 2).int (nth y 3).int (nth y 4).bool (nth y 5).bool (nth y 6).list (nth y 7).list (nth y 8).list (nth y 9).list (nth y 10).int = true)) → loopN qi_14_st ((ME2.length) + 1) (k, s, sg, bg, NA, NU, ME, BA, ct, k2, s2, sg2, bg2, NA2, NU2, ME2, BA2, ct2, (0 : Int)) = some (if allI (fun j : Nat => (memNo ME (nth (row ME2 (j : Int)) 0).str || alwV (nth (row ME ((memIx ME (nth (row ME2 (j : Int)) 0).str : Nat) : Int)) 2).int (nth (row ME ((memIx ME (nth (row ME2 (j : Int)) 0).str : Nat) : Int)) 3).int (nth (row ME ((memIx ME (nth (row ME2 (j : Int)) 0).str : Nat) : Int)) 4).bool (nth (row ME ((memIx ME (nth (row ME2 (j : Int)) 0).str : Nat) : Int)) 6).list (nth (row ME ((memIx ME (nth (row ME2 (j : Int)) 0).str : Nat) : Int)) 7).list (nth (row ME ((memIx ME (nth (row ME2 (j : Int)) 0).str : Nat) : Int)) 8).list (nth (row ME ((memIx ME (nth (row ME2 (j : Int)) 0).str : Nat) : Int)) 9).list (nth (row ME2 (j : Int)) 2).int (nth (row ME2 (j : Int)) 3).int (nth (row ME2 (j : Int)) 4).bool (nth (row ME2 (j : Int)) 6).list (nth (row ME2 (j : Int)) 7).list (nth (row ME2 (j : Int)) 8).list (nth (row ME2 (j : Int)) 9).list)) (ME2.length) = true then (.inr ()) else (.inl ())) := by
    intro ht
    obtain ⟨hl1, hl2, hr⟩ := ht
    have key := loopN_scanI (step := qi_14_st) (ME2.length) (fun j : Nat => (memNo ME (nth (row ME2 (j : Int)) 0).str || alwV (nth (row ME ((memIx ME (nth (row ME2 (j : Int)) 0).str : Nat) : Int)) 2).int (nth (row ME ((memIx ME (nth (row ME2 (j : Int)) 0).str : Nat) : Int)) 3).int (nth (row ME ((memIx ME (nth (row ME2 (j : Int)) 0).str : Nat) : Int)) 4).bool (nth (row ME ((memIx ME (nth (row ME2 (j : Int)) 0).str : Nat) : Int)) 6).list (nth (row ME ((memIx ME (nth (row ME2 (j : Int)) 0).str : Nat) : Int)) 7).list (nth (row ME ((memIx ME (nth (row ME2 (j : Int)) 0).str : Nat) : Int)) 8).list (nth (row ME ((memIx ME (nth (row ME2 (j : Int)) 0).str : Nat) : Int)) 9).list (nth (row ME2 (j : Int)) 2).int (nth (row ME2 (j : Int)) 3).int (nth (row ME2 (j : Int)) 4).bool (nth (row ME2 (j : Int)) 6).list (nth (row ME2 (j : Int)) 7).list (nth (row ME2 (j : Int)) 8).list (nth (row ME2 (j : Int)) 9).list)) (fun _ a => a) (fun i a => (k, s, sg, bg, NA, NU, ME, BA, ct, k2, s2, sg2, bg2, NA2, NU2, ME2, BA2, ct2, (i : Int))) (fun a => (.inr ())) (fun i a => (.inl ())) (fun i a hi => ?_) (fun a => ?_) ()
    · first | exact key
    · skip
      show (qi_14_step k s sg bg NA NU ME BA ct k2 s2 sg2 bg2 NA2 NU2 ME2 BA2 ct2 (i : Int)).val = _
      unfold qi_14_step
      refine Tr.t (by simp; omega) ?_
      skip
      have hx : (row ME2 (i : Int)) ∈ ME2 := by rw [row_nat]; exact mem_getD hi
      refine Tr.t (by constructor <;> omega) (Tr.t (qw_cc (by omega)) ?_)
      rw [qw_vv]
      cases hm : memNo ME (nth (row ME2 (i : Int)) 0).str with
      | true =>
        refine Tr.n (by simp) ?_
        rw [Tr.val_ok, wrap64 (by omega) (by omega)]
        rfl
      | false =>
        have hlt := memIx_lt hm
        rw [show (bif false then (-1 : Int) else ((memIx ME (nth (row ME2 (i : Int)) 0).str : Nat) : Int)) = ((memIx ME (nth (row ME2 (i : Int)) 0).str : Nat) : Int) from rfl]
        refine Tr.t (by simp) (Tr.t ⟨by omega, by omega⟩ (Tr.t (by constructor <;> omega) (Tr.t (hr _ hx hm) ?_)))
        rw [show qi_rv (nth (row ME ((memIx ME (nth (row ME2 (i : Int)) 0).str : Nat) : Int)) 2).int (nth (row ME ((memIx ME (nth (row ME2 (i : Int)) 0).str : Nat) : Int)) 3).int (nth (row ME ((memIx ME (nth (row ME2 (i : Int)) 0).str : Nat) : Int)) 4).bool (nth (row ME ((memIx ME (nth (row ME2 (i : Int)) 0).str : Nat) : Int)) 5).bool (nth (row ME ((memIx ME (nth (row ME2 (i : Int)) 0).str : Nat) : Int)) 6).list (nth (row ME ((memIx ME (nth (row ME2 (i : Int)) 0).str : Nat) : Int)) 7).list (nth (row ME ((memIx ME (nth (row ME2 (i : Int)) 0).str : Nat) : Int)) 8).list (nth (row ME ((memIx ME (nth (row ME2 (i : Int)) 0).str : Nat) : Int)) 9).list (nth (row ME ((memIx ME (nth (row ME2 (i : Int)) 0).str : Nat) : Int)) 10).int (nth (row ME2 (i : Int)) 2).int (nth (row ME2 (i : Int)) 3).int (nth (row ME2 (i : Int)) 4).bool (nth (row ME2 (i : Int)) 5).bool (nth (row ME2 (i : Int)) 6).list (nth (row ME2 (i : Int)) 7).list (nth (row ME2 (i : Int)) 8).list (nth (row ME2 (i : Int)) 9).list (nth (row ME2 (i : Int)) 10).int = alwV (nth (row ME ((memIx ME (nth (row ME2 (i : Int)) 0).str : Nat) : Int)) 2).int (nth (row ME ((memIx ME (nth (row ME2 (i : Int)) 0).str : Nat) : Int)) 3).int (nth (row ME ((memIx ME (nth (row ME2 (i : Int)) 0).str : Nat) : Int)) 4).bool (nth (row ME ((memIx ME (nth (row ME2 (i : Int)) 0).str : Nat) : Int)) 6).list (nth (row ME ((memIx ME (nth (row ME2 (i : Int)) 0).str : Nat) : Int)) 7).list (nth (row ME ((memIx ME (nth (row ME2 (i : Int)) 0).str : Nat) : Int)) 8).list (nth (row ME ((memIx ME (nth (row ME2 (i : Int)) 0).str : Nat) : Int)) 9).list (nth (row ME2 (i : Int)) 2).int (nth (row ME2 (i : Int)) 3).int (nth (row ME2 (i : Int)) 4).bool (nth (row ME2 (i : Int)) 6).list (nth (row ME2 (i : Int)) 7).list (nth (row ME2 (i : Int)) 8).list (nth (row ME2 (i : Int)) 9).list from rfl]
        cases hc : alwV (nth (row ME ((memIx ME (nth (row ME2 (i : Int)) 0).str : Nat) : Int)) 2).int (nth (row ME ((memIx ME (nth (row ME2 (i : Int)) 0).str : Nat) : Int)) 3).int (nth (row ME ((memIx ME (nth (row ME2 (i : Int)) 0).str : Nat) : Int)) 4).bool (nth (row ME ((memIx ME (nth (row ME2 (i : Int)) 0).str : Nat) : Int)) 6).list (nth (row ME ((memIx ME (nth (row ME2 (i : Int)) 0).str : Nat) : Int)) 7).list (nth (row ME ((memIx ME (nth (row ME2 (i : Int)) 0).str : Nat) : Int)) 8).list (nth (row ME ((memIx ME (nth (row ME2 (i : Int)) 0).str : Nat) : Int)) 9).list (nth (row ME2 (i : Int)) 2).int (nth (row ME2 (i : Int)) 3).int (nth (row ME2 (i : Int)) 4).bool (nth (row ME2 (i : Int)) 6).list (nth (row ME2 (i : Int)) 7).list (nth (row ME2 (i : Int)) 8).list (nth (row ME2 (i : Int)) 9).list with
        | true =>
          refine Tr.n (by simp) ?_
          rw [Tr.val_ok, wrap64 (by omega) (by omega)]
          rfl
        | false => exact Tr.t rfl rfl
    · show (qi_14_step k s sg bg NA NU ME BA ct k2 s2 sg2 bg2 NA2 NU2 ME2 BA2 ct2 (ME2.length : Int)).val = _
      refine Tr.n (by first | (simp; done) | (simp; omega)) ?_
      rfl
  simp only [qi_14_fin, Told.val] at h
  cases hk : allI (fun j : Nat => (memNo ME (nth (row ME2 (j : Int)) 0).str || alwV (nth (row ME ((memIx ME (nth (row ME2 (j : Int)) 0).str : Nat) : Int)) 2).int (nth (row ME ((memIx ME (nth (row ME2 (j : Int)) 0).str : Nat) : Int)) 3).int (nth (row ME ((memIx ME (nth (row ME2 (j : Int)) 0).str : Nat) : Int)) 4).bool (nth (row ME ((memIx ME (nth (row ME2 (j : Int)) 0).str : Nat) : Int)) 6).list (nth (row ME ((memIx ME (nth (row ME2 (j : Int)) 0).str : Nat) : Int)) 7).list (nth (row ME ((memIx ME (nth (row ME2 (j : Int)) 0).str : Nat) : Int)) 8).list (nth (row ME ((memIx ME (nth (row ME2 (j : Int)) 0).str : Nat) : Int)) 9).list (nth (row ME2 (j : Int)) 2).int (nth (row ME2 (j : Int)) 3).int (nth (row ME2 (j : Int)) 4).bool (nth (row ME2 (j : Int)) 6).list (nth (row ME2 (j : Int)) 7).list (nth (row ME2 (j : Int)) 8).list (nth (row ME2 (j : Int)) 9).list)) (ME2.length) with
  | true =>
    rw [if_pos (show qi_k14_1 k s sg bg NA NU ME BA ct k2 s2 sg2 bg2 NA2 NU2 ME2 BA2 ct2 i = true from hk)] at h
    split at h
    · rename_i ho
      obtain ⟨rfl, ht⟩ := is_iff.1 ho
      cases h
      refine ⟨_, (key ht).trans ?_⟩
      rw [hk]; rfl
    · cases h
  | false =>
    rw [if_neg (show ¬qi_k14_1 k s sg bg NA NU ME BA ct k2 s2 sg2 bg2 NA2 NU2 ME2 BA2 ct2 i = true from by rw [show qi_k14_1 k s sg bg NA NU ME BA ct k2 s2 sg2 bg2 NA2 NU2 ME2 BA2 ct2 i = (allI (fun j : Nat => (memNo ME (nth (row ME2 (j : Int)) 0).str || alwV (nth (row ME ((memIx ME (nth (row ME2 (j : Int)) 0).str : Nat) : Int)) 2).int (nth (row ME ((memIx ME (nth (row ME2 (j : Int)) 0).str : Nat) : Int)) 3).int (nth (row ME ((memIx ME (nth (row ME2 (j : Int)) 0).str : Nat) : Int)) 4).bool (nth (row ME ((memIx ME (nth (row ME2 (j : Int)) 0).str : Nat) : Int)) 6).list (nth (row ME ((memIx ME (nth (row ME2 (j : Int)) 0).str : Nat) : Int)) 7).list (nth (row ME ((memIx ME (nth (row ME2 (j : Int)) 0).str : Nat) : Int)) 8).list (nth (row ME ((memIx ME (nth (row ME2 (j : Int)) 0).str : Nat) : Int)) 9).list (nth (row ME2 (j : Int)) 2).int (nth (row ME2 (j : Int)) 3).int (nth (row ME2 (j : Int)) 4).bool (nth (row ME2 (j : Int)) 6).list (nth (row ME2 (j : Int)) 7).list (nth (row ME2 (j : Int)) 8).list (nth (row ME2 (j : Int)) 9).list)) (ME2.length)) from rfl, hk]; simp)] at h
    split at h
    · rename_i ho
      obtain ⟨rfl, ht⟩ := is_iff.1 ho
      cases h
      refine ⟨_, (key ht).trans ?_⟩
      rw [hk]; rfl
    · cases h
theorem qi_is14 : LoopIs tab FT D35 live 58 qi_lo 0 14 := by
  refine loop_told (sl := qi_14_sl) (step := qi_14_st) (out := qi_14_out) (lor := qi_lo14) (fin := fun x => (qi_14_fin (x.1) (x.2.1) (x.2.2.1) (x.2.2.2.1) (x.2.2.2.2.1) (x.2.2.2.2.2.1) (x.2.2.2.2.2.2.1) (x.2.2.2.2.2.2.2.1) (x.2.2.2.2.2.2.2.2.1) (x.2.2.2.2.2.2.2.2.2.1) (x.2.2.2.2.2.2.2.2.2.2.1) (x.2.2.2.2.2.2.2.2.2.2.2.1) (x.2.2.2.2.2.2.2.2.2.2.2.2.1) (x.2.2.2.2.2.2.2.2.2.2.2.2.2.1) (x.2.2.2.2.2.2.2.2.2.2.2.2.2.2.1) (x.2.2.2.2.2.2.2.2.2.2.2.2.2.2.2.1) (x.2.2.2.2.2.2.2.2.2.2.2.2.2.2.2.2.1) (x.2.2.2.2.2.2.2.2.2.2.2.2.2.2.2.2.2.1) (x.2.2.2.2.2.2.2.2.2.2.2.2.2.2.2.2.2.2))) (fun _ => rfl) ?_ (fun x n => qi_14_r x.1 x.2.1 x.2.2.1 x.2.2.2.1 x.2.2.2.2.1 x.2.2.2.2.2.1 x.2.2.2.2.2.2.1 x.2.2.2.2.2.2.2.1 x.2.2.2.2.2.2.2.2.1 x.2.2.2.2.2.2.2.2.2.1 x.2.2.2.2.2.2.2.2.2.2.1 x.2.2.2.2.2.2.2.2.2.2.2.1 x.2.2.2.2.2.2.2.2.2.2.2.2.1 x.2.2.2.2.2.2.2.2.2.2.2.2.2.1 x.2.2.2.2.2.2.2.2.2.2.2.2.2.2.1 x.2.2.2.2.2.2.2.2.2.2.2.2.2.2.2.1 x.2.2.2.2.2.2.2.2.2.2.2.2.2.2.2.2.1 x.2.2.2.2.2.2.2.2.2.2.2.2.2.2.2.2.2.1 x.2.2.2.2.2.2.2.2.2.2.2.2.2.2.2.2.2.2 n) (fun x ow => qi_14_h x.1 x.2.1 x.2.2.1 x.2.2.2.1 x.2.2.2.2.1 x.2.2.2.2.2.1 x.2.2.2.2.2.2.1 x.2.2.2.2.2.2.2.1 x.2.2.2.2.2.2.2.2.1 x.2.2.2.2.2.2.2.2.2.1 x.2.2.2.2.2.2.2.2.2.2.1 x.2.2.2.2.2.2.2.2.2.2.2.1 x.2.2.2.2.2.2.2.2.2.2.2.2.1 x.2.2.2.2.2.2.2.2.2.2.2.2.2.1 x.2.2.2.2.2.2.2.2.2.2.2.2.2.2.1 x.2.2.2.2.2.2.2.2.2.2.2.2.2.2.2.1 x.2.2.2.2.2.2.2.2.2.2.2.2.2.2.2.2.1 x.2.2.2.2.2.2.2.2.2.2.2.2.2.2.2.2.2.1 x.2.2.2.2.2.2.2.2.2.2.2.2.2.2.2.2.2.2 ow)
  intro s t h
  unfold qi_lo14 at h
  split at h
  · cases h; exact ⟨(_, _, _, _, _, _, _, _, _, _, _, _, _, _, _, _, _, _, _), rfl, rfl⟩
  · cases h
def qi_b1_t (k s : Int) (sg bg : Bool) (NA NU ME BA : LL) (ct k2 s2 : Int) (sg2 bg2 : Bool) (NA2 NU2 ME2 BA2 : LL) (ct2 : Int) : Tr (Bool) := (.ite ((qct_v k s sg bg NA NU ME BA ct) = true) (.ite ((qcy_c k s sg bg NA NU ME BA ct) = true) (.ite ((qcy_c k2 s2 sg2 bg2 NA2 NU2 ME2 BA2 ct2) = true) (.ite ((decide ((qcy_v k s sg bg NA NU ME BA ct).1 ≥ (qcy_v k2 s2 sg2 bg2 NA2 NU2 ME2 BA2 ct2).1)) = true) (.ok (decide ((qcy_v k s sg bg NA NU ME BA ct).2 ≤ (qcy_v k2 s2 sg2 bg2 NA2 NU2 ME2 BA2 ct2).2)))
     (.ok false))
    .no)
   .no)
  (.ite ((k == (2 : Int)) = true) (.ok (decide (s ≤ s2)))
   (.ite ((k == (5 : Int)) = true) (.ite ((0 : Int) ≤ (0 : Int) ∧ (0 : Int) < (BA.length : Int)) (.ite ((0 : Int) ≤ (0 : Int) ∧ (0 : Int) < (BA2.length : Int)) (.ite ((qi_rc ((nth (row BA (0 : Int)) 0).int) ((nth (row BA (0 : Int)) 1).int) ((nth (row BA (0 : Int)) 2).bool) ((nth (row BA (0 : Int)) 3).bool) ((nth (row BA (0 : Int)) 4).list) ((nth (row BA (0 : Int)) 5).list) ((nth (row BA (0 : Int)) 6).list) ((nth (row BA (0 : Int)) 7).list) ((nth (row BA (0 : Int)) 8).int) ((nth (row BA2 (0 : Int)) 0).int) ((nth (row BA2 (0 : Int)) 1).int) ((nth (row BA2 (0 : Int)) 2).bool) ((nth (row BA2 (0 : Int)) 3).bool) ((nth (row BA2 (0 : Int)) 4).list) ((nth (row BA2 (0 : Int)) 5).list) ((nth (row BA2 (0 : Int)) 6).list) ((nth (row BA2 (0 : Int)) 7).list) ((nth (row BA2 (0 : Int)) 8).int)) = true) (.ok (qi_rv ((nth (row BA (0 : Int)) 0).int) ((nth (row BA (0 : Int)) 1).int) ((nth (row BA (0 : Int)) 2).bool) ((nth (row BA (0 : Int)) 3).bool) ((nth (row BA (0 : Int)) 4).list) ((nth (row BA (0 : Int)) 5).list) ((nth (row BA (0 : Int)) 6).list) ((nth (row BA (0 : Int)) 7).list) ((nth (row BA (0 : Int)) 8).int) ((nth (row BA2 (0 : Int)) 0).int) ((nth (row BA2 (0 : Int)) 1).int) ((nth (row BA2 (0 : Int)) 2).bool) ((nth (row BA2 (0 : Int)) 3).bool) ((nth (row BA2 (0 : Int)) 4).list) ((nth (row BA2 (0 : Int)) 5).list) ((nth (row BA2 (0 : Int)) 6).list) ((nth (row BA2 (0 : Int)) 7).list) ((nth (row BA2 (0 : Int)) 8).int)))
       .no)
      .no)
     .no)
    (.ite ((qi_k14_1 k s sg bg NA NU ME BA ct k2 s2 sg2 bg2 NA2 NU2 ME2 BA2 ct2 (0 : Int)) = true) (.ite ((qi_o14_2 k s sg bg NA NU ME BA ct k2 s2 sg2 bg2 NA2 NU2 ME2 BA2 ct2 (0 : Int)) = true) (.ok true)
      .no)
     (.ite ((qi_o14_3 k s sg bg NA NU ME BA ct k2 s2 sg2 bg2 NA2 NU2 ME2 BA2 ct2 (0 : Int)) = true) (.ok false)
      .no)))))
def qi_b1_c (k s : Int) (sg bg : Bool) (NA NU ME BA : LL) (ct k2 s2 : Int) (sg2 bg2 : Bool) (NA2 NU2 ME2 BA2 : LL) (ct2 : Int) : Bool := (bif (qct_v k s sg bg NA NU ME BA ct) then ((qcy_c k s sg bg NA NU ME BA ct) && ((qcy_c k2 s2 sg2 bg2 NA2 NU2 ME2 BA2 ct2) && (bif (decide ((qcy_v k s sg bg NA NU ME BA ct).1 ≥ (qcy_v k2 s2 sg2 bg2 NA2 NU2 ME2 BA2 ct2).1)) then true else true))) else (bif (k == (2 : Int)) then true else (bif (k == (5 : Int)) then (is ((0 : Int) ≤ (0 : Int) ∧ (0 : Int) < (BA.length : Int)) && (is ((0 : Int) ≤ (0 : Int) ∧ (0 : Int) < (BA2.length : Int)) && ((qi_rc ((nth (row BA (0 : Int)) 0).int) ((nth (row BA (0 : Int)) 1).int) ((nth (row BA (0 : Int)) 2).bool) ((nth (row BA (0 : Int)) 3).bool) ((nth (row BA (0 : Int)) 4).list) ((nth (row BA (0 : Int)) 5).list) ((nth (row BA (0 : Int)) 6).list) ((nth (row BA (0 : Int)) 7).list) ((nth (row BA (0 : Int)) 8).int) ((nth (row BA2 (0 : Int)) 0).int) ((nth (row BA2 (0 : Int)) 1).int) ((nth (row BA2 (0 : Int)) 2).bool) ((nth (row BA2 (0 : Int)) 3).bool) ((nth (row BA2 (0 : Int)) 4).list) ((nth (row BA2 (0 : Int)) 5).list) ((nth (row BA2 (0 : Int)) 6).list) ((nth (row BA2 (0 : Int)) 7).list) ((nth (row BA2 (0 : Int)) 8).int)) && true))) else (bif (qi_k14_1 k s sg bg NA NU ME BA ct k2 s2 sg2 bg2 NA2 NU2 ME2 BA2 ct2 (0 : Int)) then ((qi_o14_2 k s sg bg NA NU ME BA ct k2 s2 sg2 bg2 NA2 NU2 ME2 BA2 ct2 (0 : Int)) && true) else ((qi_o14_3 k s sg bg NA NU ME BA ct k2 s2 sg2 bg2 NA2 NU2 ME2 BA2 ct2 (0 : Int)) && true)))))
def qi_b1_v (k s : Int) (sg bg : Bool) (NA NU ME BA : LL) (ct k2 s2 : Int) (sg2 bg2 : Bool) (NA2 NU2 ME2 BA2 : LL) (ct2 : Int) : Bool := (bif (qct_v k s sg bg NA NU ME BA ct) then (bif (decide ((qcy_v k s sg bg NA NU ME BA ct).1 ≥ (qcy_v k2 s2 sg2 bg2 NA2 NU2 ME2 BA2 ct2).1)) then (decide ((qcy_v k s sg bg NA NU ME BA ct).2 ≤ (qcy_v k2 s2 sg2 bg2 NA2 NU2 ME2 BA2 ct2).2)) else false) else (bif (k == (2 : Int)) then (decide (s ≤ s2)) else (bif (k == (5 : Int)) then (qi_rv ((nth (row BA (0 : Int)) 0).int) ((nth (row BA (0 : Int)) 1).int) ((nth (row BA (0 : Int)) 2).bool) ((nth (row BA (0 : Int)) 3).bool) ((nth (row BA (0 : Int)) 4).list) ((nth (row BA (0 : Int)) 5).list) ((nth (row BA (0 : Int)) 6).list) ((nth (row BA (0 : Int)) 7).list) ((nth (row BA (0 : Int)) 8).int) ((nth (row BA2 (0 : Int)) 0).int) ((nth (row BA2 (0 : Int)) 1).int) ((nth (row BA2 (0 : Int)) 2).bool) ((nth (row BA2 (0 : Int)) 3).bool) ((nth (row BA2 (0 : Int)) 4).list) ((nth (row BA2 (0 : Int)) 5).list) ((nth (row BA2 (0 : Int)) 6).list) ((nth (row BA2 (0 : Int)) 7).list) ((nth (row BA2 (0 : Int)) 8).int)) else (bif (qi_k14_1 k s sg bg NA NU ME BA ct k2 s2 sg2 bg2 NA2 NU2 ME2 BA2 ct2 (0 : Int)) then true else false))))
theorem qi_b1_l (k s : Int) (sg bg : Bool) (NA NU ME BA : LL) (ct k2 s2 : Int) (sg2 bg2 : Bool) (NA2 NU2 ME2 BA2 : LL) (ct2 : Int) : (qi_b1_c k s sg bg NA NU ME BA ct k2 s2 sg2 bg2 NA2 NU2 ME2 BA2 ct2) = true → ((qi_b1_t k s sg bg NA NU ME BA ct k2 s2 sg2 bg2 NA2 NU2 ME2 BA2 ct2)).val = some (qi_b1_v k s sg bg NA NU ME BA ct k2 s2 sg2 bg2 NA2 NU2 ME2 BA2 ct2) := by
  unfold qi_b1_t qi_b1_v qi_b1_c
  intro h
  repeat' first | refine Tr.gb h fun h => ?_ | refine Tr.gs h fun h => ?_ | refine Tr.ss h (fun h => ?_) fun h => ?_ | exact rfl
def qi_b2_t (k s : Int) (sg bg : Bool) (NA NU ME BA : LL) (ct k2 s2 : Int) (sg2 bg2 : Bool) (NA2 NU2 ME2 BA2 : LL) (ct2 : Int) : Tr (Bool) := (.ite ((k2 == (3 : Int)) = true) (.ok false)
  (qi_b1_t k s sg bg NA NU ME BA ct k2 s2 sg2 bg2 NA2 NU2 ME2 BA2 ct2))
def qi_b2_c (k s : Int) (sg bg : Bool) (NA NU ME BA : LL) (ct k2 s2 : Int) (sg2 bg2 : Bool) (NA2 NU2 ME2 BA2 : LL) (ct2 : Int) : Bool := (bif (k2 == (3 : Int)) then true else (qi_b1_c k s sg bg NA NU ME BA ct k2 s2 sg2 bg2 NA2 NU2 ME2 BA2 ct2))
def qi_b2_v (k s : Int) (sg bg : Bool) (NA NU ME BA : LL) (ct k2 s2 : Int) (sg2 bg2 : Bool) (NA2 NU2 ME2 BA2 : LL) (ct2 : Int) : Bool := (bif (k2 == (3 : Int)) then false else (qi_b1_v k s sg bg NA NU ME BA ct k2 s2 sg2 bg2 NA2 NU2 ME2 BA2 ct2))
theorem qi_b2_l (k s : Int) (sg bg : Bool) (NA NU ME BA : LL) (ct k2 s2 : Int) (sg2 bg2 : Bool) (NA2 NU2 ME2 BA2 : LL) (ct2 : Int) : (qi_b2_c k s sg bg NA NU ME BA ct k2 s2 sg2 bg2 NA2 NU2 ME2 BA2 ct2) = true → ((qi_b2_t k s sg bg NA NU ME BA ct k2 s2 sg2 bg2 NA2 NU2 ME2 BA2 ct2)).val = some (qi_b2_v k s sg bg NA NU ME BA ct k2 s2 sg2 bg2 NA2 NU2 ME2 BA2 ct2) := by
  unfold qi_b2_t qi_b2_v qi_b2_c
  exact fun h => (Tr.ss h (fun h => rfl) (fun h => (qi_b1_l _ _ _ _ _ _ _ _ _ _ _ _ _ _ _ _ _ _ h)))
def qi_b3_t (k s : Int) (sg bg : Bool) (NA NU ME BA : LL) (ct k2 s2 : Int) (sg2 bg2 : Bool) (NA2 NU2 ME2 BA2 : LL) (ct2 : Int) : Tr (Bool) := (.ite ((k == (1 : Int)) = true) (qi_b2_t k s sg bg NA NU ME BA ct k2 s2 sg2 bg2 NA2 NU2 ME2 BA2 ct2)
  (qi_b1_t k s sg bg NA NU ME BA ct k2 s2 sg2 bg2 NA2 NU2 ME2 BA2 ct2))
def qi_b3_c (k s : Int) (sg bg : Bool) (NA NU ME BA : LL) (ct k2 s2 : Int) (sg2 bg2 : Bool) (NA2 NU2 ME2 BA2 : LL) (ct2 : Int) : Bool := (bif (k == (1 : Int)) then (qi_b2_c k s sg bg NA NU ME BA ct k2 s2 sg2 bg2 NA2 NU2 ME2 BA2 ct2) else (qi_b1_c k s sg bg NA NU ME BA ct k2 s2 sg2 bg2 NA2 NU2 ME2 BA2 ct2))
def qi_b3_v (k s : Int) (sg bg : Bool) (NA NU ME BA : LL) (ct k2 s2 : Int) (sg2 bg2 : Bool) (NA2 NU2 ME2 BA2 : LL) (ct2 : Int) : Bool := (bif (k == (1 : Int)) then (qi_b2_v k s sg bg NA NU ME BA ct k2 s2 sg2 bg2 NA2 NU2 ME2 BA2 ct2) else (qi_b1_v k s sg bg NA NU ME BA ct k2 s2 sg2 bg2 NA2 NU2 ME2 BA2 ct2))
theorem qi_b3_l (k s : Int) (sg bg : Bool) (NA NU ME BA : LL) (ct k2 s2 : Int) (sg2 bg2 : Bool) (NA2 NU2 ME2 BA2 : LL) (ct2 : Int) : (qi_b3_c k s sg bg NA NU ME BA ct k2 s2 sg2 bg2 NA2 NU2 ME2 BA2 ct2) = true → ((qi_b3_t k s sg bg NA NU ME BA ct k2 s2 sg2 bg2 NA2 NU2 ME2 BA2 ct2)).val = some (qi_b3_v k s sg bg NA NU ME BA ct k2 s2 sg2 bg2 NA2 NU2 ME2 BA2 ct2) := by
  unfold qi_b3_t qi_b3_v qi_b3_c
  exact fun h => (Tr.ss h (fun h => (qi_b2_l _ _ _ _ _ _ _ _ _ _ _ _ _ _ _ _ _ _ h)) (fun h => (qi_b1_l _ _ _ _ _ _ _ _ _ _ _ _ _ _ _ _ _ _ h)))
def qi_t (k s : Int) (sg bg : Bool) (NA NU ME BA : LL) (ct k2 s2 : Int) (sg2 bg2 : Bool) (NA2 NU2 ME2 BA2 : LL) (ct2 : Int) : Tr (Bool) := (.ite ((k == (3 : Int)) = true) (.ite ((k2 == (3 : Int)) = true) (.ite ((qbk_c k s sg bg NA NU ME BA ct k2 s2 sg2 bg2 NA2 NU2 ME2 BA2 ct2) = true) (.ok (qbk_v k s sg bg NA NU ME BA ct k2 s2 sg2 bg2 NA2 NU2 ME2 BA2 ct2))
    .no)
   (qi_b3_t k s sg bg NA NU ME BA ct k2 s2 sg2 bg2 NA2 NU2 ME2 BA2 ct2))
  (qi_b3_t k s sg bg NA NU ME BA ct k2 s2 sg2 bg2 NA2 NU2 ME2 BA2 ct2))
def qi_mk (p : Bool) : Res := [(false, [⟨.bool, .sh, TC.b p⟩])]
def qi_c (k s : Int) (sg bg : Bool) (NA NU ME BA : LL) (ct k2 s2 : Int) (sg2 bg2 : Bool) (NA2 NU2 ME2 BA2 : LL) (ct2 : Int) : Bool := (bif (k == (3 : Int)) then (bif (k2 == (3 : Int)) then ((qbk_c k s sg bg NA NU ME BA ct k2 s2 sg2 bg2 NA2 NU2 ME2 BA2 ct2) && true) else (qi_b3_c k s sg bg NA NU ME BA ct k2 s2 sg2 bg2 NA2 NU2 ME2 BA2 ct2)) else (qi_b3_c k s sg bg NA NU ME BA ct k2 s2 sg2 bg2 NA2 NU2 ME2 BA2 ct2))
def qi_v (k s : Int) (sg bg : Bool) (NA NU ME BA : LL) (ct k2 s2 : Int) (sg2 bg2 : Bool) (NA2 NU2 ME2 BA2 : LL) (ct2 : Int) : Bool := (bif (k == (3 : Int)) then (bif (k2 == (3 : Int)) then (qbk_v k s sg bg NA NU ME BA ct k2 s2 sg2 bg2 NA2 NU2 ME2 BA2 ct2) else (qi_b3_v k s sg bg NA NU ME BA ct k2 s2 sg2 bg2 NA2 NU2 ME2 BA2 ct2)) else (qi_b3_v k s sg bg NA NU ME BA ct k2 s2 sg2 bg2 NA2 NU2 ME2 BA2 ct2))
theorem qi_l (k s : Int) (sg bg : Bool) (NA NU ME BA : LL) (ct k2 s2 : Int) (sg2 bg2 : Bool) (NA2 NU2 ME2 BA2 : LL) (ct2 : Int) : (qi_c k s sg bg NA NU ME BA ct k2 s2 sg2 bg2 NA2 NU2 ME2 BA2 ct2) = true → (qi_t k s sg bg NA NU ME BA ct k2 s2 sg2 bg2 NA2 NU2 ME2 BA2 ct2).val = some (qi_v k s sg bg NA NU ME BA ct k2 s2 sg2 bg2 NA2 NU2 ME2 BA2 ct2) := by
  unfold qi_t qi_v qi_c
  exact fun h => (Tr.ss h (fun h => (Tr.ss h (fun h => (Tr.gb h fun h => rfl)) (fun h => (qi_b3_l _ _ _ _ _ _ _ _ _ _ _ _ _ _ _ _ _ _ h)))) (fun h => (qi_b3_l _ _ _ _ _ _ _ _ _ _ _ _ _ _ _ _ _ _ h)))
theorem qi_e (k s : Int) (sg bg : Bool) (NA NU ME BA : LL) (ct k2 s2 : Int) (sg2 bg2 : Bool) (NA2 NU2 ME2 BA2 : LL) (ct2 : Int) : runF tab FT D35 live 58 qi_lo [(true, [(.int .i64, TC.i k), (.int .i64, TC.i s), (.bool, TC.b sg), (.bool, TC.b bg), (.slice 9, TC.l NA), (.slice 2, TC.l NU), (.slice 71, TC.l ME), (.slice 32, TC.l BA), (.int .i64, TC.i ct)]), (true, [(.int .i64, TC.i k2), (.int .i64, TC.i s2), (.bool, TC.b sg2), (.bool, TC.b bg2), (.slice 9, TC.l NA2), (.slice 2, TC.l NU2), (.slice 71, TC.l ME2), (.slice 32, TC.l BA2), (.int .i64, TC.i ct2)])] = (qi_t k s sg bg NA NU ME BA ct k2 s2 sg2 bg2 NA2 NU2 ME2 BA2 ct2).run fun p => some (qi_mk p) := by kernel_rfl
theorem qi_nx (k s : Int) (sg bg : Bool) (NA NU ME BA : LL) (ct k2 s2 : Int) (sg2 bg2 : Bool) (NA2 NU2 ME2 BA2 : LL) (ct2 : Int) : is (max (rowsDep ME2) (rowsDep BA2) < qi_O.n + 1 ∧ okV k s sg bg NA NU ME BA ct = true ∧ okV k2 s2 sg2 bg2 NA2 NU2 ME2 BA2 ct2 = true ∧ canV k ME BA ct k2 ME2 BA2 ct2 = true) = true → (qi_c k s sg bg NA NU ME BA ct k2 s2 sg2 bg2 NA2 NU2 ME2 BA2 ct2) = true ∧ (qi_v k s sg bg NA NU ME BA ct k2 s2 sg2 bg2 NA2 NU2 ME2 BA2 ct2) = alwV k s sg NA NU ME BA k2 s2 sg2 NA2 NU2 ME2 BA2 := by
  intro h
  obtain ⟨hM, hk, hk2, hcan⟩ := is_iff.1 h
  obtain ⟨hl1, hm1⟩ := okV_me hk
  obtain ⟨hl2, hm2⟩ := okV_me hk2
  have hn := can_num hcan
  have hnk : numE k2 = true → numK k2 = true := fun h => by
    unfold numE at h
    unfold numK
    cases h1 : (k2 == 1) <;> cases h3 : (k2 == 3) <;> rw [h1, h3] at h <;> first | rfl | cases h
  have hr : numE k = false → (k == 5) = false → ∀ y : List TC, y ∈ ME2 → memNo ME (nth y 0).str = false → qi_rc (nth (row ME ((memIx ME (nth y 0).str : Nat) : Int)) 2).int (nth (row ME ((memIx ME (nth y 0).str : Nat) : Int)) 3).int (nth (row ME ((memIx ME (nth y 0).str : Nat) : Int)) 4).bool (nth (row ME ((memIx ME (nth y 0).str : Nat) : Int)) 5).bool (nth (row ME ((memIx ME (nth y 0).str : Nat) : Int)) 6).list (nth (row ME ((memIx ME (nth y 0).str : Nat) : Int)) 7).list (nth (row ME ((memIx ME (nth y 0).str : Nat) : Int)) 8).list (nth (row ME ((memIx ME (nth y 0).str : Nat) : Int)) 9).list (nth (row ME ((memIx ME (nth y 0).str : Nat) : Int)) 10).int (nth y 2).int (nth y 3).int (nth y 4).bool (nth y 5).bool (nth y 6).list (nth y 7).list (nth y 8).list (nth y 9).list (nth y 10).int = true := fun e e5 y hy hn => is_true ⟨by have := dep_max (BA := BA2) hy 8 9; omega, hm1 _ (by rw [row_nat]; exact mem_getD (memIx_lt hn)), hm2 y hy, can_mem hcan e e5 y hy hn⟩
  have c2 : numE k = false → (k == 5) = false → qi_o14_2 k s sg bg NA NU ME BA ct k2 s2 sg2 bg2 NA2 NU2 ME2 BA2 ct2 (0 : Int) = true := fun e e5 => is_true ⟨rfl, hl1, hl2, hr e e5⟩
  have c3 : numE k = false → (k == 5) = false → qi_o14_3 k s sg bg NA NU ME BA ct k2 s2 sg2 bg2 NA2 NU2 ME2 BA2 ct2 (0 : Int) = true := fun e e5 => is_true ⟨rfl, hl1, hl2, hr e e5⟩
  unfold qi_c qi_v qi_b3_c qi_b3_v qi_b2_c qi_b2_v qi_b1_c qi_b1_v
  rw [alwV, attach_alw, show qct_v k s sg bg NA NU ME BA ct = numE k from rfl, show qi_k14_1 k s sg bg NA NU ME BA ct k2 s2 sg2 bg2 NA2 NU2 ME2 BA2 ct2 (0 : Int) = ME2.all (fun y => memNo ME (nth y 0).str || alwV (nth (row ME ((memIx ME (nth y 0).str : Nat) : Int)) 2).int (nth (row ME ((memIx ME (nth y 0).str : Nat) : Int)) 3).int (nth (row ME ((memIx ME (nth y 0).str : Nat) : Int)) 4).bool (nth (row ME ((memIx ME (nth y 0).str : Nat) : Int)) 6).list (nth (row ME ((memIx ME (nth y 0).str : Nat) : Int)) 7).list (nth (row ME ((memIx ME (nth y 0).str : Nat) : Int)) 8).list (nth (row ME ((memIx ME (nth y 0).str : Nat) : Int)) 9).list (nth y 2).int (nth y 3).int (nth y 4).bool (nth y 6).list (nth y 7).list (nth y 8).list (nth y 9).list) from allI_rows (P := fun y => memNo ME (nth y 0).str || alwV (nth (row ME ((memIx ME (nth y 0).str : Nat) : Int)) 2).int (nth (row ME ((memIx ME (nth y 0).str : Nat) : Int)) 3).int (nth (row ME ((memIx ME (nth y 0).str : Nat) : Int)) 4).bool (nth (row ME ((memIx ME (nth y 0).str : Nat) : Int)) 6).list (nth (row ME ((memIx ME (nth y 0).str : Nat) : Int)) 7).list (nth (row ME ((memIx ME (nth y 0).str : Nat) : Int)) 8).list (nth (row ME ((memIx ME (nth y 0).str : Nat) : Int)) 9).list (nth y 2).int (nth y 3).int (nth y 4).bool (nth y 6).list (nth y 7).list (nth y 8).list (nth y 9).list) (A := ME2)]
  rcases okV_kind hk with rfl | rfl | rfl | rfl | rfl | rfl
  · have r1 := (qcy_ok hk rfl).2.2
    have r2 := (qcy_ok hk2 (hnk hn)).2.2
    unfold numA
    rw [r1.1, r1.2, r2.1, r2.2]
    cases h3 : (k2 == 3) with
    | true => exact ⟨rfl, rfl⟩
    | false => cases decide ((rangeT 1 s sg NU).1 ≥ (rangeT k2 s2 sg2 NU2).1) <;> exact ⟨rfl, rfl⟩
  · exact ⟨rfl, rfl⟩
  · have r1 := (qcy_ok hk rfl).2.2
    have r2 := (qcy_ok hk2 (hnk hn)).2.2
    unfold numA
    rw [r1.1, r1.2, r2.1, r2.2]
    cases h3 : (k2 == 3) with
    | true =>
      have h3 := eq_of_beq h3
      subst h3
      obtain ⟨e1, e2, e3, -⟩ := okV_enum hk
      obtain ⟨f1, f2, f3, -⟩ := okV_enum hk2
      rw [qbk_cc (by omega) (by omega), qbk_vv]
      exact ⟨rfl, rfl⟩
    | false => cases decide ((rangeT 3 s sg NU).1 ≥ (rangeT k2 s2 sg2 NU2).1) <;> exact ⟨rfl, rfl⟩
  · rw [c2 rfl rfl, c3 rfl rfl]
    cases ME2.all (fun y => memNo ME (nth y 0).str || alwV (nth (row ME ((memIx ME (nth y 0).str : Nat) : Int)) 2).int (nth (row ME ((memIx ME (nth y 0).str : Nat) : Int)) 3).int (nth (row ME ((memIx ME (nth y 0).str : Nat) : Int)) 4).bool (nth (row ME ((memIx ME (nth y 0).str : Nat) : Int)) 6).list (nth (row ME ((memIx ME (nth y 0).str : Nat) : Int)) 7).list (nth (row ME ((memIx ME (nth y 0).str : Nat) : Int)) 8).list (nth (row ME ((memIx ME (nth y 0).str : Nat) : Int)) 9).list (nth y 2).int (nth y 3).int (nth y 4).bool (nth y 6).list (nth y 7).list (nth y 8).list (nth y 9).list) <;> exact ⟨rfl, rfl⟩
  · obtain ⟨hb, ho⟩ := okV_base hk
    obtain ⟨hct, hcb⟩ := can_base hcan
    have hk5 := can_kind hcan rfl
    subst hk5
    obtain ⟨hb2, ho2⟩ := okV_base hk2
    have hrb : qi_rc (nth (row BA (0 : Int)) 0).int (nth (row BA (0 : Int)) 1).int (nth (row BA (0 : Int)) 2).bool (nth (row BA (0 : Int)) 3).bool (nth (row BA (0 : Int)) 4).list (nth (row BA (0 : Int)) 5).list (nth (row BA (0 : Int)) 6).list (nth (row BA (0 : Int)) 7).list (nth (row BA (0 : Int)) 8).int (nth (row BA2 (0 : Int)) 0).int (nth (row BA2 (0 : Int)) 1).int (nth (row BA2 (0 : Int)) 2).bool (nth (row BA2 (0 : Int)) 3).bool (nth (row BA2 (0 : Int)) 4).list (nth (row BA2 (0 : Int)) 5).list (nth (row BA2 (0 : Int)) 6).list (nth (row BA2 (0 : Int)) 7).list (nth (row BA2 (0 : Int)) 8).int = true := is_true ⟨by have := dep_base (ME := ME2) hb2 6 7; omega, ho, ho2, hcb⟩
    rw [dif_pos hb2]
    exact ⟨andT (is_true (by constructor <;> omega)) (andT (is_true (by constructor <;> omega)) (andT hrb rfl)), rfl⟩
  · rw [c2 rfl rfl, c3 rfl rfl]
    cases ME2.all (fun y => memNo ME (nth y 0).str || alwV (nth (row ME ((memIx ME (nth y 0).str : Nat) : Int)) 2).int (nth (row ME ((memIx ME (nth y 0).str : Nat) : Int)) 3).int (nth (row ME ((memIx ME (nth y 0).str : Nat) : Int)) 4).bool (nth (row ME ((memIx ME (nth y 0).str : Nat) : Int)) 6).list (nth (row ME ((memIx ME (nth y 0).str : Nat) : Int)) 7).list (nth (row ME ((memIx ME (nth y 0).str : Nat) : Int)) 8).list (nth (row ME ((memIx ME (nth y 0).str : Nat) : Int)) 9).list (nth y 2).int (nth y 3).int (nth y 4).bool (nth y 6).list (nth y 7).list (nth y 8).list (nth y 9).list) <;> exact ⟨rfl, rfl⟩
theorem qi_nxr (k s : Int) (sg bg : Bool) (NA NU ME BA : LL) (ct k2 s2 : Int) (sg2 bg2 : Bool) (NA2 NU2 ME2 BA2 : LL) (ct2 : Int) : qi_rc (i_spec_l04Always := ⟨qi_O.n + 1⟩) k s sg bg NA NU ME BA ct k2 s2 sg2 bg2 NA2 NU2 ME2 BA2 ct2 = true → (qi_c k s sg bg NA NU ME BA ct k2 s2 sg2 bg2 NA2 NU2 ME2 BA2 ct2) = true ∧ (qi_v k s sg bg NA NU ME BA ct k2 s2 sg2 bg2 NA2 NU2 ME2 BA2 ct2) = (qi_rv k s sg bg NA NU ME BA ct k2 s2 sg2 bg2 NA2 NU2 ME2 BA2 ct2) := fun h => qi_nx k s sg bg NA NU ME BA ct k2 s2 sg2 bg2 NA2 NU2 ME2 BA2 ct2 h
theorem qi_rs : ∀ xs r, qi_rS (i_spec_l04Always := ⟨qi_O.n + 1⟩) xs = some (true, r) → runF tab FT D35 live 58 qi_lo xs = some r := by
  intro xs r h
  unfold qi_rS at h
  split at h
  · obtain ⟨h1, rfl⟩ := sp h
    have hx := qi_nxr _ _ _ _ _ _ _ _ _ _ _ _ _ _ _ _ _ _ h1
    have ht := fun_told (qi_e ..) (qi_l _ _ _ _ _ _ _ _ _ _ _ _ _ _ _ _ _ _) hx.1
    rw [hx.2] at ht
    exact ht
  · cases h
theorem qi_step : qi_G (i_spec_l04Always := ⟨qi_O.n + 1⟩) := by
  have h := DOk.also2 (S := qi_rS (i_spec_l04Always := ⟨qi_O.n + 1⟩)) mixed_ok tab_ok names_ok d34 d35 (fnLoops_one (by kernel_rfl) qi_is14) qi_rs
  refine qi_G.mk (i_spec_l04Always := ⟨qi_O.n + 1⟩) ?_
  exact h
def qcn_t (k s : Int) (sg bg : Bool) (NA NU ME BA : LL) (ct k2 s2 : Int) (sg2 bg2 : Bool) (NA2 NU2 ME2 BA2 : LL) (ct2 : Int) : Tr (Bool) := (.ite ((qcp_c k s sg bg NA NU ME BA ct k2 s2 sg2 bg2 NA2 NU2 ME2 BA2 ct2) = true) (.ite ((qcp_v k s sg bg NA NU ME BA ct k2 s2 sg2 bg2 NA2 NU2 ME2 BA2 ct2) = true) (.ite ((qi_rc k s sg bg NA NU ME BA ct k2 s2 sg2 bg2 NA2 NU2 ME2 BA2 ct2) = true) (.ok (qi_rv k s sg bg NA NU ME BA ct k2 s2 sg2 bg2 NA2 NU2 ME2 BA2 ct2))
    .no)
   (.ok false))
  .no)
def qcn_mk (p : Bool) : Res := [(false, [⟨.bool, .sh, TC.b p⟩])]
def qcn_c (k s : Int) (sg bg : Bool) (NA NU ME BA : LL) (ct k2 s2 : Int) (sg2 bg2 : Bool) (NA2 NU2 ME2 BA2 : LL) (ct2 : Int) : Bool := ((qcp_c k s sg bg NA NU ME BA ct k2 s2 sg2 bg2 NA2 NU2 ME2 BA2 ct2) && (bif (qcp_v k s sg bg NA NU ME BA ct k2 s2 sg2 bg2 NA2 NU2 ME2 BA2 ct2) then ((qi_rc k s sg bg NA NU ME BA ct k2 s2 sg2 bg2 NA2 NU2 ME2 BA2 ct2) && true) else true))
def qcn_v (k s : Int) (sg bg : Bool) (NA NU ME BA : LL) (ct k2 s2 : Int) (sg2 bg2 : Bool) (NA2 NU2 ME2 BA2 : LL) (ct2 : Int) : Bool := (bif (qcp_v k s sg bg NA NU ME BA ct k2 s2 sg2 bg2 NA2 NU2 ME2 BA2 ct2) then (qi_rv k s sg bg NA NU ME BA ct k2 s2 sg2 bg2 NA2 NU2 ME2 BA2 ct2) else false)
theorem qcn_l (k s : Int) (sg bg : Bool) (NA NU ME BA : LL) (ct k2 s2 : Int) (sg2 bg2 : Bool) (NA2 NU2 ME2 BA2 : LL) (ct2 : Int) : (qcn_c k s sg bg NA NU ME BA ct k2 s2 sg2 bg2 NA2 NU2 ME2 BA2 ct2) = true → (qcn_t k s sg bg NA NU ME BA ct k2 s2 sg2 bg2 NA2 NU2 ME2 BA2 ct2).val = some (qcn_v k s sg bg NA NU ME BA ct k2 s2 sg2 bg2 NA2 NU2 ME2 BA2 ct2) := by
  unfold qcn_t qcn_v qcn_c
  exact fun h => (Tr.gb h fun h => (Tr.ss h (fun h => (Tr.gb h fun h => rfl)) (fun h => rfl)))
def qcn_S : List Arg → Option (Bool × Res) := fun xs => match xs with
  | [(true, [(.int .i64, TC.i k), (.int .i64, TC.i s), (.bool, TC.b sg), (.bool, TC.b bg), (.slice 9, TC.l NA), (.slice 2, TC.l NU), (.slice 71, TC.l ME), (.slice 32, TC.l BA), (.int .i64, TC.i ct)]), (true, [(.int .i64, TC.i k2), (.int .i64, TC.i s2), (.bool, TC.b sg2), (.bool, TC.b bg2), (.slice 9, TC.l NA2), (.slice 2, TC.l NU2), (.slice 71, TC.l ME2), (.slice 32, TC.l BA2), (.int .i64, TC.i ct2)])] => some ((qcn_c k s sg bg NA NU ME BA ct k2 s2 sg2 bg2 NA2 NU2 ME2 BA2 ct2), qcn_mk (qcn_v k s sg bg NA NU ME BA ct k2 s2 sg2 bg2 NA2 NU2 ME2 BA2 ct2))
  | _ => .none
theorem qcn_e (k s : Int) (sg bg : Bool) (NA NU ME BA : LL) (ct k2 s2 : Int) (sg2 bg2 : Bool) (NA2 NU2 ME2 BA2 : LL) (ct2 : Int) : runF tab FT D35 live 22 noLoops [(true, [(.int .i64, TC.i k), (.int .i64, TC.i s), (.bool, TC.b sg), (.bool, TC.b bg), (.slice 9, TC.l NA), (.slice 2, TC.l NU), (.slice 71, TC.l ME), (.slice 32, TC.l BA), (.int .i64, TC.i ct)]), (true, [(.int .i64, TC.i k2), (.int .i64, TC.i s2), (.bool, TC.b sg2), (.bool, TC.b bg2), (.slice 9, TC.l NA2), (.slice 2, TC.l NU2), (.slice 71, TC.l ME2), (.slice 32, TC.l BA2), (.int .i64, TC.i ct2)])] = (qcn_t k s sg bg NA NU ME BA ct k2 s2 sg2 bg2 NA2 NU2 ME2 BA2 ct2).run fun p => some (qcn_mk p) := by kernel_rfl
theorem qcn_s : ∀ xs r, qcn_S xs = some (true, r) → runF tab FT D35 live 22 noLoops xs = some r := by
  intro xs r h
  unfold qcn_S at h
  split at h
  · obtain ⟨h1, rfl⟩ := sp h
    exact fun_told (qcn_e ..) (qcn_l _ _ _ _ _ _ _ _ _ _ _ _ _ _ _ _ _ _) h1
  · cases h
def D36 : Dt := also D35 22 qcn_S
theorem d36 : DOk Go.Proofs.Try.prog tab D36 := d35.also mixed_ok tab_ok names_ok noLoops_ok qcn_s
theorem qcn_cc {k : Int} {s : Int} {sg : Bool} {bg : Bool} {NA : LL} {NU : LL} {ME : LL} {BA : LL} {ct : Int} {k2 : Int} {s2 : Int} {sg2 : Bool} {bg2 : Bool} {NA2 : LL} {NU2 : LL} {ME2 : LL} {BA2 : LL} {ct2 : Int} (hc : qcp_c k s sg bg NA NU ME BA ct k2 s2 sg2 bg2 NA2 NU2 ME2 BA2 ct2 = true) (alw : okV k s sg bg NA NU ME BA ct = true → okV k2 s2 sg2 bg2 NA2 NU2 ME2 BA2 ct2 = true → canV k ME BA ct k2 ME2 BA2 ct2 = true → qi_rc k s sg bg NA NU ME BA ct k2 s2 sg2 bg2 NA2 NU2 ME2 BA2 ct2 = true) : (qcn_c k s sg bg NA NU ME BA ct k2 s2 sg2 bg2 NA2 NU2 ME2 BA2 ct2) = true := by
  unfold qcn_c
  refine andT (by exact hc) ?_
  refine bifT (fun b1 => ?_) (fun b1 => ?_)
  · skip
    refine andT (by obtain ⟨p1, p2, p3⟩ := can_parts ((qcp_vv k s sg bg NA NU ME BA ct k2 s2 sg2 bg2 NA2 NU2 ME2 BA2 ct2).symm.trans b1); exact alw p1 p2 p3) ?_
    rfl
  · skip
    rfl
theorem qcn_vv (k s : Int) (sg bg : Bool) (NA NU ME BA : LL) (ct : Int) (k2 s2 : Int) (sg2 bg2 : Bool) (NA2 NU2 ME2 BA2 : LL) (ct2 : Int) : qcn_v k s sg bg NA NU ME BA ct k2 s2 sg2 bg2 NA2 NU2 ME2 BA2 ct2 = bif bif okV k s sg bg NA NU ME BA ct then (bif okV k2 s2 sg2 bg2 NA2 NU2 ME2 BA2 ct2 then canV k ME BA ct k2 ME2 BA2 ct2 else false) else false then alwV k s sg NA NU ME BA k2 s2 sg2 NA2 NU2 ME2 BA2 else false := rfl
section
class qbh_O where n : Nat
variable [i_impl_Type_size : qbh_O]
def qbh_rc (k s : Int) (sg bg : Bool) (NA NU ME BA : LL) (ct : Int) : Bool := is (rowsDep BA < qbh_O.n ∧ isizeC k BA = true)
def qbh_rv (k s : Int) (sg bg : Bool) (NA NU ME BA : LL) (ct : Int) : Int := isizeV k s BA ct
def qbh_rmk (p : Int) : Res := [(false, [⟨.int .i64, .sh, TC.i p⟩])]
def qbh_rS : List Arg → Option (Bool × Res) := fun xs => match xs with
  | [(true, [(.int .i64, TC.i k), (.int .i64, TC.i s), (.bool, TC.b sg), (.bool, TC.b bg), (.slice 9, TC.l NA), (.slice 2, TC.l NU), (.slice 71, TC.l ME), (.slice 32, TC.l BA), (.int .i64, TC.i ct)])] => some ((qbh_rc k s sg bg NA NU ME BA ct), qbh_rmk (qbh_rv k s sg bg NA NU ME BA ct))
  | _ => .none
def D37 : Dt := also D36 75 qbh_rS
class qbh_G : Prop where ok : DOk Go.Proofs.Try.prog tab D37
variable [g_impl_Type_size : qbh_G]
theorem d37 : DOk Go.Proofs.Try.prog tab D37 := qbh_G.ok
def qbh_t (k s : Int) (sg bg : Bool) (NA NU ME BA : LL) (ct : Int) : Tr (Int) := (.ite ((k == (3 : Int)) = true) (.ite ((0 : Int) ≤ (0 : Int) ∧ (0 : Int) < (BA.length : Int)) (.ite ((qbh_rc ((nth (row BA (0 : Int)) 0).int) ((nth (row BA (0 : Int)) 1).int) ((nth (row BA (0 : Int)) 2).bool) ((nth (row BA (0 : Int)) 3).bool) ((nth (row BA (0 : Int)) 4).list) ((nth (row BA (0 : Int)) 5).list) ((nth (row BA (0 : Int)) 6).list) ((nth (row BA (0 : Int)) 7).list) ((nth (row BA (0 : Int)) 8).int)) = true) (.ok (qbh_rv ((nth (row BA (0 : Int)) 0).int) ((nth (row BA (0 : Int)) 1).int) ((nth (row BA (0 : Int)) 2).bool) ((nth (row BA (0 : Int)) 3).bool) ((nth (row BA (0 : Int)) 4).list) ((nth (row BA (0 : Int)) 5).list) ((nth (row BA (0 : Int)) 6).list) ((nth (row BA (0 : Int)) 7).list) ((nth (row BA (0 : Int)) 8).int)))
    .no)
   .no)
  (.ite ((k == (5 : Int)) = true) (.ite ((0 : Int) ≤ (0 : Int) ∧ (0 : Int) < (BA.length : Int)) (.ite ((qbh_rc ((nth (row BA (0 : Int)) 0).int) ((nth (row BA (0 : Int)) 1).int) ((nth (row BA (0 : Int)) 2).bool) ((nth (row BA (0 : Int)) 3).bool) ((nth (row BA (0 : Int)) 4).list) ((nth (row BA (0 : Int)) 5).list) ((nth (row BA (0 : Int)) 6).list) ((nth (row BA (0 : Int)) 7).list) ((nth (row BA (0 : Int)) 8).int)) = true) (.ok (IntKind.wrap .i64 (ct * (qbh_rv ((nth (row BA (0 : Int)) 0).int) ((nth (row BA (0 : Int)) 1).int) ((nth (row BA (0 : Int)) 2).bool) ((nth (row BA (0 : Int)) 3).bool) ((nth (row BA (0 : Int)) 4).list) ((nth (row BA (0 : Int)) 5).list) ((nth (row BA (0 : Int)) 6).list) ((nth (row BA (0 : Int)) 7).list) ((nth (row BA (0 : Int)) 8).int)))))
     .no)
    .no)
   (.ok s)))
def qbh_mk (p : Int) : Res := [(false, [⟨.int .i64, .sh, TC.i p⟩])]
def qbh_c (k s : Int) (sg bg : Bool) (NA NU ME BA : LL) (ct : Int) : Bool := (bif (k == (3 : Int)) then (is ((0 : Int) ≤ (0 : Int) ∧ (0 : Int) < (BA.length : Int)) && ((qbh_rc ((nth (row BA (0 : Int)) 0).int) ((nth (row BA (0 : Int)) 1).int) ((nth (row BA (0 : Int)) 2).bool) ((nth (row BA (0 : Int)) 3).bool) ((nth (row BA (0 : Int)) 4).list) ((nth (row BA (0 : Int)) 5).list) ((nth (row BA (0 : Int)) 6).list) ((nth (row BA (0 : Int)) 7).list) ((nth (row BA (0 : Int)) 8).int)) && true)) else (bif (k == (5 : Int)) then (is ((0 : Int) ≤ (0 : Int) ∧ (0 : Int) < (BA.length : Int)) && ((qbh_rc ((nth (row BA (0 : Int)) 0).int) ((nth (row BA (0 : Int)) 1).int) ((nth (row BA (0 : Int)) 2).bool) ((nth (row BA (0 : Int)) 3).bool) ((nth (row BA (0 : Int)) 4).list) ((nth (row BA (0 : Int)) 5).list) ((nth (row BA (0 : Int)) 6).list) ((nth (row BA (0 : Int)) 7).list) ((nth (row BA (0 : Int)) 8).int)) && true)) else true))
def qbh_v (k s : Int) (sg bg : Bool) (NA NU ME BA : LL) (ct : Int) : Int := (bif (k == (3 : Int)) then (qbh_rv ((nth (row BA (0 : Int)) 0).int) ((nth (row BA (0 : Int)) 1).int) ((nth (row BA (0 : Int)) 2).bool) ((nth (row BA (0 : Int)) 3).bool) ((nth (row BA (0 : Int)) 4).list) ((nth (row BA (0 : Int)) 5).list) ((nth (row BA (0 : Int)) 6).list) ((nth (row BA (0 : Int)) 7).list) ((nth (row BA (0 : Int)) 8).int)) else (bif (k == (5 : Int)) then (IntKind.wrap .i64 (ct * (qbh_rv ((nth (row BA (0 : Int)) 0).int) ((nth (row BA (0 : Int)) 1).int) ((nth (row BA (0 : Int)) 2).bool) ((nth (row BA (0 : Int)) 3).bool) ((nth (row BA (0 : Int)) 4).list) ((nth (row BA (0 : Int)) 5).list) ((nth (row BA (0 : Int)) 6).list) ((nth (row BA (0 : Int)) 7).list) ((nth (row BA (0 : Int)) 8).int)))) else s))
theorem qbh_l (k s : Int) (sg bg : Bool) (NA NU ME BA : LL) (ct : Int) : (qbh_c k s sg bg NA NU ME BA ct) = true → (qbh_t k s sg bg NA NU ME BA ct).val = some (qbh_v k s sg bg NA NU ME BA ct) := by
  unfold qbh_t qbh_v qbh_c
  exact fun h => (Tr.ss h (fun h => (Tr.gs h fun h => (Tr.gb h fun h => rfl))) (fun h => (Tr.ss h (fun h => (Tr.gs h fun h => (Tr.gb h fun h => rfl))) (fun h => rfl))))
theorem qbh_e (k s : Int) (sg bg : Bool) (NA NU ME BA : LL) (ct : Int) : runF tab FT D37 live 75 noLoops [(true, [(.int .i64, TC.i k), (.int .i64, TC.i s), (.bool, TC.b sg), (.bool, TC.b bg), (.slice 9, TC.l NA), (.slice 2, TC.l NU), (.slice 71, TC.l ME), (.slice 32, TC.l BA), (.int .i64, TC.i ct)])] = (qbh_t k s sg bg NA NU ME BA ct).run fun p => some (qbh_mk p) := by kernel_rfl
theorem qbh_nx (k s : Int) (sg bg : Bool) (NA NU ME BA : LL) (ct : Int) : is (rowsDep BA < qbh_O.n + 1 ∧ isizeC k BA = true) = true → (qbh_c k s sg bg NA NU ME BA ct) = true ∧ (qbh_v k s sg bg NA NU ME BA ct) = isizeV k s BA ct := by
  intro h
  obtain ⟨hM, hC⟩ := is_iff.1 h
  unfold qbh_c qbh_v
  rw [isizeC] at hC
  rw [isizeV]
  cases h3 : (k == 3) with
  | true =>
    simp only [h3, Bool.true_or, cond_true] at hC ⊢
    split at hC
    · rename_i hb
      rw [dif_pos hb]
      have := pos_row hb 7
      exact ⟨andT (is_true (by constructor <;> omega)) (andT (is_true ⟨by omega, hC⟩) rfl), rfl⟩
    · cases hC
  | false =>
    cases h5 : (k == 5) with
    | true =>
      simp only [h3, h5, Bool.false_or, cond_true, cond_false] at hC ⊢
      split at hC
      · rename_i hb
        rw [dif_pos hb]
        have := pos_row hb 7
        exact ⟨andT (is_true (by constructor <;> omega)) (andT (is_true ⟨by omega, hC⟩) rfl), rfl⟩
      · cases hC
    | false => exact ⟨rfl, rfl⟩
theorem qbh_nxr (k s : Int) (sg bg : Bool) (NA NU ME BA : LL) (ct : Int) : qbh_rc (i_impl_Type_size := ⟨qbh_O.n + 1⟩) k s sg bg NA NU ME BA ct = true → (qbh_c k s sg bg NA NU ME BA ct) = true ∧ (qbh_v k s sg bg NA NU ME BA ct) = (qbh_rv k s sg bg NA NU ME BA ct) := fun h => qbh_nx k s sg bg NA NU ME BA ct h
theorem qbh_rs : ∀ xs r, qbh_rS (i_impl_Type_size := ⟨qbh_O.n + 1⟩) xs = some (true, r) → runF tab FT D37 live 75 noLoops xs = some r := by
  intro xs r h
  unfold qbh_rS at h
  split at h
  · obtain ⟨h1, rfl⟩ := sp h
    have hx := qbh_nxr _ _ _ _ _ _ _ _ _ h1
    have ht := fun_told (qbh_e ..) (qbh_l _ _ _ _ _ _ _ _ _) hx.1
    rw [hx.2] at ht
    exact ht
  · cases h
theorem qbh_step : qbh_G (i_impl_Type_size := ⟨qbh_O.n + 1⟩) := by
  have h := DOk.also2 (S := qbh_rS (i_impl_Type_size := ⟨qbh_O.n + 1⟩)) mixed_ok tab_ok names_ok d36 d37 noLoops_ok qbh_rs
  refine qbh_G.mk (i_impl_Type_size := ⟨qbh_O.n + 1⟩) ?_
  exact h
def qcb_t (a0 a1 : Int) (a2 a3 : Bool) (a4 a5 a6 a7 : LL) (a8 : Int) : Tr (Int × Int × Bool × Bool × LL × LL × LL × LL × Int) := (.ite ((a0 == (1 : Int)) = true) (.ok (a0, a1, a2, a3, [], [], [], [], (0 : Int)))
  (.ite ((a0 == (2 : Int)) = true) (.ok (a0, a1, false, false, [], [], [], [], (0 : Int)))
   (.ite ((a0 == (6 : Int)) = true) (.ok (a0, a1, false, false, [], [], [], [], (0 : Int)))
    (.ite ((a0 == (3 : Int)) = true) (.ok (a0, (0 : Int), false, false, a4, a5, [], a7, (0 : Int)))
     (.ite ((a0 == (4 : Int)) = true) (.ok (a0, a1, false, false, [], [], a6, [], (0 : Int)))
      (.ite ((a0 == (5 : Int)) = true) (.ok (a0, (0 : Int), false, false, [], [], [], a7, a8))
       (.ok (a0, (0 : Int), false, false, [], [], [], [], (0 : Int)))))))))
def qcb_mk (p : Int × Int × Bool × Bool × LL × LL × LL × LL × Int) : Res := [(true, [⟨.int .i64, .sh, TC.i (p.1)⟩, ⟨.int .i64, .sh, TC.i (p.2.1)⟩, ⟨.bool, .sh, TC.b (p.2.2.1)⟩, ⟨.bool, .sh, TC.b (p.2.2.2.1)⟩, ⟨.slice 9, .sh, TC.l (p.2.2.2.2.1)⟩, ⟨.slice 2, .sh, TC.l (p.2.2.2.2.2.1)⟩, ⟨.slice 71, .sh, TC.l (p.2.2.2.2.2.2.1)⟩, ⟨.slice 32, .sh, TC.l (p.2.2.2.2.2.2.2.1)⟩, ⟨.int .i64, .sh, TC.i (p.2.2.2.2.2.2.2.2)⟩])]
def qcb_c (a0 a1 : Int) (a2 a3 : Bool) (a4 a5 a6 a7 : LL) (a8 : Int) : Bool := true
def qcb_v (a0 a1 : Int) (a2 a3 : Bool) (a4 a5 a6 a7 : LL) (a8 : Int) : Int × Int × Bool × Bool × LL × LL × LL × LL × Int := (bif (a0 == (1 : Int)) then (a0, a1, a2, a3, [], [], [], [], (0 : Int)) else (bif (a0 == (2 : Int)) then (a0, a1, false, false, [], [], [], [], (0 : Int)) else (bif (a0 == (6 : Int)) then (a0, a1, false, false, [], [], [], [], (0 : Int)) else (bif (a0 == (3 : Int)) then (a0, (0 : Int), false, false, a4, a5, [], a7, (0 : Int)) else (bif (a0 == (4 : Int)) then (a0, a1, false, false, [], [], a6, [], (0 : Int)) else (bif (a0 == (5 : Int)) then (a0, (0 : Int), false, false, [], [], [], a7, a8) else (a0, (0 : Int), false, false, [], [], [], [], (0 : Int))))))))
theorem qcb_l (a0 a1 : Int) (a2 a3 : Bool) (a4 a5 a6 a7 : LL) (a8 : Int) : (qcb_c a0 a1 a2 a3 a4 a5 a6 a7 a8) = true → (qcb_t a0 a1 a2 a3 a4 a5 a6 a7 a8).val = some (qcb_v a0 a1 a2 a3 a4 a5 a6 a7 a8) := by
  intro h
  skip
  unfold qcb_t qcb_v
  exact (Tr.s rfl (Tr.s rfl (Tr.s rfl (Tr.s rfl (Tr.s rfl (Tr.s rfl rfl))))))
def qcb_S : List Arg → Option (Bool × Res) := fun xs => match xs with
  | [(true, [(.int .i64, TC.i a0), (.int .i64, TC.i a1), (.bool, TC.b a2), (.bool, TC.b a3), (.slice 9, TC.l a4), (.slice 2, TC.l a5), (.slice 71, TC.l a6), (.slice 32, TC.l a7), (.int .i64, TC.i a8)])] => some (true, qcb_mk (qcb_v a0 a1 a2 a3 a4 a5 a6 a7 a8))
  | _ => .none
theorem qcb_e (a0 a1 : Int) (a2 a3 : Bool) (a4 a5 a6 a7 : LL) (a8 : Int) : runF tab FT D37 live 103 noLoops [(true, [(.int .i64, TC.i a0), (.int .i64, TC.i a1), (.bool, TC.b a2), (.bool, TC.b a3), (.slice 9, TC.l a4), (.slice 2, TC.l a5), (.slice 71, TC.l a6), (.slice 32, TC.l a7), (.int .i64, TC.i a8)])] = (qcb_t a0 a1 a2 a3 a4 a5 a6 a7 a8).run fun p => some (qcb_mk p) := by kernel_rfl
theorem qcb_s : ∀ xs r, qcb_S xs = some (true, r) → runF tab FT D37 live 103 noLoops xs = some r := by
  intro xs r h
  unfold qcb_S at h
  split at h
  · obtain ⟨h1, rfl⟩ := sp h
    exact fun_told (qcb_e ..) (qcb_l _ _ _ _ _ _ _ _ _) rfl
  · cases h
def D38 : Dt := also D37 103 qcb_S
theorem d38 : DOk Go.Proofs.Try.prog tab D38 := d37.also mixed_ok tab_ok names_ok noLoops_ok qcb_s
def E_9 (x y : List TC) : Bool := ((nth x 0).str == (nth y 0).str)
abbrev qt_4_σ := LL × LL × Int × Int
abbrev qt_4_ω := (Unit) ⊕ (Unit)
def qt_4_step (A C : LL) (m i : Int) : Tr (qt_4_σ ⊕ qt_4_ω) := (.ite ((decide (i < m)) = true) (.ite ((0 : Int) ≤ i ∧ i < (A.length : Int)) (.ite ((0 : Int) ≤ i ∧ i < (C.length : Int)) (.ite ((!((nth (row A i) 0).str == (nth (row C i) 0).str)) = true) (.ok (.inr (.inl ())))
     (.ok (.inl (A, C, m, (IntKind.wrap .i64 (i + (1 : Int)))))))
    .no)
   .no)
  (.ok (.inr (.inr ()))))
def qt_4_st : qt_4_σ → Tr (qt_4_σ ⊕ qt_4_ω) := fun x => (qt_4_step (x.1) (x.2.1) (x.2.2.1) (x.2.2.2))
def qt_k4_1 (A C : LL) (m i : Int) : Bool := allEq E_9 A C
def qt_o4_2 (A C : LL) (m i : Int) : Bool := is (A.length = C.length ∧ i = 0 ∧ Typed tab (.slice 9) (.l A) ∧ m = (A.length : Int))
def qt_o4_3 (A C : LL) (m i : Int) : Bool := is (A.length = C.length ∧ i = 0 ∧ Typed tab (.slice 9) (.l A) ∧ m = (A.length : Int))
def qt_4_fin (A C : LL) (m i : Int) : Told qt_4_ω := (.br (qt_k4_1 A C m i) (.leaf (qt_o4_2 A C m i) (.inr ())) (.leaf (qt_o4_3 A C m i) (.inl ())))
def qt_4_sl (x : qt_4_σ) : List Slot := [⟨.val false [⟨.slice 9, .sh, TC.l (x.1)⟩], ⟨0, 0⟩⟩, ⟨.val false [⟨.slice 9, .sh, TC.l (x.2.1)⟩], ⟨0, 0⟩⟩, ⟨.val false [⟨.int .i64, .sh, TC.i (x.2.2.1)⟩], ⟨0, 0⟩⟩, ⟨.val false [⟨.int .i64, .sh, TC.i (x.2.2.2)⟩], ⟨0, 0⟩⟩]
def qt_4_out : qt_4_ω → Ex × List Slot := (Sum.elim (fun x => (.ret, [⟨.val false [⟨.bool, .sh, TC.b false⟩], ⟨0, 0⟩⟩])) (fun x => (.exit 0, [Slot.none])))
def qt_lo4 : List Slot → Option (Told (Ex × List Slot)) := fun s => match s with
  | [⟨.val false [⟨.slice 9, .sh, TC.l A⟩], ⟨0, 0⟩⟩, ⟨.val false [⟨.slice 9, .sh, TC.l C⟩], ⟨0, 0⟩⟩, ⟨.val false [⟨.int .i64, .sh, TC.i m⟩], ⟨0, 0⟩⟩, ⟨.val false [⟨.int .i64, .sh, TC.i i⟩], ⟨0, 0⟩⟩] => some (((qt_4_fin A C m i)).map qt_4_out)
  | _ => .none
def qt_lo : LoopTeller := fun r s => bif Nat.beq r 4 then qt_lo4 s else .none
theorem qt_4_r (A C : LL) (m i : Int) (fuel : Nat) : rounds (rnd tab FT D38 live 131 qt_lo 0 4) leave (fuel + 1) (qt_4_sl (A, C, m, i)) = ((qt_4_step A C m i)).run (goOn (fun s => rounds (rnd tab FT D38 live 131 qt_lo 0 4) leave fuel (qt_4_sl s)) fun w => some (qt_4_out w)) := by kernel_rfl
theorem qt_4_h (A C : LL) (m i : Int) (ow : qt_4_ω) : ((qt_4_fin A C m i)).val = some ow → ∃ fuel, loopN qt_4_st fuel (A, C, m, i) = some ow := by
  intro h
  have key : A.length = C.length → Typed tab (.slice 9) (.l A) → loopN qt_4_st (A.length + 1) (A, C, (A.length : Int), 0) = some (if allEq E_9 A C = true then .inr () else .inl ()) := by
    intro hl ht
    have hlen : A.length ≤ 140737488351232 := by have := typed_room ht; simp only [show (tab 9).bytes = 16 from rfl] at this; omega
    refine loopN_allEq A C E_9 (fun i => (A, C, (A.length : Int), (i : Int))) _ _ hl (fun i hi => ?_) ?_ A.length 0 (by omega)
    · show (qt_4_step A C (A.length : Int) (i : Int)).val = _
      unfold qt_4_step
      refine Tr.t (by simp; omega) ?_
      refine Tr.t (by constructor <;> omega) ?_
      refine Tr.t (by constructor <;> omega) ?_
      rw [wrap64 (i := (i : Int) + 1) (by omega) (by omega)]
      rw [Tr.val_br]
      show (if (!(E_9 (A.getD i []) (C.getD i []))) = true then _ else _) = _
      cases E_9 (A.getD i []) (C.getD i []) <;> rfl
    · show (qt_4_step A C (A.length : Int) (A.length : Int)).val = _
      refine Tr.n (by simp) ?_
      rfl
  simp only [qt_4_fin, Told.val] at h
  cases hk : allEq E_9 A C with
  | true =>
    rw [if_pos (show qt_k4_1 A C m i = true from hk)] at h
    split at h
    · rename_i ho
      obtain ⟨hl, rfl, ht, rfl⟩ := is_iff.1 ho
      cases h
      refine ⟨_, (key hl ht).trans ?_⟩
      rw [hk]; rfl
    · cases h
  | false =>
    rw [if_neg (show ¬qt_k4_1 A C m i = true from by rw [show qt_k4_1 A C m i = allEq E_9 A C from rfl, hk]; simp)] at h
    split at h
    · rename_i ho
      obtain ⟨hl, rfl, ht, rfl⟩ := is_iff.1 ho
      cases h
      refine ⟨_, (key hl ht).trans ?_⟩
      rw [hk]; rfl
    · cases h
theorem qt_is4 : LoopIs tab FT D38 live 131 qt_lo 0 4 := by
  refine loop_told (sl := qt_4_sl) (step := qt_4_st) (out := qt_4_out) (lor := qt_lo4) (fin := fun x => (qt_4_fin (x.1) (x.2.1) (x.2.2.1) (x.2.2.2))) (fun _ => rfl) ?_ (fun x n => qt_4_r x.1 x.2.1 x.2.2.1 x.2.2.2 n) (fun x ow => qt_4_h x.1 x.2.1 x.2.2.1 x.2.2.2 ow)
  intro s t h
  unfold qt_lo4 at h
  split at h
  · cases h; exact ⟨(_, _, _, _), rfl, rfl⟩
  · cases h
def qt_t (A C : LL) : Tr (Bool) := (.ite ((!((A.length : Int) == (C.length : Int))) = true) (.ok false)
  (.ite ((qt_k4_1 A C (A.length : Int) (0 : Int)) = true) (.ite ((qt_o4_2 A C (A.length : Int) (0 : Int)) = true) (.ok true)
    .no)
   (.ite ((qt_o4_3 A C (A.length : Int) (0 : Int)) = true) (.ok false)
    .no)))
def qt_mk (p : Bool) : Res := [(false, [⟨.bool, .sh, TC.b p⟩])]
def qt_c (A C : LL) : Bool := is (Typed tab (.slice 9) (.l A))
def qt_v (A C : LL) : Bool := allEq E_9 A C
theorem qt_l (A C : LL) : (qt_c A C) = true → (qt_t A C).val = some (qt_v A C) := by
  intro h
  have ht := is_iff.1 h
  unfold qt_t
  by_cases hl : A.length = C.length
  · refine Tr.n (by simp [hl]) ?_
    cases hk : allEq E_9 A C with
    | true =>
      refine Tr.t (show allEq E_9 A C = true from hk) ?_
      refine Tr.t (is_true ⟨hl, rfl, ht, rfl⟩) ?_
      show _ = some (allEq E_9 A C); rw [hk]; rfl
    | false =>
      refine Tr.n (show ¬allEq E_9 A C = true from by rw [hk]; simp) ?_
      refine Tr.t (is_true ⟨hl, rfl, ht, rfl⟩) ?_
      show _ = some (allEq E_9 A C); rw [hk]; rfl
  · refine Tr.t (by simp; omega) ?_
    show _ = some (allEq E_9 A C)
    rw [allEq_ne hl]
    rfl
def qt_S : List Arg → Option (Bool × Res) := fun xs => match xs with
  | [(false, [(.slice 9, TC.l A)]), (false, [(.slice 9, TC.l C)])] => some ((qt_c A C), qt_mk (qt_v A C))
  | _ => .none
theorem qt_e (A C : LL) : runF tab FT D38 live 131 qt_lo [(false, [(.slice 9, TC.l A)]), (false, [(.slice 9, TC.l C)])] = (qt_t A C).run fun p => some (qt_mk p) := by kernel_rfl
theorem qt_s : ∀ xs r, qt_S xs = some (true, r) → runF tab FT D38 live 131 qt_lo xs = some r := by
  intro xs r h
  unfold qt_S at h
  split at h
  · obtain ⟨h1, rfl⟩ := sp h
    exact fun_told (qt_e ..) (qt_l _ _) h1
  · cases h
def D39 : Dt := also D38 131 qt_S
theorem d39 : DOk Go.Proofs.Try.prog tab D39 := d38.also mixed_ok tab_ok names_ok (fnLoops_one (by kernel_rfl) qt_is4) qt_s
def E_2 (x y : List TC) : Bool := ((nth x 0).int == (nth y 0).int)
abbrev qy_4_σ := LL × LL × Int × Int
abbrev qy_4_ω := (Unit) ⊕ (Unit)
def qy_4_step (A C : LL) (m i : Int) : Tr (qy_4_σ ⊕ qy_4_ω) := (.ite ((decide (i < m)) = true) (.ite ((0 : Int) ≤ i ∧ i < (A.length : Int)) (.ite ((0 : Int) ≤ i ∧ i < (C.length : Int)) (.ite ((!((nth (row A i) 0).int == (nth (row C i) 0).int)) = true) (.ok (.inr (.inl ())))
     (.ok (.inl (A, C, m, (IntKind.wrap .i64 (i + (1 : Int)))))))
    .no)
   .no)
  (.ok (.inr (.inr ()))))
def qy_4_st : qy_4_σ → Tr (qy_4_σ ⊕ qy_4_ω) := fun x => (qy_4_step (x.1) (x.2.1) (x.2.2.1) (x.2.2.2))
def qy_k4_1 (A C : LL) (m i : Int) : Bool := allEq E_2 A C
def qy_o4_2 (A C : LL) (m i : Int) : Bool := is (A.length = C.length ∧ i = 0 ∧ Typed tab (.slice 2) (.l A) ∧ m = (A.length : Int))
def qy_o4_3 (A C : LL) (m i : Int) : Bool := is (A.length = C.length ∧ i = 0 ∧ Typed tab (.slice 2) (.l A) ∧ m = (A.length : Int))
def qy_4_fin (A C : LL) (m i : Int) : Told qy_4_ω := (.br (qy_k4_1 A C m i) (.leaf (qy_o4_2 A C m i) (.inr ())) (.leaf (qy_o4_3 A C m i) (.inl ())))
def qy_4_sl (x : qy_4_σ) : List Slot := [⟨.val false [⟨.slice 2, .sh, TC.l (x.1)⟩], ⟨0, 0⟩⟩, ⟨.val false [⟨.slice 2, .sh, TC.l (x.2.1)⟩], ⟨0, 0⟩⟩, ⟨.val false [⟨.int .i64, .sh, TC.i (x.2.2.1)⟩], ⟨0, 0⟩⟩, ⟨.val false [⟨.int .i64, .sh, TC.i (x.2.2.2)⟩], ⟨0, 0⟩⟩]
def qy_4_out : qy_4_ω → Ex × List Slot := (Sum.elim (fun x => (.ret, [⟨.val false [⟨.bool, .sh, TC.b false⟩], ⟨0, 0⟩⟩])) (fun x => (.exit 0, [Slot.none])))
def qy_lo4 : List Slot → Option (Told (Ex × List Slot)) := fun s => match s with
  | [⟨.val false [⟨.slice 2, .sh, TC.l A⟩], ⟨0, 0⟩⟩, ⟨.val false [⟨.slice 2, .sh, TC.l C⟩], ⟨0, 0⟩⟩, ⟨.val false [⟨.int .i64, .sh, TC.i m⟩], ⟨0, 0⟩⟩, ⟨.val false [⟨.int .i64, .sh, TC.i i⟩], ⟨0, 0⟩⟩] => some (((qy_4_fin A C m i)).map qy_4_out)
  | _ => .none
def qy_lo : LoopTeller := fun r s => bif Nat.beq r 4 then qy_lo4 s else .none
theorem qy_4_r (A C : LL) (m i : Int) (fuel : Nat) : rounds (rnd tab FT D39 live 132 qy_lo 0 4) leave (fuel + 1) (qy_4_sl (A, C, m, i)) = ((qy_4_step A C m i)).run (goOn (fun s => rounds (rnd tab FT D39 live 132 qy_lo 0 4) leave fuel (qy_4_sl s)) fun w => some (qy_4_out w)) := by kernel_rfl
theorem qy_4_h (A C : LL) (m i : Int) (ow : qy_4_ω) : ((qy_4_fin A C m i)).val = some ow → ∃ fuel, loopN qy_4_st fuel (A, C, m, i) = some ow := by
  intro h
  have key : A.length = C.length → Typed tab (.slice 2) (.l A) → loopN qy_4_st (A.length + 1) (A, C, (A.length : Int), 0) = some (if allEq E_2 A C = true then .inr () else .inl ()) := by
    intro hl ht
    have hlen : A.length ≤ 140737488351232 := by have := typed_room ht; simp only [show (tab 2).bytes = 8 from rfl] at this; omega
    refine loopN_allEq A C E_2 (fun i => (A, C, (A.length : Int), (i : Int))) _ _ hl (fun i hi => ?_) ?_ A.length 0 (by omega)
    · show (qy_4_step A C (A.length : Int) (i : Int)).val = _
      unfold qy_4_step
      refine Tr.t (by simp; omega) ?_
      refine Tr.t (by constructor <;> omega) ?_
      refine Tr.t (by constructor <;> omega) ?_
      rw [wrap64 (i := (i : Int) + 1) (by omega) (by omega)]
      rw [Tr.val_br]
      show (if (!(E_2 (A.getD i []) (C.getD i []))) = true then _ else _) = _
      cases E_2 (A.getD i []) (C.getD i []) <;> rfl
    · show (qy_4_step A C (A.length : Int) (A.length : Int)).val = _
      refine Tr.n (by simp) ?_
      rfl
  simp only [qy_4_fin, Told.val] at h
  cases hk : allEq E_2 A C with
  | true =>
    rw [if_pos (show qy_k4_1 A C m i = true from hk)] at h
    split at h
    · rename_i ho
      obtain ⟨hl, rfl, ht, rfl⟩ := is_iff.1 ho
      cases h
      refine ⟨_, (key hl ht).trans ?_⟩
      rw [hk]; rfl
    · cases h
  | false =>
    rw [if_neg (show ¬qy_k4_1 A C m i = true from by rw [show qy_k4_1 A C m i = allEq E_2 A C from rfl, hk]; simp)] at h
    split at h
    · rename_i ho
      obtain ⟨hl, rfl, ht, rfl⟩ := is_iff.1 ho
      cases h
      refine ⟨_, (key hl ht).trans ?_⟩
      rw [hk]; rfl
    · cases h
theorem qy_is4 : LoopIs tab FT D39 live 132 qy_lo 0 4 := by
  refine loop_told (sl := qy_4_sl) (step := qy_4_st) (out := qy_4_out) (lor := qy_lo4) (fin := fun x => (qy_4_fin (x.1) (x.2.1) (x.2.2.1) (x.2.2.2))) (fun _ => rfl) ?_ (fun x n => qy_4_r x.1 x.2.1 x.2.2.1 x.2.2.2 n) (fun x ow => qy_4_h x.1 x.2.1 x.2.2.1 x.2.2.2 ow)
  intro s t h
  unfold qy_lo4 at h
  split at h
  · cases h; exact ⟨(_, _, _, _), rfl, rfl⟩
  · cases h
def qy_t (A C : LL) : Tr (Bool) := (.ite ((!((A.length : Int) == (C.length : Int))) = true) (.ok false)
  (.ite ((qy_k4_1 A C (A.length : Int) (0 : Int)) = true) (.ite ((qy_o4_2 A C (A.length : Int) (0 : Int)) = true) (.ok true)
    .no)
   (.ite ((qy_o4_3 A C (A.length : Int) (0 : Int)) = true) (.ok false)
    .no)))
def qy_mk (p : Bool) : Res := [(false, [⟨.bool, .sh, TC.b p⟩])]
def qy_c (A C : LL) : Bool := is (Typed tab (.slice 2) (.l A))
def qy_v (A C : LL) : Bool := allEq E_2 A C
theorem qy_l (A C : LL) : (qy_c A C) = true → (qy_t A C).val = some (qy_v A C) := by
  intro h
  have ht := is_iff.1 h
  unfold qy_t
  by_cases hl : A.length = C.length
  · refine Tr.n (by simp [hl]) ?_
    cases hk : allEq E_2 A C with
    | true =>
      refine Tr.t (show allEq E_2 A C = true from hk) ?_
      refine Tr.t (is_true ⟨hl, rfl, ht, rfl⟩) ?_
      show _ = some (allEq E_2 A C); rw [hk]; rfl
    | false =>
      refine Tr.n (show ¬allEq E_2 A C = true from by rw [hk]; simp) ?_
      refine Tr.t (is_true ⟨hl, rfl, ht, rfl⟩) ?_
      show _ = some (allEq E_2 A C); rw [hk]; rfl
  · refine Tr.t (by simp; omega) ?_
    show _ = some (allEq E_2 A C)
    rw [allEq_ne hl]
    rfl
def qy_S : List Arg → Option (Bool × Res) := fun xs => match xs with
  | [(false, [(.slice 2, TC.l A)]), (false, [(.slice 2, TC.l C)])] => some ((qy_c A C), qy_mk (qy_v A C))
  | _ => .none
theorem qy_e (A C : LL) : runF tab FT D39 live 132 qy_lo [(false, [(.slice 2, TC.l A)]), (false, [(.slice 2, TC.l C)])] = (qy_t A C).run fun p => some (qy_mk p) := by kernel_rfl
theorem qy_s : ∀ xs r, qy_S xs = some (true, r) → runF tab FT D39 live 132 qy_lo xs = some r := by
  intro xs r h
  unfold qy_S at h
  split at h
  · obtain ⟨h1, rfl⟩ := sp h
    exact fun_told (qy_e ..) (qy_l _ _) h1
  · cases h
def D40 : Dt := also D39 132 qy_S
theorem d40 : DOk Go.Proofs.Try.prog tab D40 := d39.also mixed_ok tab_ok names_ok (fnLoops_one (by kernel_rfl) qy_is4) qy_s
theorem form_9 {A : LL} (h : Typed tab (.slice 9) (.l A)) {x : List TC} (hx : x ∈ A) : x = [TC.s (nth x 0).str] := by
  obtain ⟨hl, hk⟩ := typed_elem h hx
  have e0 : TC.s (nth x 0).str = nth x 0 := typed_str_eq (hk 0 (by decide))
  rw [e0]
  exact row_eta hl
theorem form_2 {A : LL} (h : Typed tab (.slice 2) (.l A)) {x : List TC} (hx : x ∈ A) : x = [TC.i (nth x 0).int] := by
  obtain ⟨hl, hk⟩ := typed_elem h hx
  have e0 : TC.i (nth x 0).int = nth x 0 := typed_int_eq (hk 0 (by decide))
  rw [e0]
  exact row_eta hl
theorem form_71 {A : LL} (h : Typed tab (.slice 71) (.l A)) {x : List TC} (hx : x ∈ A) : x = [TC.s (nth x 0).str, TC.i (nth x 1).int, TC.i (nth x 2).int, TC.i (nth x 3).int, TC.b (nth x 4).bool, TC.b (nth x 5).bool, TC.l (nth x 6).list, TC.l (nth x 7).list, TC.l (nth x 8).list, TC.l (nth x 9).list, TC.i (nth x 10).int] := by
  obtain ⟨hl, hk⟩ := typed_elem h hx
  have e0 : TC.s (nth x 0).str = nth x 0 := typed_str_eq (hk 0 (by decide))
  have e1 : TC.i (nth x 1).int = nth x 1 := typed_int_eq (hk 1 (by decide))
  have e2 : TC.i (nth x 2).int = nth x 2 := typed_int_eq (hk 2 (by decide))
  have e3 : TC.i (nth x 3).int = nth x 3 := typed_int_eq (hk 3 (by decide))
  have e4 : TC.b (nth x 4).bool = nth x 4 := typed_bool_eq (hk 4 (by decide))
  have e5 : TC.b (nth x 5).bool = nth x 5 := typed_bool_eq (hk 5 (by decide))
  have e6 : TC.l (nth x 6).list = nth x 6 := typed_list_eq (hk 6 (by decide))
  have e7 : TC.l (nth x 7).list = nth x 7 := typed_list_eq (hk 7 (by decide))
  have e8 : TC.l (nth x 8).list = nth x 8 := typed_list_eq (hk 8 (by decide))
  have e9 : TC.l (nth x 9).list = nth x 9 := typed_list_eq (hk 9 (by decide))
  have e10 : TC.i (nth x 10).int = nth x 10 := typed_int_eq (hk 10 (by decide))
  rw [e0, e1, e2, e3, e4, e5, e6, e7, e8, e9, e10]
  exact row_eta hl
theorem form_32 {A : LL} (h : Typed tab (.slice 32) (.l A)) {x : List TC} (hx : x ∈ A) : x = [TC.i (nth x 0).int, TC.i (nth x 1).int, TC.b (nth x 2).bool, TC.b (nth x 3).bool, TC.l (nth x 4).list, TC.l (nth x 5).list, TC.l (nth x 6).list, TC.l (nth x 7).list, TC.i (nth x 8).int] := by
  obtain ⟨hl, hk⟩ := typed_elem h hx
  have e0 : TC.i (nth x 0).int = nth x 0 := typed_int_eq (hk 0 (by decide))
  have e1 : TC.i (nth x 1).int = nth x 1 := typed_int_eq (hk 1 (by decide))
  have e2 : TC.b (nth x 2).bool = nth x 2 := typed_bool_eq (hk 2 (by decide))
  have e3 : TC.b (nth x 3).bool = nth x 3 := typed_bool_eq (hk 3 (by decide))
  have e4 : TC.l (nth x 4).list = nth x 4 := typed_list_eq (hk 4 (by decide))
  have e5 : TC.l (nth x 5).list = nth x 5 := typed_list_eq (hk 5 (by decide))
  have e6 : TC.l (nth x 6).list = nth x 6 := typed_list_eq (hk 6 (by decide))
  have e7 : TC.l (nth x 7).list = nth x 7 := typed_list_eq (hk 7 (by decide))
  have e8 : TC.i (nth x 8).int = nth x 8 := typed_int_eq (hk 8 (by decide))
  rw [e0, e1, e2, e3, e4, e5, e6, e7, e8]
  exact row_eta hl
section
class qbm_O where n : Nat
variable [i_impl_SameType : qbm_O]
def qbm_rc (k s : Int) (sg bg : Bool) (NA NU ME BA : LL) (ct k2 s2 : Int) (sg2 bg2 : Bool) (NA2 NU2 ME2 BA2 : LL) (ct2 : Int) : Bool := is (max (rowsDep ME) (rowsDep BA) < qbm_O.n ∧ Typed tab (.slice 9) (.l NA) ∧ Typed tab (.slice 2) (.l NU) ∧ Typed tab (.slice 71) (.l ME) ∧ Typed tab (.slice 32) (.l BA) ∧ Typed tab (.slice 9) (.l NA2) ∧ Typed tab (.slice 2) (.l NU2) ∧ Typed tab (.slice 71) (.l ME2) ∧ Typed tab (.slice 32) (.l BA2))
def qbm_rv (k s : Int) (sg bg : Bool) (NA NU ME BA : LL) (ct k2 s2 : Int) (sg2 bg2 : Bool) (NA2 NU2 ME2 BA2 : LL) (ct2 : Int) : Bool := sameV k s sg bg NA NU ME BA ct k2 s2 sg2 bg2 NA2 NU2 ME2 BA2 ct2
def qbm_rmk (p : Bool) : Res := [(false, [⟨.bool, .sh, TC.b p⟩])]
def qbm_rS : List Arg → Option (Bool × Res) := fun xs => match xs with
  | [(true, [(.int .i64, TC.i k), (.int .i64, TC.i s), (.bool, TC.b sg), (.bool, TC.b bg), (.slice 9, TC.l NA), (.slice 2, TC.l NU), (.slice 71, TC.l ME), (.slice 32, TC.l BA), (.int .i64, TC.i ct)]), (true, [(.int .i64, TC.i k2), (.int .i64, TC.i s2), (.bool, TC.b sg2), (.bool, TC.b bg2), (.slice 9, TC.l NA2), (.slice 2, TC.l NU2), (.slice 71, TC.l ME2), (.slice 32, TC.l BA2), (.int .i64, TC.i ct2)])] => some ((qbm_rc k s sg bg NA NU ME BA ct k2 s2 sg2 bg2 NA2 NU2 ME2 BA2 ct2), qbm_rmk (qbm_rv k s sg bg NA NU ME BA ct k2 s2 sg2 bg2 NA2 NU2 ME2 BA2 ct2))
  | _ => .none
def D41 : Dt := also D40 102 qbm_rS
class qbm_G : Prop where ok : DOk Go.Proofs.Try.prog tab D41
variable [g_impl_SameType : qbm_G]
theorem d41 : DOk Go.Proofs.Try.prog tab D41 := qbm_G.ok
def qdd_t (a0 : BS) (a1 a2 a3 : Int) (a4 a5 : Bool) (a6 a7 a8 a9 : LL) (a10 : Int) (a11 : BS) (a12 a13 a14 : Int) (a15 a16 : Bool) (a17 a18 a19 a20 : LL) (a21 : Int) : Tr (Bool) := (.ite ((a0 == a11) = true) (.ite ((a1 == a12) = true) (.ite ((qbm_rc a2 a3 a4 a5 a6 a7 a8 a9 a10 a13 a14 a15 a16 a17 a18 a19 a20 a21) = true) (.ok (qbm_rv a2 a3 a4 a5 a6 a7 a8 a9 a10 a13 a14 a15 a16 a17 a18 a19 a20 a21))
    .no)
   (.ok false))
  (.ok false))
def qdd_mk (p : Bool) : Res := [(false, [⟨.bool, .sh, TC.b p⟩])]
def qdd_c (a0 : BS) (a1 a2 a3 : Int) (a4 a5 : Bool) (a6 a7 a8 a9 : LL) (a10 : Int) (a11 : BS) (a12 a13 a14 : Int) (a15 a16 : Bool) (a17 a18 a19 a20 : LL) (a21 : Int) : Bool := (bif (a0 == a11) then (bif (a1 == a12) then ((qbm_rc a2 a3 a4 a5 a6 a7 a8 a9 a10 a13 a14 a15 a16 a17 a18 a19 a20 a21) && true) else true) else true)
def qdd_v (a0 : BS) (a1 a2 a3 : Int) (a4 a5 : Bool) (a6 a7 a8 a9 : LL) (a10 : Int) (a11 : BS) (a12 a13 a14 : Int) (a15 a16 : Bool) (a17 a18 a19 a20 : LL) (a21 : Int) : Bool := (bif (a0 == a11) then (bif (a1 == a12) then (qbm_rv a2 a3 a4 a5 a6 a7 a8 a9 a10 a13 a14 a15 a16 a17 a18 a19 a20 a21) else false) else false)
theorem qdd_l (a0 : BS) (a1 a2 a3 : Int) (a4 a5 : Bool) (a6 a7 a8 a9 : LL) (a10 : Int) (a11 : BS) (a12 a13 a14 : Int) (a15 a16 : Bool) (a17 a18 a19 a20 : LL) (a21 : Int) : (qdd_c a0 a1 a2 a3 a4 a5 a6 a7 a8 a9 a10 a11 a12 a13 a14 a15 a16 a17 a18 a19 a20 a21) = true → (qdd_t a0 a1 a2 a3 a4 a5 a6 a7 a8 a9 a10 a11 a12 a13 a14 a15 a16 a17 a18 a19 a20 a21).val = some (qdd_v a0 a1 a2 a3 a4 a5 a6 a7 a8 a9 a10 a11 a12 a13 a14 a15 a16 a17 a18 a19 a20 a21) := by
  unfold qdd_t qdd_v qdd_c
  exact fun h => (Tr.ss h (fun h => (Tr.ss h (fun h => (Tr.gb h fun h => rfl)) (fun h => rfl))) (fun h => rfl))
end
end
end
end
end
end
end
end
end
end
end Go.Proofs.Ytdcafhfnkblfkaa.V
