/- What the functions of FnExactConvertible answer. No condition. -/
import Derived.Test.YtdcafhfnkblfkaaVFnExactConvertibleP2
namespace Go.Proofs.Ytdcafhfnkblfkaa.V
open Go
set_option maxRecDepth 100000
set_option linter.unusedVariables false
set_option linter.unusedSectionVars false
set_option linter.unusedSimpArgs false
set_option maxHeartbeats 2000000
section
variable [i_laws_szType : qbh_O]
variable [g_laws_szType : qbh_G]
section
variable [i_laws_toType : qk_O]
variable [g_laws_toType : qk_G]
section
variable [i_spec_l02Size : qt_O]
variable [g_spec_l02Size : qt_G]
section
variable [i_spec_l02Depth : qi_O]
variable [g_spec_l02Depth : qi_G]
section
variable [i_spec_l02Ok : qbk_O]
variable [g_spec_l02Ok : qbk_G]
section
variable [i_spec_l04Can : qw_O]
variable [g_spec_l04Can : qw_G]
noncomputable def qp_t (k s : Int) (sg bg : Bool) (NA NU ME BA : LL) (ct : Int) (nm : BS) : Tr (Int) := (.ite ((qp_k2_1 nm k s sg bg NA NU ME BA ct (0 : Int)) = true) (.ite ((qp_o2_2 nm k s sg bg NA NU ME BA ct (0 : Int)) = true) (.ok (-1 : Int))
   .no)
  (.ite ((qp_o2_3 nm k s sg bg NA NU ME BA ct (0 : Int)) = true) (.ok (qp_u2_3 nm k s sg bg NA NU ME BA ct (0 : Int)))
   .no))
def qp_mk (p : Int) : Res := [(false, [⟨.int .i64, .sh, TC.i p⟩])]
noncomputable def qp_c (k s : Int) (sg bg : Bool) (NA NU ME BA : LL) (ct : Int) (nm : BS) : Bool := (bif (qp_k2_1 nm k s sg bg NA NU ME BA ct (0 : Int)) then ((qp_o2_2 nm k s sg bg NA NU ME BA ct (0 : Int)) && true) else ((qp_o2_3 nm k s sg bg NA NU ME BA ct (0 : Int)) && true))
noncomputable def qp_v (k s : Int) (sg bg : Bool) (NA NU ME BA : LL) (ct : Int) (nm : BS) : Int := (bif (qp_k2_1 nm k s sg bg NA NU ME BA ct (0 : Int)) then (-1 : Int) else (qp_u2_3 nm k s sg bg NA NU ME BA ct (0 : Int)))
theorem qp_l (k s : Int) (sg bg : Bool) (NA NU ME BA : LL) (ct : Int) (nm : BS) : (qp_c k s sg bg NA NU ME BA ct nm) = true → (qp_t k s sg bg NA NU ME BA ct nm).val = some (qp_v k s sg bg NA NU ME BA ct nm) := by
  unfold qp_t qp_v qp_c
  exact fun h => (Tr.ss h (fun h => (Tr.gb h fun h => rfl)) (fun h => (Tr.gb h fun h => rfl)))
noncomputable def qp_S : List Arg → Option (Bool × Res) := fun xs => match xs with
  | [(true, [(.int .i64, TC.i k), (.int .i64, TC.i s), (.bool, TC.b sg), (.bool, TC.b bg), (.slice 9, TC.l NA), (.slice 2, TC.l NU), (.slice 71, TC.l ME), (.slice 32, TC.l BA), (.int .i64, TC.i ct)]), (false, [(.str, TC.s nm)])] => some ((qp_c k s sg bg NA NU ME BA ct nm), qp_mk (qp_v k s sg bg NA NU ME BA ct nm))
  | _ => .none
theorem qp_e (k s : Int) (sg bg : Bool) (NA NU ME BA : LL) (ct : Int) (nm : BS) : runF tab FT D28 live 79 qp_lo [(true, [(.int .i64, TC.i k), (.int .i64, TC.i s), (.bool, TC.b sg), (.bool, TC.b bg), (.slice 9, TC.l NA), (.slice 2, TC.l NU), (.slice 71, TC.l ME), (.slice 32, TC.l BA), (.int .i64, TC.i ct)]), (false, [(.str, TC.s nm)])] = (qp_t k s sg bg NA NU ME BA ct nm).run fun p => some (qp_mk p) := by kernel_rfl
theorem qp_s : ∀ xs r, qp_S xs = some (true, r) → runF tab FT D28 live 79 qp_lo xs = some r := by
  intro xs r h
  unfold qp_S at h
  split at h
  · simp only [Option.some.injEq, Prod.mk.injEq] at h
    obtain ⟨h1, rfl⟩ := h
    exact fun_told (qp_e _ _ _ _ _ _ _ _ _ _) (qp_l _ _ _ _ _ _ _ _ _ _) h1
  · cases h
noncomputable def D29 : Dt := also D28 79 qp_S
theorem d29 : DOk Go.Proofs.Try.prog tab D29 := d28.also mixed_ok tab_ok names_ok (fnLoops_one (by kernel_rfl) qp_is2) qp_s
theorem qp_cc {k : Int} {s : Int} {sg : Bool} {bg : Bool} {NA : LL} {NU : LL} {ME : LL} {BA : LL} {ct : Int} {nm : BS} (hl : ME.length ≤ 140737488351232) : (qp_c k s sg bg NA NU ME BA ct nm) = true := by
  unfold qp_c
  refine bifT (fun b1 => ?_) (fun b1 => ?_)
  · skip
    refine andT (by exact is_true ⟨rfl, hl⟩) ?_
    rfl
  · skip
    refine andT (by exact is_true ⟨rfl, hl⟩) ?_
    rfl
theorem qp_vv (k s : Int) (sg bg : Bool) (NA NU ME BA : LL) (ct : Int) (nm : BS) : qp_v k s sg bg NA NU ME BA ct nm = bif memNo ME nm then -1 else ((memIx ME nm : Nat) : Int) := rfl
abbrev qw_8_σ := Int × Int × Bool × Bool × LL × LL × LL × LL × Int × Int × Int × Bool × Bool × LL × LL × LL × LL × Int × Int
abbrev qw_8_ω := (Unit) ⊕ (Unit)
noncomputable def qw_8_step (k s : Int) (sg bg : Bool) (NA NU ME BA : LL) (ct k2 s2 : Int) (sg2 bg2 : Bool) (NA2 NU2 ME2 BA2 : LL) (ct2 i : Int) : Tr (qw_8_σ ⊕ qw_8_ω) := (.ite ((decide (i < (ME2.length : Int))) = true) (.ite ((0 : Int) ≤ i ∧ i < (ME2.length : Int)) (.ite ((qp_c k s sg bg NA NU ME BA ct ((nth (row ME2 i) 0).str)) = true) (.ite ((decide ((qp_v k s sg bg NA NU ME BA ct ((nth (row ME2 i) 0).str)) ≥ (0 : Int))) = true) (.ite ((0 : Int) ≤ (qp_v k s sg bg NA NU ME BA ct ((nth (row ME2 i) 0).str)) ∧ (qp_v k s sg bg NA NU ME BA ct ((nth (row ME2 i) 0).str)) < (ME.length : Int)) (.ite ((0 : Int) ≤ i ∧ i < (ME2.length : Int)) (.ite ((qw_rc ((nth (row ME (qp_v k s sg bg NA NU ME BA ct ((nth (row ME2 i) 0).str))) 2).int) ((nth (row ME (qp_v k s sg bg NA NU ME BA ct ((nth (row ME2 i) 0).str))) 3).int) ((nth (row ME (qp_v k s sg bg NA NU ME BA ct ((nth (row ME2 i) 0).str))) 4).bool) ((nth (row ME (qp_v k s sg bg NA NU ME BA ct ((nth (row ME2 i) 0).str))) 5).bool) ((nth (row ME (qp_v k s sg bg NA NU ME BA ct ((nth (row ME2 i) 0).str))) 6).list) ((nth (row ME (qp_v k s sg bg NA NU ME BA ct ((nth (row ME2 i) 0).str))) 7).list) ((nth (row ME (qp_v k s sg bg NA NU ME BA ct ((nth (row ME2 i) 0).str))) 8).list) ((nth (row ME (qp_v k s sg bg NA NU ME BA ct ((nth (row ME2 i) 0).str))) 9).list) ((nth (row ME (qp_v k s sg bg NA NU ME BA ct ((nth (row ME2 i) 0).str))) 10).int) ((nth (row ME2 i) 2).int) ((nth (row ME2 i) 3).int) ((nth (row ME2 i) 4).bool) ((nth (row ME2 i) 5).bool) ((nth (row ME2 i) 6).list) ((nth (row ME2 i) 7).list) ((nth (row ME2 i) 8).list) ((nth (row ME2 i) 9).list) ((nth (row ME2 i) 10).int)) = true) (.ite ((!(qw_rv ((nth (row ME (qp_v k s sg bg NA NU ME BA ct ((nth (row ME2 i) 0).str))) 2).int) ((nth (row ME (qp_v k s sg bg NA NU ME BA ct ((nth (row ME2 i) 0).str))) 3).int) ((nth (row ME (qp_v k s sg bg NA NU ME BA ct ((nth (row ME2 i) 0).str))) 4).bool) ((nth (row ME (qp_v k s sg bg NA NU ME BA ct ((nth (row ME2 i) 0).str))) 5).bool) ((nth (row ME (qp_v k s sg bg NA NU ME BA ct ((nth (row ME2 i) 0).str))) 6).list) ((nth (row ME (qp_v k s sg bg NA NU ME BA ct ((nth (row ME2 i) 0).str))) 7).list) ((nth (row ME (qp_v k s sg bg NA NU ME BA ct ((nth (row ME2 i) 0).str))) 8).list) ((nth (row ME (qp_v k s sg bg NA NU ME BA ct ((nth (row ME2 i) 0).str))) 9).list) ((nth (row ME (qp_v k s sg bg NA NU ME BA ct ((nth (row ME2 i) 0).str))) 10).int) ((nth (row ME2 i) 2).int) ((nth (row ME2 i) 3).int) ((nth (row ME2 i) 4).bool) ((nth (row ME2 i) 5).bool) ((nth (row ME2 i) 6).list) ((nth (row ME2 i) 7).list) ((nth (row ME2 i) 8).list) ((nth (row ME2 i) 9).list) ((nth (row ME2 i) 10).int))) = true) (.ok (.inr (.inl ())))
         (.ok (.inl (k, s, sg, bg, NA, NU, ME, BA, ct, k2, s2, sg2, bg2, NA2, NU2, ME2, BA2, ct2, (IntKind.wrap .i64 (i + (1 : Int)))))))
        .no)
       .no)
      .no)
     (.ok (.inl (k, s, sg, bg, NA, NU, ME, BA, ct, k2, s2, sg2, bg2, NA2, NU2, ME2, BA2, ct2, (IntKind.wrap .i64 (i + (1 : Int)))))))
    .no)
   .no)
  (.ok (.inr (.inr ()))))
noncomputable def qw_8_st : qw_8_σ → Tr (qw_8_σ ⊕ qw_8_ω) := fun x => (qw_8_step (x.1) (x.2.1) (x.2.2.1) (x.2.2.2.1) (x.2.2.2.2.1) (x.2.2.2.2.2.1) (x.2.2.2.2.2.2.1) (x.2.2.2.2.2.2.2.1) (x.2.2.2.2.2.2.2.2.1) (x.2.2.2.2.2.2.2.2.2.1) (x.2.2.2.2.2.2.2.2.2.2.1) (x.2.2.2.2.2.2.2.2.2.2.2.1) (x.2.2.2.2.2.2.2.2.2.2.2.2.1) (x.2.2.2.2.2.2.2.2.2.2.2.2.2.1) (x.2.2.2.2.2.2.2.2.2.2.2.2.2.2.1) (x.2.2.2.2.2.2.2.2.2.2.2.2.2.2.2.1) (x.2.2.2.2.2.2.2.2.2.2.2.2.2.2.2.2.1) (x.2.2.2.2.2.2.2.2.2.2.2.2.2.2.2.2.2.1) (x.2.2.2.2.2.2.2.2.2.2.2.2.2.2.2.2.2.2))
noncomputable def qw_k8_1 (k s : Int) (sg bg : Bool) (NA NU ME BA : LL) (ct k2 s2 : Int) (sg2 bg2 : Bool) (NA2 NU2 ME2 BA2 : LL) (ct2 i : Int) : Bool := allI (fun j : Nat => (memNo ME (nth (row ME2 (j : Int)) 0).str || canV (nth (row ME ((memIx ME (nth (row ME2 (j : Int)) 0).str : Nat) : Int)) 2).int (nth (row ME ((memIx ME (nth (row ME2 (j : Int)) 0).str : Nat) : Int)) 8).list (nth (row ME ((memIx ME (nth (row ME2 (j : Int)) 0).str : Nat) : Int)) 9).list (nth (row ME ((memIx ME (nth (row ME2 (j : Int)) 0).str : Nat) : Int)) 10).int (nth (row ME2 (j : Int)) 2).int (nth (row ME2 (j : Int)) 8).list (nth (row ME2 (j : Int)) 9).list (nth (row ME2 (j : Int)) 10).int)) (ME2.length)
noncomputable def qw_o8_2 (k s : Int) (sg bg : Bool) (NA NU ME BA : LL) (ct k2 s2 : Int) (sg2 bg2 : Bool) (NA2 NU2 ME2 BA2 : LL) (ct2 i : Int) : Bool := is (i = 0 ∧ (ME.length ≤ 4 ∧ ME2.length ≤ 4 ∧ (∀ y : List TC, y ∈ ME2 → memNo ME (nth y 0).str = false → qw_rc (nth (row ME ((memIx ME (nth y 0).str : Nat) : Int)) 2).int (nth (row ME ((memIx ME (nth y 0).str : Nat) : Int)) 3).int (nth (row ME ((memIx ME (nth y 0).str : Nat) : Int)) 4).bool (nth (row ME ((memIx ME (nth y 0).str : Nat) : Int)) 5).bool (nth (row ME ((memIx ME (nth y 0).str : Nat) : Int)) 6).list (nth (row ME ((memIx ME (nth y 0).str : Nat) : Int)) 7).list (nth (row ME ((memIx ME (nth y 0).str : Nat) : Int)) 8).list (nth (row ME ((memIx ME (nth y 0).str : Nat) : Int)) 9).list (nth (row ME ((memIx ME (nth y 0).str : Nat) : Int)) 10).int (nth y 2).int (nth y 3).int (nth y 4).bool (nth y 5).bool (nth y 6).list (nth y 7).list (nth y 8).list (nth y 9).list (nth y 10).int = true)))
noncomputable def qw_o8_3 (k s : Int) (sg bg : Bool) (NA NU ME BA : LL) (ct k2 s2 : Int) (sg2 bg2 : Bool) (NA2 NU2 ME2 BA2 : LL) (ct2 i : Int) : Bool := is (i = 0 ∧ (ME.length ≤ 4 ∧ ME2.length ≤ 4 ∧ (∀ y : List TC, y ∈ ME2 → memNo ME (nth y 0).str = false → qw_rc (nth (row ME ((memIx ME (nth y 0).str : Nat) : Int)) 2).int (nth (row ME ((memIx ME (nth y 0).str : Nat) : Int)) 3).int (nth (row ME ((memIx ME (nth y 0).str : Nat) : Int)) 4).bool (nth (row ME ((memIx ME (nth y 0).str : Nat) : Int)) 5).bool (nth (row ME ((memIx ME (nth y 0).str : Nat) : Int)) 6).list (nth (row ME ((memIx ME (nth y 0).str : Nat) : Int)) 7).list (nth (row ME ((memIx ME (nth y 0).str : Nat) : Int)) 8).list (nth (row ME ((memIx ME (nth y 0).str : Nat) : Int)) 9).list (nth (row ME ((memIx ME (nth y 0).str : Nat) : Int)) 10).int (nth y 2).int (nth y 3).int (nth y 4).bool (nth y 5).bool (nth y 6).list (nth y 7).list (nth y 8).list (nth y 9).list (nth y 10).int = true)))
noncomputable def qw_8_fin (k s : Int) (sg bg : Bool) (NA NU ME BA : LL) (ct k2 s2 : Int) (sg2 bg2 : Bool) (NA2 NU2 ME2 BA2 : LL) (ct2 i : Int) : Told qw_8_ω := (.br (qw_k8_1 k s sg bg NA NU ME BA ct k2 s2 sg2 bg2 NA2 NU2 ME2 BA2 ct2 i) (.leaf (qw_o8_2 k s sg bg NA NU ME BA ct k2 s2 sg2 bg2 NA2 NU2 ME2 BA2 ct2 i) (.inr ())) (.leaf (qw_o8_3 k s sg bg NA NU ME BA ct k2 s2 sg2 bg2 NA2 NU2 ME2 BA2 ct2 i) (.inl ())))
def qw_8_sl (x : qw_8_σ) : List Slot := [⟨.bx 32 [⟨.int .i64, .sh, TC.i (x.1)⟩, ⟨.int .i64, .sh, TC.i (x.2.1)⟩, ⟨.bool, .sh, TC.b (x.2.2.1)⟩, ⟨.bool, .sh, TC.b (x.2.2.2.1)⟩, ⟨.slice 9, .sh, TC.l (x.2.2.2.2.1)⟩, ⟨.slice 2, .sh, TC.l (x.2.2.2.2.2.1)⟩, ⟨.slice 71, .sh, TC.l (x.2.2.2.2.2.2.1)⟩, ⟨.slice 32, .sh, TC.l (x.2.2.2.2.2.2.2.1)⟩, ⟨.int .i64, .sh, TC.i (x.2.2.2.2.2.2.2.2.1)⟩], ⟨0, 0⟩⟩, ⟨.bx 32 [⟨.int .i64, .sh, TC.i (x.2.2.2.2.2.2.2.2.2.1)⟩, ⟨.int .i64, .sh, TC.i (x.2.2.2.2.2.2.2.2.2.2.1)⟩, ⟨.bool, .sh, TC.b (x.2.2.2.2.2.2.2.2.2.2.2.1)⟩, ⟨.bool, .sh, TC.b (x.2.2.2.2.2.2.2.2.2.2.2.2.1)⟩, ⟨.slice 9, .sh, TC.l (x.2.2.2.2.2.2.2.2.2.2.2.2.2.1)⟩, ⟨.slice 2, .sh, TC.l (x.2.2.2.2.2.2.2.2.2.2.2.2.2.2.1)⟩, ⟨.slice 71, .sh, TC.l (x.2.2.2.2.2.2.2.2.2.2.2.2.2.2.2.1)⟩, ⟨.slice 32, .sh, TC.l (x.2.2.2.2.2.2.2.2.2.2.2.2.2.2.2.2.1)⟩, ⟨.int .i64, .sh, TC.i (x.2.2.2.2.2.2.2.2.2.2.2.2.2.2.2.2.2.1)⟩], ⟨0, 0⟩⟩, ⟨.val false [⟨.int .i64, .sh, TC.i (x.2.2.2.2.2.2.2.2.2.2.2.2.2.2.2.2.2.2)⟩], ⟨0, 0⟩⟩]
def qw_8_out : qw_8_ω → Ex × List Slot := (Sum.elim (fun x => (.ret, [⟨.val false [⟨.bool, .sh, TC.b false⟩], ⟨0, 0⟩⟩])) (fun x => (.exit 0, [Slot.none])))
noncomputable def qw_lo8 : List Slot → Option (Told (Ex × List Slot)) := fun s => match s with
  | [⟨.bx 32 [⟨.int .i64, .sh, TC.i k⟩, ⟨.int .i64, .sh, TC.i s⟩, ⟨.bool, .sh, TC.b sg⟩, ⟨.bool, .sh, TC.b bg⟩, ⟨.slice 9, .sh, TC.l NA⟩, ⟨.slice 2, .sh, TC.l NU⟩, ⟨.slice 71, .sh, TC.l ME⟩, ⟨.slice 32, .sh, TC.l BA⟩, ⟨.int .i64, .sh, TC.i ct⟩], ⟨0, 0⟩⟩, ⟨.bx 32 [⟨.int .i64, .sh, TC.i k2⟩, ⟨.int .i64, .sh, TC.i s2⟩, ⟨.bool, .sh, TC.b sg2⟩, ⟨.bool, .sh, TC.b bg2⟩, ⟨.slice 9, .sh, TC.l NA2⟩, ⟨.slice 2, .sh, TC.l NU2⟩, ⟨.slice 71, .sh, TC.l ME2⟩, ⟨.slice 32, .sh, TC.l BA2⟩, ⟨.int .i64, .sh, TC.i ct2⟩], ⟨0, 0⟩⟩, ⟨.val false [⟨.int .i64, .sh, TC.i i⟩], ⟨0, 0⟩⟩] => some (((qw_8_fin k s sg bg NA NU ME BA ct k2 s2 sg2 bg2 NA2 NU2 ME2 BA2 ct2 i)).map qw_8_out)
  | _ => .none
noncomputable def qw_lo : LoopTeller := fun r s => bif Nat.beq r 8 then qw_lo8 s else .none
theorem qw_8_r (k s : Int) (sg bg : Bool) (NA NU ME BA : LL) (ct k2 s2 : Int) (sg2 bg2 : Bool) (NA2 NU2 ME2 BA2 : LL) (ct2 i : Int) (fuel : Nat) : rounds (rnd tab FT D29 live 50 qw_lo 0 8) leave (fuel + 1) (qw_8_sl (k, s, sg, bg, NA, NU, ME, BA, ct, k2, s2, sg2, bg2, NA2, NU2, ME2, BA2, ct2, i)) = ((qw_8_step k s sg bg NA NU ME BA ct k2 s2 sg2 bg2 NA2 NU2 ME2 BA2 ct2 i)).run (goOn (fun s => rounds (rnd tab FT D29 live 50 qw_lo 0 8) leave fuel (qw_8_sl s)) fun w => some (qw_8_out w)) := by kernel_rfl
theorem qw_8_h (k s : Int) (sg bg : Bool) (NA NU ME BA : LL) (ct k2 s2 : Int) (sg2 bg2 : Bool) (NA2 NU2 ME2 BA2 : LL) (ct2 i : Int) (ow : qw_8_ω) : ((qw_8_fin k s sg bg NA NU ME BA ct k2 s2 sg2 bg2 NA2 NU2 ME2 BA2 ct2 i)).val = some ow → ∃ fuel, loopN qw_8_st fuel (k, s, sg, bg, NA, NU, ME, BA, ct, k2, s2, sg2, bg2, NA2, NU2, ME2, BA2, ct2, i) = some ow := by
  intro h
  have key : (ME.length ≤ 4 ∧ ME2.length ≤ 4 ∧ (∀ y : List TC, y ∈ ME2 → memNo ME (nth y 0).str = false → qw_rc (nth (row ME ((memIx ME (nth y 0).str : Nat) : Int)) 2).int (nth (row ME ((memIx ME (nth y 0).str : Nat) : Int)) 3).int (nth (row ME ((memIx ME (nth y 0).str : Nat) : Int)) 4).bool (nth (row ME ((memIx ME (nth y 0).str : Nat) : Int)) 5).bool (nth (row ME ((memIx ME (nth y 0).str : Nat) : Int)) 6).list (nth (row ME ((memIx ME (nth y 0).str : Nat) : Int)) 7).list (nth (row ME ((memIx ME (nth y 0).str : Nat) : Int)) 8).list (nth (row ME ((memIx ME (nth y 0).str : Nat) : Int)) 9).list (nth (row ME ((memIx ME (nth y 0).str : Nat) : Int)) 10).int (nth y 2).int (nth y 3).int (nth y 4).bool (nth y 5).bool (nth y 6).list (nth y 7).list (nth y 8).list (nth y 9).list (nth y 10).int = true)) → loopN qw_8_st ((ME2.length) + 1) (k, s, sg, bg, NA, NU, ME, BA, ct, k2, s2, sg2, bg2, NA2, NU2, ME2, BA2, ct2, (0 : Int)) = some (if allI (fun j : Nat => (memNo ME (nth (row ME2 (j : Int)) 0).str || canV (nth (row ME ((memIx ME (nth (row ME2 (j : Int)) 0).str : Nat) : Int)) 2).int (nth (row ME ((memIx ME (nth (row ME2 (j : Int)) 0).str : Nat) : Int)) 8).list (nth (row ME ((memIx ME (nth (row ME2 (j : Int)) 0).str : Nat) : Int)) 9).list (nth (row ME ((memIx ME (nth (row ME2 (j : Int)) 0).str : Nat) : Int)) 10).int (nth (row ME2 (j : Int)) 2).int (nth (row ME2 (j : Int)) 8).list (nth (row ME2 (j : Int)) 9).list (nth (row ME2 (j : Int)) 10).int)) (ME2.length) = true then (.inr ()) else (.inl ())) := by
    intro ht
    obtain ⟨hl1, hl2, hr⟩ := ht
    have key := loopN_scanI (step := qw_8_st) (ME2.length) (fun j : Nat => (memNo ME (nth (row ME2 (j : Int)) 0).str || canV (nth (row ME ((memIx ME (nth (row ME2 (j : Int)) 0).str : Nat) : Int)) 2).int (nth (row ME ((memIx ME (nth (row ME2 (j : Int)) 0).str : Nat) : Int)) 8).list (nth (row ME ((memIx ME (nth (row ME2 (j : Int)) 0).str : Nat) : Int)) 9).list (nth (row ME ((memIx ME (nth (row ME2 (j : Int)) 0).str : Nat) : Int)) 10).int (nth (row ME2 (j : Int)) 2).int (nth (row ME2 (j : Int)) 8).list (nth (row ME2 (j : Int)) 9).list (nth (row ME2 (j : Int)) 10).int)) (fun _ a => a) (fun i a => (k, s, sg, bg, NA, NU, ME, BA, ct, k2, s2, sg2, bg2, NA2, NU2, ME2, BA2, ct2, (i : Int))) (fun a => (.inr ())) (fun i a => (.inl ())) (fun i a hi => ?_) (fun a => ?_) ()
    · first | exact key
    · skip
      show (qw_8_step k s sg bg NA NU ME BA ct k2 s2 sg2 bg2 NA2 NU2 ME2 BA2 ct2 (i : Int)).val = _
      unfold qw_8_step
      refine Tr.t (by simp; omega) ?_
      skip
      have hx : (row ME2 (i : Int)) ∈ ME2 := by rw [row_nat]; exact mem_getD hi
      refine Tr.t (by constructor <;> omega) (Tr.t (qp_cc (by omega)) ?_)
      rw [qp_vv]
      cases hm : memNo ME (nth (row ME2 (i : Int)) 0).str with
      | true =>
        refine Tr.n (by simp) ?_
        rw [Tr.val_ok, wrap64 (by omega) (by omega)]
        rfl
      | false =>
        have hlt := memIx_lt hm
        rw [show (bif false then (-1 : Int) else ((memIx ME (nth (row ME2 (i : Int)) 0).str : Nat) : Int)) = ((memIx ME (nth (row ME2 (i : Int)) 0).str : Nat) : Int) from rfl]
        refine Tr.t (by simp) (Tr.t ⟨by omega, by omega⟩ (Tr.t (by constructor <;> omega) (Tr.t (hr _ hx hm) ?_)))
        rw [show qw_rv (nth (row ME ((memIx ME (nth (row ME2 (i : Int)) 0).str : Nat) : Int)) 2).int (nth (row ME ((memIx ME (nth (row ME2 (i : Int)) 0).str : Nat) : Int)) 3).int (nth (row ME ((memIx ME (nth (row ME2 (i : Int)) 0).str : Nat) : Int)) 4).bool (nth (row ME ((memIx ME (nth (row ME2 (i : Int)) 0).str : Nat) : Int)) 5).bool (nth (row ME ((memIx ME (nth (row ME2 (i : Int)) 0).str : Nat) : Int)) 6).list (nth (row ME ((memIx ME (nth (row ME2 (i : Int)) 0).str : Nat) : Int)) 7).list (nth (row ME ((memIx ME (nth (row ME2 (i : Int)) 0).str : Nat) : Int)) 8).list (nth (row ME ((memIx ME (nth (row ME2 (i : Int)) 0).str : Nat) : Int)) 9).list (nth (row ME ((memIx ME (nth (row ME2 (i : Int)) 0).str : Nat) : Int)) 10).int (nth (row ME2 (i : Int)) 2).int (nth (row ME2 (i : Int)) 3).int (nth (row ME2 (i : Int)) 4).bool (nth (row ME2 (i : Int)) 5).bool (nth (row ME2 (i : Int)) 6).list (nth (row ME2 (i : Int)) 7).list (nth (row ME2 (i : Int)) 8).list (nth (row ME2 (i : Int)) 9).list (nth (row ME2 (i : Int)) 10).int = canV (nth (row ME ((memIx ME (nth (row ME2 (i : Int)) 0).str : Nat) : Int)) 2).int (nth (row ME ((memIx ME (nth (row ME2 (i : Int)) 0).str : Nat) : Int)) 8).list (nth (row ME ((memIx ME (nth (row ME2 (i : Int)) 0).str : Nat) : Int)) 9).list (nth (row ME ((memIx ME (nth (row ME2 (i : Int)) 0).str : Nat) : Int)) 10).int (nth (row ME2 (i : Int)) 2).int (nth (row ME2 (i : Int)) 8).list (nth (row ME2 (i : Int)) 9).list (nth (row ME2 (i : Int)) 10).int from rfl]
        cases hc : canV (nth (row ME ((memIx ME (nth (row ME2 (i : Int)) 0).str : Nat) : Int)) 2).int (nth (row ME ((memIx ME (nth (row ME2 (i : Int)) 0).str : Nat) : Int)) 8).list (nth (row ME ((memIx ME (nth (row ME2 (i : Int)) 0).str : Nat) : Int)) 9).list (nth (row ME ((memIx ME (nth (row ME2 (i : Int)) 0).str : Nat) : Int)) 10).int (nth (row ME2 (i : Int)) 2).int (nth (row ME2 (i : Int)) 8).list (nth (row ME2 (i : Int)) 9).list (nth (row ME2 (i : Int)) 10).int with
        | true =>
          refine Tr.n (by simp) ?_
          rw [Tr.val_ok, wrap64 (by omega) (by omega)]
          rfl
        | false => exact Tr.t rfl rfl
    · show (qw_8_step k s sg bg NA NU ME BA ct k2 s2 sg2 bg2 NA2 NU2 ME2 BA2 ct2 (ME2.length : Int)).val = _
      refine Tr.n (by first | (simp; done) | (simp; omega)) ?_
      rfl
  simp only [qw_8_fin, Told.val] at h
  cases hk : allI (fun j : Nat => (memNo ME (nth (row ME2 (j : Int)) 0).str || canV (nth (row ME ((memIx ME (nth (row ME2 (j : Int)) 0).str : Nat) : Int)) 2).int (nth (row ME ((memIx ME (nth (row ME2 (j : Int)) 0).str : Nat) : Int)) 8).list (nth (row ME ((memIx ME (nth (row ME2 (j : Int)) 0).str : Nat) : Int)) 9).list (nth (row ME ((memIx ME (nth (row ME2 (j : Int)) 0).str : Nat) : Int)) 10).int (nth (row ME2 (j : Int)) 2).int (nth (row ME2 (j : Int)) 8).list (nth (row ME2 (j : Int)) 9).list (nth (row ME2 (j : Int)) 10).int)) (ME2.length) with
  | true =>
    rw [if_pos (show qw_k8_1 k s sg bg NA NU ME BA ct k2 s2 sg2 bg2 NA2 NU2 ME2 BA2 ct2 i = true from hk)] at h
    split at h
    · rename_i ho
      obtain ⟨rfl, ht⟩ := is_iff.1 ho
      cases h
      refine ⟨_, (key ht).trans ?_⟩
      rw [hk]; rfl
    · cases h
  | false =>
    rw [if_neg (show ¬qw_k8_1 k s sg bg NA NU ME BA ct k2 s2 sg2 bg2 NA2 NU2 ME2 BA2 ct2 i = true from by rw [show qw_k8_1 k s sg bg NA NU ME BA ct k2 s2 sg2 bg2 NA2 NU2 ME2 BA2 ct2 i = (allI (fun j : Nat => (memNo ME (nth (row ME2 (j : Int)) 0).str || canV (nth (row ME ((memIx ME (nth (row ME2 (j : Int)) 0).str : Nat) : Int)) 2).int (nth (row ME ((memIx ME (nth (row ME2 (j : Int)) 0).str : Nat) : Int)) 8).list (nth (row ME ((memIx ME (nth (row ME2 (j : Int)) 0).str : Nat) : Int)) 9).list (nth (row ME ((memIx ME (nth (row ME2 (j : Int)) 0).str : Nat) : Int)) 10).int (nth (row ME2 (j : Int)) 2).int (nth (row ME2 (j : Int)) 8).list (nth (row ME2 (j : Int)) 9).list (nth (row ME2 (j : Int)) 10).int)) (ME2.length)) from rfl, hk]; simp)] at h
    split at h
    · rename_i ho
      obtain ⟨rfl, ht⟩ := is_iff.1 ho
      cases h
      refine ⟨_, (key ht).trans ?_⟩
      rw [hk]; rfl
    · cases h
theorem qw_is8 : LoopIs tab FT D29 live 50 qw_lo 0 8 := by
  refine loop_told (sl := qw_8_sl) (step := qw_8_st) (out := qw_8_out) (lor := qw_lo8) (fin := fun x => (qw_8_fin (x.1) (x.2.1) (x.2.2.1) (x.2.2.2.1) (x.2.2.2.2.1) (x.2.2.2.2.2.1) (x.2.2.2.2.2.2.1) (x.2.2.2.2.2.2.2.1) (x.2.2.2.2.2.2.2.2.1) (x.2.2.2.2.2.2.2.2.2.1) (x.2.2.2.2.2.2.2.2.2.2.1) (x.2.2.2.2.2.2.2.2.2.2.2.1) (x.2.2.2.2.2.2.2.2.2.2.2.2.1) (x.2.2.2.2.2.2.2.2.2.2.2.2.2.1) (x.2.2.2.2.2.2.2.2.2.2.2.2.2.2.1) (x.2.2.2.2.2.2.2.2.2.2.2.2.2.2.2.1) (x.2.2.2.2.2.2.2.2.2.2.2.2.2.2.2.2.1) (x.2.2.2.2.2.2.2.2.2.2.2.2.2.2.2.2.2.1) (x.2.2.2.2.2.2.2.2.2.2.2.2.2.2.2.2.2.2))) (fun _ => rfl) ?_ (fun x n => qw_8_r x.1 x.2.1 x.2.2.1 x.2.2.2.1 x.2.2.2.2.1 x.2.2.2.2.2.1 x.2.2.2.2.2.2.1 x.2.2.2.2.2.2.2.1 x.2.2.2.2.2.2.2.2.1 x.2.2.2.2.2.2.2.2.2.1 x.2.2.2.2.2.2.2.2.2.2.1 x.2.2.2.2.2.2.2.2.2.2.2.1 x.2.2.2.2.2.2.2.2.2.2.2.2.1 x.2.2.2.2.2.2.2.2.2.2.2.2.2.1 x.2.2.2.2.2.2.2.2.2.2.2.2.2.2.1 x.2.2.2.2.2.2.2.2.2.2.2.2.2.2.2.1 x.2.2.2.2.2.2.2.2.2.2.2.2.2.2.2.2.1 x.2.2.2.2.2.2.2.2.2.2.2.2.2.2.2.2.2.1 x.2.2.2.2.2.2.2.2.2.2.2.2.2.2.2.2.2.2 n) (fun x ow => qw_8_h x.1 x.2.1 x.2.2.1 x.2.2.2.1 x.2.2.2.2.1 x.2.2.2.2.2.1 x.2.2.2.2.2.2.1 x.2.2.2.2.2.2.2.1 x.2.2.2.2.2.2.2.2.1 x.2.2.2.2.2.2.2.2.2.1 x.2.2.2.2.2.2.2.2.2.2.1 x.2.2.2.2.2.2.2.2.2.2.2.1 x.2.2.2.2.2.2.2.2.2.2.2.2.1 x.2.2.2.2.2.2.2.2.2.2.2.2.2.1 x.2.2.2.2.2.2.2.2.2.2.2.2.2.2.1 x.2.2.2.2.2.2.2.2.2.2.2.2.2.2.2.1 x.2.2.2.2.2.2.2.2.2.2.2.2.2.2.2.2.1 x.2.2.2.2.2.2.2.2.2.2.2.2.2.2.2.2.2.1 x.2.2.2.2.2.2.2.2.2.2.2.2.2.2.2.2.2.2 ow)
  intro s t h
  unfold qw_lo8 at h
  split at h
  · cases h; exact ⟨(_, _, _, _, _, _, _, _, _, _, _, _, _, _, _, _, _, _, _), rfl, rfl⟩
  · cases h
noncomputable def qw_t (k s : Int) (sg bg : Bool) (NA NU ME BA : LL) (ct k2 s2 : Int) (sg2 bg2 : Bool) (NA2 NU2 ME2 BA2 : LL) (ct2 : Int) : Tr (Bool) := (.ite ((qcd_v k s sg bg NA NU ME BA ct) = true) (.ite ((qcd_v k s sg bg NA NU ME BA ct) = true) (.ok (qcd_v k2 s2 sg2 bg2 NA2 NU2 ME2 BA2 ct2))
   (.ok false))
  (.ite ((qcd_v k2 s2 sg2 bg2 NA2 NU2 ME2 BA2 ct2) = true) (.ite ((qcd_v k s sg bg NA NU ME BA ct) = true) (.ok (qcd_v k2 s2 sg2 bg2 NA2 NU2 ME2 BA2 ct2))
    (.ok false))
   (.ite ((!(k == k2)) = true) (.ok false)
    (.ite ((k == (5 : Int)) = true) (.ite ((ct == ct2) = true) (.ite ((0 : Int) ≤ (0 : Int) ∧ (0 : Int) < (BA.length : Int)) (.ite ((0 : Int) ≤ (0 : Int) ∧ (0 : Int) < (BA2.length : Int)) (.ite ((qw_rc ((nth (row BA (0 : Int)) 0).int) ((nth (row BA (0 : Int)) 1).int) ((nth (row BA (0 : Int)) 2).bool) ((nth (row BA (0 : Int)) 3).bool) ((nth (row BA (0 : Int)) 4).list) ((nth (row BA (0 : Int)) 5).list) ((nth (row BA (0 : Int)) 6).list) ((nth (row BA (0 : Int)) 7).list) ((nth (row BA (0 : Int)) 8).int) ((nth (row BA2 (0 : Int)) 0).int) ((nth (row BA2 (0 : Int)) 1).int) ((nth (row BA2 (0 : Int)) 2).bool) ((nth (row BA2 (0 : Int)) 3).bool) ((nth (row BA2 (0 : Int)) 4).list) ((nth (row BA2 (0 : Int)) 5).list) ((nth (row BA2 (0 : Int)) 6).list) ((nth (row BA2 (0 : Int)) 7).list) ((nth (row BA2 (0 : Int)) 8).int)) = true) (.ok (qw_rv ((nth (row BA (0 : Int)) 0).int) ((nth (row BA (0 : Int)) 1).int) ((nth (row BA (0 : Int)) 2).bool) ((nth (row BA (0 : Int)) 3).bool) ((nth (row BA (0 : Int)) 4).list) ((nth (row BA (0 : Int)) 5).list) ((nth (row BA (0 : Int)) 6).list) ((nth (row BA (0 : Int)) 7).list) ((nth (row BA (0 : Int)) 8).int) ((nth (row BA2 (0 : Int)) 0).int) ((nth (row BA2 (0 : Int)) 1).int) ((nth (row BA2 (0 : Int)) 2).bool) ((nth (row BA2 (0 : Int)) 3).bool) ((nth (row BA2 (0 : Int)) 4).list) ((nth (row BA2 (0 : Int)) 5).list) ((nth (row BA2 (0 : Int)) 6).list) ((nth (row BA2 (0 : Int)) 7).list) ((nth (row BA2 (0 : Int)) 8).int)))
         .no)
        .no)
       .no)
      (.ok false))
     (.ite ((qw_k8_1 k s sg bg NA NU ME BA ct k2 s2 sg2 bg2 NA2 NU2 ME2 BA2 ct2 (0 : Int)) = true) (.ite ((qw_o8_2 k s sg bg NA NU ME BA ct k2 s2 sg2 bg2 NA2 NU2 ME2 BA2 ct2 (0 : Int)) = true) (.ok true)
       .no)
      (.ite ((qw_o8_3 k s sg bg NA NU ME BA ct k2 s2 sg2 bg2 NA2 NU2 ME2 BA2 ct2 (0 : Int)) = true) (.ok false)
       .no))))))
def qw_mk (p : Bool) : Res := [(false, [⟨.bool, .sh, TC.b p⟩])]
noncomputable def qw_c (k s : Int) (sg bg : Bool) (NA NU ME BA : LL) (ct k2 s2 : Int) (sg2 bg2 : Bool) (NA2 NU2 ME2 BA2 : LL) (ct2 : Int) : Bool := (bif (qcd_v k s sg bg NA NU ME BA ct) then (bif (qcd_v k s sg bg NA NU ME BA ct) then true else true) else (bif (qcd_v k2 s2 sg2 bg2 NA2 NU2 ME2 BA2 ct2) then (bif (qcd_v k s sg bg NA NU ME BA ct) then true else true) else (bif (!(k == k2)) then true else (bif (k == (5 : Int)) then (bif (ct == ct2) then (is ((0 : Int) ≤ (0 : Int) ∧ (0 : Int) < (BA.length : Int)) && (is ((0 : Int) ≤ (0 : Int) ∧ (0 : Int) < (BA2.length : Int)) && ((qw_rc ((nth (row BA (0 : Int)) 0).int) ((nth (row BA (0 : Int)) 1).int) ((nth (row BA (0 : Int)) 2).bool) ((nth (row BA (0 : Int)) 3).bool) ((nth (row BA (0 : Int)) 4).list) ((nth (row BA (0 : Int)) 5).list) ((nth (row BA (0 : Int)) 6).list) ((nth (row BA (0 : Int)) 7).list) ((nth (row BA (0 : Int)) 8).int) ((nth (row BA2 (0 : Int)) 0).int) ((nth (row BA2 (0 : Int)) 1).int) ((nth (row BA2 (0 : Int)) 2).bool) ((nth (row BA2 (0 : Int)) 3).bool) ((nth (row BA2 (0 : Int)) 4).list) ((nth (row BA2 (0 : Int)) 5).list) ((nth (row BA2 (0 : Int)) 6).list) ((nth (row BA2 (0 : Int)) 7).list) ((nth (row BA2 (0 : Int)) 8).int)) && true))) else true) else (bif (qw_k8_1 k s sg bg NA NU ME BA ct k2 s2 sg2 bg2 NA2 NU2 ME2 BA2 ct2 (0 : Int)) then ((qw_o8_2 k s sg bg NA NU ME BA ct k2 s2 sg2 bg2 NA2 NU2 ME2 BA2 ct2 (0 : Int)) && true) else ((qw_o8_3 k s sg bg NA NU ME BA ct k2 s2 sg2 bg2 NA2 NU2 ME2 BA2 ct2 (0 : Int)) && true))))))
noncomputable def qw_v (k s : Int) (sg bg : Bool) (NA NU ME BA : LL) (ct k2 s2 : Int) (sg2 bg2 : Bool) (NA2 NU2 ME2 BA2 : LL) (ct2 : Int) : Bool := (bif (qcd_v k s sg bg NA NU ME BA ct) then (bif (qcd_v k s sg bg NA NU ME BA ct) then (qcd_v k2 s2 sg2 bg2 NA2 NU2 ME2 BA2 ct2) else false) else (bif (qcd_v k2 s2 sg2 bg2 NA2 NU2 ME2 BA2 ct2) then (bif (qcd_v k s sg bg NA NU ME BA ct) then (qcd_v k2 s2 sg2 bg2 NA2 NU2 ME2 BA2 ct2) else false) else (bif (!(k == k2)) then false else (bif (k == (5 : Int)) then (bif (ct == ct2) then (qw_rv ((nth (row BA (0 : Int)) 0).int) ((nth (row BA (0 : Int)) 1).int) ((nth (row BA (0 : Int)) 2).bool) ((nth (row BA (0 : Int)) 3).bool) ((nth (row BA (0 : Int)) 4).list) ((nth (row BA (0 : Int)) 5).list) ((nth (row BA (0 : Int)) 6).list) ((nth (row BA (0 : Int)) 7).list) ((nth (row BA (0 : Int)) 8).int) ((nth (row BA2 (0 : Int)) 0).int) ((nth (row BA2 (0 : Int)) 1).int) ((nth (row BA2 (0 : Int)) 2).bool) ((nth (row BA2 (0 : Int)) 3).bool) ((nth (row BA2 (0 : Int)) 4).list) ((nth (row BA2 (0 : Int)) 5).list) ((nth (row BA2 (0 : Int)) 6).list) ((nth (row BA2 (0 : Int)) 7).list) ((nth (row BA2 (0 : Int)) 8).int)) else false) else (bif (qw_k8_1 k s sg bg NA NU ME BA ct k2 s2 sg2 bg2 NA2 NU2 ME2 BA2 ct2 (0 : Int)) then true else false)))))
theorem qw_l (k s : Int) (sg bg : Bool) (NA NU ME BA : LL) (ct k2 s2 : Int) (sg2 bg2 : Bool) (NA2 NU2 ME2 BA2 : LL) (ct2 : Int) : (qw_c k s sg bg NA NU ME BA ct k2 s2 sg2 bg2 NA2 NU2 ME2 BA2 ct2) = true → (qw_t k s sg bg NA NU ME BA ct k2 s2 sg2 bg2 NA2 NU2 ME2 BA2 ct2).val = some (qw_v k s sg bg NA NU ME BA ct k2 s2 sg2 bg2 NA2 NU2 ME2 BA2 ct2) := by
  unfold qw_t qw_v qw_c
  exact fun h => (Tr.ss h (fun h => (Tr.ss h (fun h => rfl) (fun h => rfl))) (fun h => (Tr.ss h (fun h => (Tr.ss h (fun h => rfl) (fun h => rfl))) (fun h => (Tr.ss h (fun h => rfl) (fun h => (Tr.ss h (fun h => (Tr.ss h (fun h => (Tr.gs h fun h => (Tr.gs h fun h => (Tr.gb h fun h => rfl)))) (fun h => rfl))) (fun h => (Tr.ss h (fun h => (Tr.gb h fun h => rfl)) (fun h => (Tr.gb h fun h => rfl)))))))))))
theorem qw_e (k s : Int) (sg bg : Bool) (NA NU ME BA : LL) (ct k2 s2 : Int) (sg2 bg2 : Bool) (NA2 NU2 ME2 BA2 : LL) (ct2 : Int) : runF tab FT D29 live 50 qw_lo [(true, [(.int .i64, TC.i k), (.int .i64, TC.i s), (.bool, TC.b sg), (.bool, TC.b bg), (.slice 9, TC.l NA), (.slice 2, TC.l NU), (.slice 71, TC.l ME), (.slice 32, TC.l BA), (.int .i64, TC.i ct)]), (true, [(.int .i64, TC.i k2), (.int .i64, TC.i s2), (.bool, TC.b sg2), (.bool, TC.b bg2), (.slice 9, TC.l NA2), (.slice 2, TC.l NU2), (.slice 71, TC.l ME2), (.slice 32, TC.l BA2), (.int .i64, TC.i ct2)])] = (qw_t k s sg bg NA NU ME BA ct k2 s2 sg2 bg2 NA2 NU2 ME2 BA2 ct2).run fun p => some (qw_mk p) := by kernel_rfl
theorem qw_nx (k s : Int) (sg bg : Bool) (NA NU ME BA : LL) (ct k2 s2 : Int) (sg2 bg2 : Bool) (NA2 NU2 ME2 BA2 : LL) (ct2 : Int) : is (max (rowsDep ME2) (rowsDep BA2) < qw_O.n + 1 ∧ okV k s sg bg NA NU ME BA ct = true ∧ okV k2 s2 sg2 bg2 NA2 NU2 ME2 BA2 ct2 = true) = true → (qw_c k s sg bg NA NU ME BA ct k2 s2 sg2 bg2 NA2 NU2 ME2 BA2 ct2) = true ∧ (qw_v k s sg bg NA NU ME BA ct k2 s2 sg2 bg2 NA2 NU2 ME2 BA2 ct2) = canV k ME BA ct k2 ME2 BA2 ct2 := by
  intro h
  obtain ⟨hM, hk, hk2⟩ := is_iff.1 h
  obtain ⟨hl1, hm1⟩ := okV_me hk
  obtain ⟨hl2, hm2⟩ := okV_me hk2
  have hr : ∀ y : List TC, y ∈ ME2 → memNo ME (nth y 0).str = false → qw_rc (nth (row ME ((memIx ME (nth y 0).str : Nat) : Int)) 2).int (nth (row ME ((memIx ME (nth y 0).str : Nat) : Int)) 3).int (nth (row ME ((memIx ME (nth y 0).str : Nat) : Int)) 4).bool (nth (row ME ((memIx ME (nth y 0).str : Nat) : Int)) 5).bool (nth (row ME ((memIx ME (nth y 0).str : Nat) : Int)) 6).list (nth (row ME ((memIx ME (nth y 0).str : Nat) : Int)) 7).list (nth (row ME ((memIx ME (nth y 0).str : Nat) : Int)) 8).list (nth (row ME ((memIx ME (nth y 0).str : Nat) : Int)) 9).list (nth (row ME ((memIx ME (nth y 0).str : Nat) : Int)) 10).int (nth y 2).int (nth y 3).int (nth y 4).bool (nth y 5).bool (nth y 6).list (nth y 7).list (nth y 8).list (nth y 9).list (nth y 10).int = true := fun y hy hn => is_true ⟨by have := dep_max (BA := BA2) hy 8 9; omega, hm1 _ (by rw [row_nat]; exact mem_getD (memIx_lt hn)), hm2 y hy⟩
  unfold qw_c qw_v
  rw [canV, attach_can, show qcd_v k s sg bg NA NU ME BA ct = numE k from rfl, show qcd_v k2 s2 sg2 bg2 NA2 NU2 ME2 BA2 ct2 = numE k2 from rfl]
  cases h1 : numE k with
  | true => cases h2 : numE k2 <;> exact ⟨rfl, rfl⟩
  | false =>
    cases h2 : numE k2 with
    | true => exact ⟨rfl, rfl⟩
    | false =>
      cases hkk : (k == k2) with
      | false => exact ⟨rfl, rfl⟩
      | true =>
        have hkk := eq_of_beq hkk
        subst hkk
        cases h5 : (k == 5) with
        | true =>
          have h5 := eq_of_beq h5
          subst h5
          obtain ⟨hb, ho⟩ := okV_base hk
          obtain ⟨hb2, ho2⟩ := okV_base hk2
          have hrb : qw_rc (nth (row BA (0 : Int)) 0).int (nth (row BA (0 : Int)) 1).int (nth (row BA (0 : Int)) 2).bool (nth (row BA (0 : Int)) 3).bool (nth (row BA (0 : Int)) 4).list (nth (row BA (0 : Int)) 5).list (nth (row BA (0 : Int)) 6).list (nth (row BA (0 : Int)) 7).list (nth (row BA (0 : Int)) 8).int (nth (row BA2 (0 : Int)) 0).int (nth (row BA2 (0 : Int)) 1).int (nth (row BA2 (0 : Int)) 2).bool (nth (row BA2 (0 : Int)) 3).bool (nth (row BA2 (0 : Int)) 4).list (nth (row BA2 (0 : Int)) 5).list (nth (row BA2 (0 : Int)) 6).list (nth (row BA2 (0 : Int)) 7).list (nth (row BA2 (0 : Int)) 8).int = true := is_true ⟨by have := dep_base (ME := ME2) hb2 6 7; omega, ho, ho2⟩
          rw [dif_pos hb2]
          cases hct : (ct == ct2) with
          | false => exact ⟨rfl, rfl⟩
          | true => exact ⟨andT (is_true (by constructor <;> omega)) (andT (is_true (by constructor <;> omega)) (andT hrb rfl)), rfl⟩
        | false =>
          have c2 : qw_o8_2 k s sg bg NA NU ME BA ct k s2 sg2 bg2 NA2 NU2 ME2 BA2 ct2 (0 : Int) = true := is_true ⟨rfl, hl1, hl2, hr⟩
          have c3 : qw_o8_3 k s sg bg NA NU ME BA ct k s2 sg2 bg2 NA2 NU2 ME2 BA2 ct2 (0 : Int) = true := is_true ⟨rfl, hl1, hl2, hr⟩
          rw [c2, c3, show qw_k8_1 k s sg bg NA NU ME BA ct k s2 sg2 bg2 NA2 NU2 ME2 BA2 ct2 (0 : Int) = ME2.all (fun y => memNo ME (nth y 0).str || canV (nth (row ME ((memIx ME (nth y 0).str : Nat) : Int)) 2).int (nth (row ME ((memIx ME (nth y 0).str : Nat) : Int)) 8).list (nth (row ME ((memIx ME (nth y 0).str : Nat) : Int)) 9).list (nth (row ME ((memIx ME (nth y 0).str : Nat) : Int)) 10).int (nth y 2).int (nth y 8).list (nth y 9).list (nth y 10).int) from allI_rows (P := fun y => memNo ME (nth y 0).str || canV (nth (row ME ((memIx ME (nth y 0).str : Nat) : Int)) 2).int (nth (row ME ((memIx ME (nth y 0).str : Nat) : Int)) 8).list (nth (row ME ((memIx ME (nth y 0).str : Nat) : Int)) 9).list (nth (row ME ((memIx ME (nth y 0).str : Nat) : Int)) 10).int (nth y 2).int (nth y 8).list (nth y 9).list (nth y 10).int) (A := ME2)]
          cases ME2.all (fun y => memNo ME (nth y 0).str || canV (nth (row ME ((memIx ME (nth y 0).str : Nat) : Int)) 2).int (nth (row ME ((memIx ME (nth y 0).str : Nat) : Int)) 8).list (nth (row ME ((memIx ME (nth y 0).str : Nat) : Int)) 9).list (nth (row ME ((memIx ME (nth y 0).str : Nat) : Int)) 10).int (nth y 2).int (nth y 8).list (nth y 9).list (nth y 10).int) <;> exact ⟨rfl, rfl⟩
theorem qw_nxr (k s : Int) (sg bg : Bool) (NA NU ME BA : LL) (ct k2 s2 : Int) (sg2 bg2 : Bool) (NA2 NU2 ME2 BA2 : LL) (ct2 : Int) : qw_rc (i_spec_l04Can := ⟨qw_O.n + 1⟩) k s sg bg NA NU ME BA ct k2 s2 sg2 bg2 NA2 NU2 ME2 BA2 ct2 = true → (qw_c k s sg bg NA NU ME BA ct k2 s2 sg2 bg2 NA2 NU2 ME2 BA2 ct2) = true ∧ (qw_v k s sg bg NA NU ME BA ct k2 s2 sg2 bg2 NA2 NU2 ME2 BA2 ct2) = (qw_rv k s sg bg NA NU ME BA ct k2 s2 sg2 bg2 NA2 NU2 ME2 BA2 ct2) := fun h => qw_nx k s sg bg NA NU ME BA ct k2 s2 sg2 bg2 NA2 NU2 ME2 BA2 ct2 h
theorem qw_rs : ∀ xs r, qw_rS (i_spec_l04Can := ⟨qw_O.n + 1⟩) xs = some (true, r) → runF tab FT D29 live 50 qw_lo xs = some r := by
  intro xs r h
  unfold qw_rS at h
  split at h
  · simp only [Option.some.injEq, Prod.mk.injEq] at h
    obtain ⟨h1, rfl⟩ := h
    have hx := qw_nxr _ _ _ _ _ _ _ _ _ _ _ _ _ _ _ _ _ _ h1
    have ht := fun_told (qw_e _ _ _ _ _ _ _ _ _ _ _ _ _ _ _ _ _ _) (qw_l _ _ _ _ _ _ _ _ _ _ _ _ _ _ _ _ _ _) hx.1
    rw [hx.2] at ht
    exact ht
  · cases h
theorem qw_step : qw_G (i_spec_l04Can := ⟨qw_O.n + 1⟩) := by
  have h := DOk.also2 (S := qw_rS (i_spec_l04Can := ⟨qw_O.n + 1⟩)) mixed_ok tab_ok names_ok d27 d29 (fnLoops_one (by kernel_rfl) qw_is8) qw_rs
  refine qw_G.mk (i_spec_l04Can := ⟨qw_O.n + 1⟩) ?_
  exact h
noncomputable def qbg_t (k s : Int) (sg bg : Bool) (NA NU ME BA : LL) (ct k2 s2 : Int) (sg2 bg2 : Bool) (NA2 NU2 ME2 BA2 : LL) (ct2 : Int) : Tr (Bool) := (.ite ((qbk_rc k s sg bg NA NU ME BA ct) = true) (.ite ((qbk_rv k s sg bg NA NU ME BA ct) = true) (.ite ((qbk_rc k2 s2 sg2 bg2 NA2 NU2 ME2 BA2 ct2) = true) (.ite ((qbk_rv k2 s2 sg2 bg2 NA2 NU2 ME2 BA2 ct2) = true) (.ite ((qw_rc k s sg bg NA NU ME BA ct k2 s2 sg2 bg2 NA2 NU2 ME2 BA2 ct2) = true) (.ok (qw_rv k s sg bg NA NU ME BA ct k2 s2 sg2 bg2 NA2 NU2 ME2 BA2 ct2))
      .no)
     (.ok false))
    .no)
   (.ok false))
  .no)
def qbg_mk (p : Bool) : Res := [(false, [⟨.bool, .sh, TC.b p⟩])]
noncomputable def qbg_c (k s : Int) (sg bg : Bool) (NA NU ME BA : LL) (ct k2 s2 : Int) (sg2 bg2 : Bool) (NA2 NU2 ME2 BA2 : LL) (ct2 : Int) : Bool := ((qbk_rc k s sg bg NA NU ME BA ct) && (bif (qbk_rv k s sg bg NA NU ME BA ct) then ((qbk_rc k2 s2 sg2 bg2 NA2 NU2 ME2 BA2 ct2) && (bif (qbk_rv k2 s2 sg2 bg2 NA2 NU2 ME2 BA2 ct2) then ((qw_rc k s sg bg NA NU ME BA ct k2 s2 sg2 bg2 NA2 NU2 ME2 BA2 ct2) && true) else true)) else true))
noncomputable def qbg_v (k s : Int) (sg bg : Bool) (NA NU ME BA : LL) (ct k2 s2 : Int) (sg2 bg2 : Bool) (NA2 NU2 ME2 BA2 : LL) (ct2 : Int) : Bool := (bif (qbk_rv k s sg bg NA NU ME BA ct) then (bif (qbk_rv k2 s2 sg2 bg2 NA2 NU2 ME2 BA2 ct2) then (qw_rv k s sg bg NA NU ME BA ct k2 s2 sg2 bg2 NA2 NU2 ME2 BA2 ct2) else false) else false)
theorem qbg_l (k s : Int) (sg bg : Bool) (NA NU ME BA : LL) (ct k2 s2 : Int) (sg2 bg2 : Bool) (NA2 NU2 ME2 BA2 : LL) (ct2 : Int) : (qbg_c k s sg bg NA NU ME BA ct k2 s2 sg2 bg2 NA2 NU2 ME2 BA2 ct2) = true → (qbg_t k s sg bg NA NU ME BA ct k2 s2 sg2 bg2 NA2 NU2 ME2 BA2 ct2).val = some (qbg_v k s sg bg NA NU ME BA ct k2 s2 sg2 bg2 NA2 NU2 ME2 BA2 ct2) := by
  unfold qbg_t qbg_v qbg_c
  exact fun h => (Tr.gb h fun h => (Tr.ss h (fun h => (Tr.gb h fun h => (Tr.ss h (fun h => (Tr.gb h fun h => rfl)) (fun h => rfl)))) (fun h => rfl)))
noncomputable def qbg_S : List Arg → Option (Bool × Res) := fun xs => match xs with
  | [(true, [(.int .i64, TC.i k), (.int .i64, TC.i s), (.bool, TC.b sg), (.bool, TC.b bg), (.slice 9, TC.l NA), (.slice 2, TC.l NU), (.slice 71, TC.l ME), (.slice 32, TC.l BA), (.int .i64, TC.i ct)]), (true, [(.int .i64, TC.i k2), (.int .i64, TC.i s2), (.bool, TC.b sg2), (.bool, TC.b bg2), (.slice 9, TC.l NA2), (.slice 2, TC.l NU2), (.slice 71, TC.l ME2), (.slice 32, TC.l BA2), (.int .i64, TC.i ct2)])] => some ((qbg_c k s sg bg NA NU ME BA ct k2 s2 sg2 bg2 NA2 NU2 ME2 BA2 ct2), qbg_mk (qbg_v k s sg bg NA NU ME BA ct k2 s2 sg2 bg2 NA2 NU2 ME2 BA2 ct2))
  | _ => .none
theorem qbg_e (k s : Int) (sg bg : Bool) (NA NU ME BA : LL) (ct k2 s2 : Int) (sg2 bg2 : Bool) (NA2 NU2 ME2 BA2 : LL) (ct2 : Int) : runF tab FT D29 live 16 noLoops [(true, [(.int .i64, TC.i k), (.int .i64, TC.i s), (.bool, TC.b sg), (.bool, TC.b bg), (.slice 9, TC.l NA), (.slice 2, TC.l NU), (.slice 71, TC.l ME), (.slice 32, TC.l BA), (.int .i64, TC.i ct)]), (true, [(.int .i64, TC.i k2), (.int .i64, TC.i s2), (.bool, TC.b sg2), (.bool, TC.b bg2), (.slice 9, TC.l NA2), (.slice 2, TC.l NU2), (.slice 71, TC.l ME2), (.slice 32, TC.l BA2), (.int .i64, TC.i ct2)])] = (qbg_t k s sg bg NA NU ME BA ct k2 s2 sg2 bg2 NA2 NU2 ME2 BA2 ct2).run fun p => some (qbg_mk p) := by kernel_rfl
theorem qbg_s : ∀ xs r, qbg_S xs = some (true, r) → runF tab FT D29 live 16 noLoops xs = some r := by
  intro xs r h
  unfold qbg_S at h
  split at h
  · simp only [Option.some.injEq, Prod.mk.injEq] at h
    obtain ⟨h1, rfl⟩ := h
    exact fun_told (qbg_e _ _ _ _ _ _ _ _ _ _ _ _ _ _ _ _ _ _) (qbg_l _ _ _ _ _ _ _ _ _ _ _ _ _ _ _ _ _ _) h1
  · cases h
noncomputable def D30 : Dt := also D29 16 qbg_S
theorem d30 : DOk Go.Proofs.Try.prog tab D30 := d29.also mixed_ok tab_ok names_ok noLoops_ok qbg_s
theorem qbg_cc {k : Int} {s : Int} {sg : Bool} {bg : Bool} {NA : LL} {NU : LL} {ME : LL} {BA : LL} {ct : Int} {k2 : Int} {s2 : Int} {sg2 : Bool} {bg2 : Bool} {NA2 : LL} {NU2 : LL} {ME2 : LL} {BA2 : LL} {ct2 : Int} (okc : qbk_rc k s sg bg NA NU ME BA ct = true) (okc2 : qbk_rc k2 s2 sg2 bg2 NA2 NU2 ME2 BA2 ct2 = true) (can : okV k s sg bg NA NU ME BA ct = true → okV k2 s2 sg2 bg2 NA2 NU2 ME2 BA2 ct2 = true → qw_rc k s sg bg NA NU ME BA ct k2 s2 sg2 bg2 NA2 NU2 ME2 BA2 ct2 = true) : (qbg_c k s sg bg NA NU ME BA ct k2 s2 sg2 bg2 NA2 NU2 ME2 BA2 ct2) = true := by
  unfold qbg_c
  refine andT (by first | exact okc | exact okc2) ?_
  refine bifT (fun b1 => ?_) (fun b1 => ?_)
  · skip
    refine andT (by first | exact okc | exact okc2) ?_
    refine bifT (fun b2 => ?_) (fun b2 => ?_)
    · skip
      refine andT (by exact can b1 b2) ?_
      rfl
    · skip
      rfl
  · skip
    rfl
theorem qbg_vv (k s : Int) (sg bg : Bool) (NA NU ME BA : LL) (ct : Int) (k2 s2 : Int) (sg2 bg2 : Bool) (NA2 NU2 ME2 BA2 : LL) (ct2 : Int) : qbg_v k s sg bg NA NU ME BA ct k2 s2 sg2 bg2 NA2 NU2 ME2 BA2 ct2 = bif okV k s sg bg NA NU ME BA ct then (bif okV k2 s2 sg2 bg2 NA2 NU2 ME2 BA2 ct2 then canV k ME BA ct k2 ME2 BA2 ct2 else false) else false := rfl
section
class qbd_O where n : Nat
variable [i_impl_Type_size : qbd_O]
noncomputable def qbd_rc (k s : Int) (sg bg : Bool) (NA NU ME BA : LL) (ct : Int) : Bool := is (rowsDep BA < qbd_O.n ∧ isizeC k BA = true)
noncomputable def qbd_rv (k s : Int) (sg bg : Bool) (NA NU ME BA : LL) (ct : Int) : Int := isizeV k s BA ct
def qbd_rmk (p : Int) : Res := [(false, [⟨.int .i64, .sh, TC.i p⟩])]
noncomputable def qbd_rS : List Arg → Option (Bool × Res) := fun xs => match xs with
  | [(true, [(.int .i64, TC.i k), (.int .i64, TC.i s), (.bool, TC.b sg), (.bool, TC.b bg), (.slice 9, TC.l NA), (.slice 2, TC.l NU), (.slice 71, TC.l ME), (.slice 32, TC.l BA), (.int .i64, TC.i ct)])] => some ((qbd_rc k s sg bg NA NU ME BA ct), qbd_rmk (qbd_rv k s sg bg NA NU ME BA ct))
  | _ => .none
noncomputable def D31 : Dt := also D30 75 qbd_rS
class qbd_G : Prop where ok : DOk Go.Proofs.Try.prog tab D31
variable [g_impl_Type_size : qbd_G]
theorem d31 : DOk Go.Proofs.Try.prog tab D31 := qbd_G.ok
noncomputable def qbd_t (k s : Int) (sg bg : Bool) (NA NU ME BA : LL) (ct : Int) : Tr (Int) := (.ite ((k == (3 : Int)) = true) (.ite ((0 : Int) ≤ (0 : Int) ∧ (0 : Int) < (BA.length : Int)) (.ite ((qbd_rc ((nth (row BA (0 : Int)) 0).int) ((nth (row BA (0 : Int)) 1).int) ((nth (row BA (0 : Int)) 2).bool) ((nth (row BA (0 : Int)) 3).bool) ((nth (row BA (0 : Int)) 4).list) ((nth (row BA (0 : Int)) 5).list) ((nth (row BA (0 : Int)) 6).list) ((nth (row BA (0 : Int)) 7).list) ((nth (row BA (0 : Int)) 8).int)) = true) (.ok (qbd_rv ((nth (row BA (0 : Int)) 0).int) ((nth (row BA (0 : Int)) 1).int) ((nth (row BA (0 : Int)) 2).bool) ((nth (row BA (0 : Int)) 3).bool) ((nth (row BA (0 : Int)) 4).list) ((nth (row BA (0 : Int)) 5).list) ((nth (row BA (0 : Int)) 6).list) ((nth (row BA (0 : Int)) 7).list) ((nth (row BA (0 : Int)) 8).int)))
    .no)
   .no)
  (.ite ((k == (5 : Int)) = true) (.ite ((0 : Int) ≤ (0 : Int) ∧ (0 : Int) < (BA.length : Int)) (.ite ((qbd_rc ((nth (row BA (0 : Int)) 0).int) ((nth (row BA (0 : Int)) 1).int) ((nth (row BA (0 : Int)) 2).bool) ((nth (row BA (0 : Int)) 3).bool) ((nth (row BA (0 : Int)) 4).list) ((nth (row BA (0 : Int)) 5).list) ((nth (row BA (0 : Int)) 6).list) ((nth (row BA (0 : Int)) 7).list) ((nth (row BA (0 : Int)) 8).int)) = true) (.ok (IntKind.wrap .i64 (ct * (qbd_rv ((nth (row BA (0 : Int)) 0).int) ((nth (row BA (0 : Int)) 1).int) ((nth (row BA (0 : Int)) 2).bool) ((nth (row BA (0 : Int)) 3).bool) ((nth (row BA (0 : Int)) 4).list) ((nth (row BA (0 : Int)) 5).list) ((nth (row BA (0 : Int)) 6).list) ((nth (row BA (0 : Int)) 7).list) ((nth (row BA (0 : Int)) 8).int)))))
     .no)
    .no)
   (.ok s)))
def qbd_mk (p : Int) : Res := [(false, [⟨.int .i64, .sh, TC.i p⟩])]
noncomputable def qbd_c (k s : Int) (sg bg : Bool) (NA NU ME BA : LL) (ct : Int) : Bool := (bif (k == (3 : Int)) then (is ((0 : Int) ≤ (0 : Int) ∧ (0 : Int) < (BA.length : Int)) && ((qbd_rc ((nth (row BA (0 : Int)) 0).int) ((nth (row BA (0 : Int)) 1).int) ((nth (row BA (0 : Int)) 2).bool) ((nth (row BA (0 : Int)) 3).bool) ((nth (row BA (0 : Int)) 4).list) ((nth (row BA (0 : Int)) 5).list) ((nth (row BA (0 : Int)) 6).list) ((nth (row BA (0 : Int)) 7).list) ((nth (row BA (0 : Int)) 8).int)) && true)) else (bif (k == (5 : Int)) then (is ((0 : Int) ≤ (0 : Int) ∧ (0 : Int) < (BA.length : Int)) && ((qbd_rc ((nth (row BA (0 : Int)) 0).int) ((nth (row BA (0 : Int)) 1).int) ((nth (row BA (0 : Int)) 2).bool) ((nth (row BA (0 : Int)) 3).bool) ((nth (row BA (0 : Int)) 4).list) ((nth (row BA (0 : Int)) 5).list) ((nth (row BA (0 : Int)) 6).list) ((nth (row BA (0 : Int)) 7).list) ((nth (row BA (0 : Int)) 8).int)) && true)) else true))
noncomputable def qbd_v (k s : Int) (sg bg : Bool) (NA NU ME BA : LL) (ct : Int) : Int := (bif (k == (3 : Int)) then (qbd_rv ((nth (row BA (0 : Int)) 0).int) ((nth (row BA (0 : Int)) 1).int) ((nth (row BA (0 : Int)) 2).bool) ((nth (row BA (0 : Int)) 3).bool) ((nth (row BA (0 : Int)) 4).list) ((nth (row BA (0 : Int)) 5).list) ((nth (row BA (0 : Int)) 6).list) ((nth (row BA (0 : Int)) 7).list) ((nth (row BA (0 : Int)) 8).int)) else (bif (k == (5 : Int)) then (IntKind.wrap .i64 (ct * (qbd_rv ((nth (row BA (0 : Int)) 0).int) ((nth (row BA (0 : Int)) 1).int) ((nth (row BA (0 : Int)) 2).bool) ((nth (row BA (0 : Int)) 3).bool) ((nth (row BA (0 : Int)) 4).list) ((nth (row BA (0 : Int)) 5).list) ((nth (row BA (0 : Int)) 6).list) ((nth (row BA (0 : Int)) 7).list) ((nth (row BA (0 : Int)) 8).int)))) else s))
theorem qbd_l (k s : Int) (sg bg : Bool) (NA NU ME BA : LL) (ct : Int) : (qbd_c k s sg bg NA NU ME BA ct) = true → (qbd_t k s sg bg NA NU ME BA ct).val = some (qbd_v k s sg bg NA NU ME BA ct) := by
  unfold qbd_t qbd_v qbd_c
  exact fun h => (Tr.ss h (fun h => (Tr.gs h fun h => (Tr.gb h fun h => rfl))) (fun h => (Tr.ss h (fun h => (Tr.gs h fun h => (Tr.gb h fun h => rfl))) (fun h => rfl))))
theorem qbd_e (k s : Int) (sg bg : Bool) (NA NU ME BA : LL) (ct : Int) : runF tab FT D31 live 75 noLoops [(true, [(.int .i64, TC.i k), (.int .i64, TC.i s), (.bool, TC.b sg), (.bool, TC.b bg), (.slice 9, TC.l NA), (.slice 2, TC.l NU), (.slice 71, TC.l ME), (.slice 32, TC.l BA), (.int .i64, TC.i ct)])] = (qbd_t k s sg bg NA NU ME BA ct).run fun p => some (qbd_mk p) := by kernel_rfl
theorem qbd_nx (k s : Int) (sg bg : Bool) (NA NU ME BA : LL) (ct : Int) : is (rowsDep BA < qbd_O.n + 1 ∧ isizeC k BA = true) = true → (qbd_c k s sg bg NA NU ME BA ct) = true ∧ (qbd_v k s sg bg NA NU ME BA ct) = isizeV k s BA ct := by
  intro h
  obtain ⟨hM, hC⟩ := is_iff.1 h
  unfold qbd_c qbd_v
  rw [isizeC] at hC
  rw [isizeV]
  cases h3 : (k == 3) with
  | true =>
    simp only [h3, Bool.true_or, cond_true] at hC ⊢
    split at hC
    · rename_i hb
      rw [dif_pos hb]
      have := pos_row hb 7
      exact ⟨andT (is_true (by constructor <;> omega)) (andT (is_true ⟨by omega, hC⟩) rfl), rfl⟩
    · cases hC
  | false =>
    cases h5 : (k == 5) with
    | true =>
      simp only [h3, h5, Bool.false_or, cond_true, cond_false] at hC ⊢
      split at hC
      · rename_i hb
        rw [dif_pos hb]
        have := pos_row hb 7
        exact ⟨andT (is_true (by constructor <;> omega)) (andT (is_true ⟨by omega, hC⟩) rfl), rfl⟩
      · cases hC
    | false => exact ⟨rfl, rfl⟩
theorem qbd_nxr (k s : Int) (sg bg : Bool) (NA NU ME BA : LL) (ct : Int) : qbd_rc (i_impl_Type_size := ⟨qbd_O.n + 1⟩) k s sg bg NA NU ME BA ct = true → (qbd_c k s sg bg NA NU ME BA ct) = true ∧ (qbd_v k s sg bg NA NU ME BA ct) = (qbd_rv k s sg bg NA NU ME BA ct) := fun h => qbd_nx k s sg bg NA NU ME BA ct h
theorem qbd_rs : ∀ xs r, qbd_rS (i_impl_Type_size := ⟨qbd_O.n + 1⟩) xs = some (true, r) → runF tab FT D31 live 75 noLoops xs = some r := by
  intro xs r h
  unfold qbd_rS at h
  split at h
  · simp only [Option.some.injEq, Prod.mk.injEq] at h
    obtain ⟨h1, rfl⟩ := h
    have hx := qbd_nxr _ _ _ _ _ _ _ _ _ h1
    have ht := fun_told (qbd_e _ _ _ _ _ _ _ _ _) (qbd_l _ _ _ _ _ _ _ _ _) hx.1
    rw [hx.2] at ht
    exact ht
  · cases h
theorem qbd_step : qbd_G (i_impl_Type_size := ⟨qbd_O.n + 1⟩) := by
  have h := DOk.also2 (S := qbd_rS (i_impl_Type_size := ⟨qbd_O.n + 1⟩)) mixed_ok tab_ok names_ok d30 d31 noLoops_ok qbd_rs
  refine qbd_G.mk (i_impl_Type_size := ⟨qbd_O.n + 1⟩) ?_
  exact h
noncomputable def qbs_t (a0 a1 : Int) (a2 a3 : Bool) (a4 a5 a6 a7 : LL) (a8 : Int) : Tr (Int × Int × Bool × Bool × LL × LL × LL × LL × Int) := (.ite ((a0 == (1 : Int)) = true) (.ok (a0, a1, a2, a3, [], [], [], [], (0 : Int)))
  (.ite ((a0 == (2 : Int)) = true) (.ok (a0, a1, false, false, [], [], [], [], (0 : Int)))
   (.ite ((a0 == (6 : Int)) = true) (.ok (a0, a1, false, false, [], [], [], [], (0 : Int)))
    (.ite ((a0 == (3 : Int)) = true) (.ok (a0, (0 : Int), false, false, a4, a5, [], a7, (0 : Int)))
     (.ite ((a0 == (4 : Int)) = true) (.ok (a0, a1, false, false, [], [], a6, [], (0 : Int)))
      (.ite ((a0 == (5 : Int)) = true) (.ok (a0, (0 : Int), false, false, [], [], [], a7, a8))
       (.ok (a0, (0 : Int), false, false, [], [], [], [], (0 : Int)))))))))
def qbs_mk (p : Int × Int × Bool × Bool × LL × LL × LL × LL × Int) : Res := [(true, [⟨.int .i64, .sh, TC.i (p.1)⟩, ⟨.int .i64, .sh, TC.i (p.2.1)⟩, ⟨.bool, .sh, TC.b (p.2.2.1)⟩, ⟨.bool, .sh, TC.b (p.2.2.2.1)⟩, ⟨.slice 9, .sh, TC.l (p.2.2.2.2.1)⟩, ⟨.slice 2, .sh, TC.l (p.2.2.2.2.2.1)⟩, ⟨.slice 71, .sh, TC.l (p.2.2.2.2.2.2.1)⟩, ⟨.slice 32, .sh, TC.l (p.2.2.2.2.2.2.2.1)⟩, ⟨.int .i64, .sh, TC.i (p.2.2.2.2.2.2.2.2)⟩])]
noncomputable def qbs_c (a0 a1 : Int) (a2 a3 : Bool) (a4 a5 a6 a7 : LL) (a8 : Int) : Bool := true
noncomputable def qbs_v (a0 a1 : Int) (a2 a3 : Bool) (a4 a5 a6 a7 : LL) (a8 : Int) : Int × Int × Bool × Bool × LL × LL × LL × LL × Int := (bif (a0 == (1 : Int)) then (a0, a1, a2, a3, [], [], [], [], (0 : Int)) else (bif (a0 == (2 : Int)) then (a0, a1, false, false, [], [], [], [], (0 : Int)) else (bif (a0 == (6 : Int)) then (a0, a1, false, false, [], [], [], [], (0 : Int)) else (bif (a0 == (3 : Int)) then (a0, (0 : Int), false, false, a4, a5, [], a7, (0 : Int)) else (bif (a0 == (4 : Int)) then (a0, a1, false, false, [], [], a6, [], (0 : Int)) else (bif (a0 == (5 : Int)) then (a0, (0 : Int), false, false, [], [], [], a7, a8) else (a0, (0 : Int), false, false, [], [], [], [], (0 : Int))))))))
theorem qbs_l (a0 a1 : Int) (a2 a3 : Bool) (a4 a5 a6 a7 : LL) (a8 : Int) : (qbs_c a0 a1 a2 a3 a4 a5 a6 a7 a8) = true → (qbs_t a0 a1 a2 a3 a4 a5 a6 a7 a8).val = some (qbs_v a0 a1 a2 a3 a4 a5 a6 a7 a8) := by
  intro h
  skip
  unfold qbs_t qbs_v
  exact (Tr.s rfl (Tr.s rfl (Tr.s rfl (Tr.s rfl (Tr.s rfl (Tr.s rfl rfl))))))
noncomputable def qbs_S : List Arg → Option (Bool × Res) := fun xs => match xs with
  | [(true, [(.int .i64, TC.i a0), (.int .i64, TC.i a1), (.bool, TC.b a2), (.bool, TC.b a3), (.slice 9, TC.l a4), (.slice 2, TC.l a5), (.slice 71, TC.l a6), (.slice 32, TC.l a7), (.int .i64, TC.i a8)])] => some (true, qbs_mk (qbs_v a0 a1 a2 a3 a4 a5 a6 a7 a8))
  | _ => .none
theorem qbs_e (a0 a1 : Int) (a2 a3 : Bool) (a4 a5 a6 a7 : LL) (a8 : Int) : runF tab FT D31 live 103 noLoops [(true, [(.int .i64, TC.i a0), (.int .i64, TC.i a1), (.bool, TC.b a2), (.bool, TC.b a3), (.slice 9, TC.l a4), (.slice 2, TC.l a5), (.slice 71, TC.l a6), (.slice 32, TC.l a7), (.int .i64, TC.i a8)])] = (qbs_t a0 a1 a2 a3 a4 a5 a6 a7 a8).run fun p => some (qbs_mk p) := by kernel_rfl
theorem qbs_s : ∀ xs r, qbs_S xs = some (true, r) → runF tab FT D31 live 103 noLoops xs = some r := by
  intro xs r h
  unfold qbs_S at h
  split at h
  · simp only [Option.some.injEq, Prod.mk.injEq] at h
    obtain ⟨h1, rfl⟩ := h
    exact fun_told (qbs_e _ _ _ _ _ _ _ _ _) (qbs_l _ _ _ _ _ _ _ _ _) rfl
  · cases h
noncomputable def D32 : Dt := also D31 103 qbs_S
theorem d32 : DOk Go.Proofs.Try.prog tab D32 := d31.also mixed_ok tab_ok names_ok noLoops_ok qbs_s
def E_9 (x y : List TC) : Bool := ((nth x 0).str == (nth y 0).str)
abbrev qs_4_σ := LL × LL × Int × Int
abbrev qs_4_ω := (Unit) ⊕ (Unit)
noncomputable def qs_4_step (A C : LL) (m i : Int) : Tr (qs_4_σ ⊕ qs_4_ω) := (.ite ((decide (i < m)) = true) (.ite ((0 : Int) ≤ i ∧ i < (A.length : Int)) (.ite ((0 : Int) ≤ i ∧ i < (C.length : Int)) (.ite ((!((nth (row A i) 0).str == (nth (row C i) 0).str)) = true) (.ok (.inr (.inl ())))
     (.ok (.inl (A, C, m, (IntKind.wrap .i64 (i + (1 : Int)))))))
    .no)
   .no)
  (.ok (.inr (.inr ()))))
noncomputable def qs_4_st : qs_4_σ → Tr (qs_4_σ ⊕ qs_4_ω) := fun x => (qs_4_step (x.1) (x.2.1) (x.2.2.1) (x.2.2.2))
noncomputable def qs_k4_1 (A C : LL) (m i : Int) : Bool := allEq E_9 A C
noncomputable def qs_o4_2 (A C : LL) (m i : Int) : Bool := is (A.length = C.length ∧ i = 0 ∧ Typed tab (.slice 9) (.l A) ∧ m = (A.length : Int))
noncomputable def qs_o4_3 (A C : LL) (m i : Int) : Bool := is (A.length = C.length ∧ i = 0 ∧ Typed tab (.slice 9) (.l A) ∧ m = (A.length : Int))
noncomputable def qs_4_fin (A C : LL) (m i : Int) : Told qs_4_ω := (.br (qs_k4_1 A C m i) (.leaf (qs_o4_2 A C m i) (.inr ())) (.leaf (qs_o4_3 A C m i) (.inl ())))
def qs_4_sl (x : qs_4_σ) : List Slot := [⟨.val false [⟨.slice 9, .sh, TC.l (x.1)⟩], ⟨0, 0⟩⟩, ⟨.val false [⟨.slice 9, .sh, TC.l (x.2.1)⟩], ⟨0, 0⟩⟩, ⟨.val false [⟨.int .i64, .sh, TC.i (x.2.2.1)⟩], ⟨0, 0⟩⟩, ⟨.val false [⟨.int .i64, .sh, TC.i (x.2.2.2)⟩], ⟨0, 0⟩⟩]
def qs_4_out : qs_4_ω → Ex × List Slot := (Sum.elim (fun x => (.ret, [⟨.val false [⟨.bool, .sh, TC.b false⟩], ⟨0, 0⟩⟩])) (fun x => (.exit 0, [Slot.none])))
noncomputable def qs_lo4 : List Slot → Option (Told (Ex × List Slot)) := fun s => match s with
  | [⟨.val false [⟨.slice 9, .sh, TC.l A⟩], ⟨0, 0⟩⟩, ⟨.val false [⟨.slice 9, .sh, TC.l C⟩], ⟨0, 0⟩⟩, ⟨.val false [⟨.int .i64, .sh, TC.i m⟩], ⟨0, 0⟩⟩, ⟨.val false [⟨.int .i64, .sh, TC.i i⟩], ⟨0, 0⟩⟩] => some (((qs_4_fin A C m i)).map qs_4_out)
  | _ => .none
noncomputable def qs_lo : LoopTeller := fun r s => bif Nat.beq r 4 then qs_lo4 s else .none
theorem qs_4_r (A C : LL) (m i : Int) (fuel : Nat) : rounds (rnd tab FT D32 live 131 qs_lo 0 4) leave (fuel + 1) (qs_4_sl (A, C, m, i)) = ((qs_4_step A C m i)).run (goOn (fun s => rounds (rnd tab FT D32 live 131 qs_lo 0 4) leave fuel (qs_4_sl s)) fun w => some (qs_4_out w)) := by kernel_rfl
theorem qs_4_h (A C : LL) (m i : Int) (ow : qs_4_ω) : ((qs_4_fin A C m i)).val = some ow → ∃ fuel, loopN qs_4_st fuel (A, C, m, i) = some ow := by
  intro h
  have key : A.length = C.length → Typed tab (.slice 9) (.l A) → loopN qs_4_st (A.length + 1) (A, C, (A.length : Int), 0) = some (if allEq E_9 A C = true then .inr () else .inl ()) := by
    intro hl ht
    have hlen : A.length ≤ 140737488351232 := by have := typed_room ht; simp only [show (tab 9).bytes = 16 from rfl] at this; omega
    refine loopN_allEq A C E_9 (fun i => (A, C, (A.length : Int), (i : Int))) _ _ hl (fun i hi => ?_) ?_ A.length 0 (by omega)
    · show (qs_4_step A C (A.length : Int) (i : Int)).val = _
      unfold qs_4_step
      refine Tr.t (by simp; omega) ?_
      refine Tr.t (by constructor <;> omega) ?_
      refine Tr.t (by constructor <;> omega) ?_
      rw [wrap64 (i := (i : Int) + 1) (by omega) (by omega)]
      rw [Tr.val_br]
      show (if (!(E_9 (A.getD i []) (C.getD i []))) = true then _ else _) = _
      cases E_9 (A.getD i []) (C.getD i []) <;> rfl
    · show (qs_4_step A C (A.length : Int) (A.length : Int)).val = _
      refine Tr.n (by simp) ?_
      rfl
  simp only [qs_4_fin, Told.val] at h
  cases hk : allEq E_9 A C with
  | true =>
    rw [if_pos (show qs_k4_1 A C m i = true from hk)] at h
    split at h
    · rename_i ho
      obtain ⟨hl, rfl, ht, rfl⟩ := is_iff.1 ho
      cases h
      refine ⟨_, (key hl ht).trans ?_⟩
      rw [hk]; rfl
    · cases h
  | false =>
    rw [if_neg (show ¬qs_k4_1 A C m i = true from by rw [show qs_k4_1 A C m i = allEq E_9 A C from rfl, hk]; simp)] at h
    split at h
    · rename_i ho
      obtain ⟨hl, rfl, ht, rfl⟩ := is_iff.1 ho
      cases h
      refine ⟨_, (key hl ht).trans ?_⟩
      rw [hk]; rfl
    · cases h
theorem qs_is4 : LoopIs tab FT D32 live 131 qs_lo 0 4 := by
  refine loop_told (sl := qs_4_sl) (step := qs_4_st) (out := qs_4_out) (lor := qs_lo4) (fin := fun x => (qs_4_fin (x.1) (x.2.1) (x.2.2.1) (x.2.2.2))) (fun _ => rfl) ?_ (fun x n => qs_4_r x.1 x.2.1 x.2.2.1 x.2.2.2 n) (fun x ow => qs_4_h x.1 x.2.1 x.2.2.1 x.2.2.2 ow)
  intro s t h
  unfold qs_lo4 at h
  split at h
  · cases h; exact ⟨(_, _, _, _), rfl, rfl⟩
  · cases h
noncomputable def qs_t (A C : LL) : Tr (Bool) := (.ite ((!((A.length : Int) == (C.length : Int))) = true) (.ok false)
  (.ite ((qs_k4_1 A C (A.length : Int) (0 : Int)) = true) (.ite ((qs_o4_2 A C (A.length : Int) (0 : Int)) = true) (.ok true)
    .no)
   (.ite ((qs_o4_3 A C (A.length : Int) (0 : Int)) = true) (.ok false)
    .no)))
def qs_mk (p : Bool) : Res := [(false, [⟨.bool, .sh, TC.b p⟩])]
noncomputable def qs_c (A C : LL) : Bool := is (Typed tab (.slice 9) (.l A))
noncomputable def qs_v (A C : LL) : Bool := allEq E_9 A C
theorem qs_l (A C : LL) : (qs_c A C) = true → (qs_t A C).val = some (qs_v A C) := by
  intro h
  have ht := is_iff.1 h
  unfold qs_t
  by_cases hl : A.length = C.length
  · refine Tr.n (by simp [hl]) ?_
    cases hk : allEq E_9 A C with
    | true =>
      refine Tr.t (show allEq E_9 A C = true from hk) ?_
      refine Tr.t (is_true ⟨hl, rfl, ht, rfl⟩) ?_
      show _ = some (allEq E_9 A C); rw [hk]; rfl
    | false =>
      refine Tr.n (show ¬allEq E_9 A C = true from by rw [hk]; simp) ?_
      refine Tr.t (is_true ⟨hl, rfl, ht, rfl⟩) ?_
      show _ = some (allEq E_9 A C); rw [hk]; rfl
  · refine Tr.t (by simp; omega) ?_
    show _ = some (allEq E_9 A C)
    rw [allEq_ne hl]
    rfl
noncomputable def qs_S : List Arg → Option (Bool × Res) := fun xs => match xs with
  | [(false, [(.slice 9, TC.l A)]), (false, [(.slice 9, TC.l C)])] => some ((qs_c A C), qs_mk (qs_v A C))
  | _ => .none
theorem qs_e (A C : LL) : runF tab FT D32 live 131 qs_lo [(false, [(.slice 9, TC.l A)]), (false, [(.slice 9, TC.l C)])] = (qs_t A C).run fun p => some (qs_mk p) := by kernel_rfl
theorem qs_s : ∀ xs r, qs_S xs = some (true, r) → runF tab FT D32 live 131 qs_lo xs = some r := by
  intro xs r h
  unfold qs_S at h
  split at h
  · simp only [Option.some.injEq, Prod.mk.injEq] at h
    obtain ⟨h1, rfl⟩ := h
    exact fun_told (qs_e _ _) (qs_l _ _) h1
  · cases h
noncomputable def D33 : Dt := also D32 131 qs_S
theorem d33 : DOk Go.Proofs.Try.prog tab D33 := d32.also mixed_ok tab_ok names_ok (fnLoops_one (by kernel_rfl) qs_is4) qs_s
def E_2 (x y : List TC) : Bool := ((nth x 0).int == (nth y 0).int)
abbrev qu_4_σ := LL × LL × Int × Int
abbrev qu_4_ω := (Unit) ⊕ (Unit)
noncomputable def qu_4_step (A C : LL) (m i : Int) : Tr (qu_4_σ ⊕ qu_4_ω) := (.ite ((decide (i < m)) = true) (.ite ((0 : Int) ≤ i ∧ i < (A.length : Int)) (.ite ((0 : Int) ≤ i ∧ i < (C.length : Int)) (.ite ((!((nth (row A i) 0).int == (nth (row C i) 0).int)) = true) (.ok (.inr (.inl ())))
     (.ok (.inl (A, C, m, (IntKind.wrap .i64 (i + (1 : Int)))))))
    .no)
   .no)
  (.ok (.inr (.inr ()))))
noncomputable def qu_4_st : qu_4_σ → Tr (qu_4_σ ⊕ qu_4_ω) := fun x => (qu_4_step (x.1) (x.2.1) (x.2.2.1) (x.2.2.2))
noncomputable def qu_k4_1 (A C : LL) (m i : Int) : Bool := allEq E_2 A C
noncomputable def qu_o4_2 (A C : LL) (m i : Int) : Bool := is (A.length = C.length ∧ i = 0 ∧ Typed tab (.slice 2) (.l A) ∧ m = (A.length : Int))
noncomputable def qu_o4_3 (A C : LL) (m i : Int) : Bool := is (A.length = C.length ∧ i = 0 ∧ Typed tab (.slice 2) (.l A) ∧ m = (A.length : Int))
noncomputable def qu_4_fin (A C : LL) (m i : Int) : Told qu_4_ω := (.br (qu_k4_1 A C m i) (.leaf (qu_o4_2 A C m i) (.inr ())) (.leaf (qu_o4_3 A C m i) (.inl ())))
def qu_4_sl (x : qu_4_σ) : List Slot := [⟨.val false [⟨.slice 2, .sh, TC.l (x.1)⟩], ⟨0, 0⟩⟩, ⟨.val false [⟨.slice 2, .sh, TC.l (x.2.1)⟩], ⟨0, 0⟩⟩, ⟨.val false [⟨.int .i64, .sh, TC.i (x.2.2.1)⟩], ⟨0, 0⟩⟩, ⟨.val false [⟨.int .i64, .sh, TC.i (x.2.2.2)⟩], ⟨0, 0⟩⟩]
def qu_4_out : qu_4_ω → Ex × List Slot := (Sum.elim (fun x => (.ret, [⟨.val false [⟨.bool, .sh, TC.b false⟩], ⟨0, 0⟩⟩])) (fun x => (.exit 0, [Slot.none])))
noncomputable def qu_lo4 : List Slot → Option (Told (Ex × List Slot)) := fun s => match s with
  | [⟨.val false [⟨.slice 2, .sh, TC.l A⟩], ⟨0, 0⟩⟩, ⟨.val false [⟨.slice 2, .sh, TC.l C⟩], ⟨0, 0⟩⟩, ⟨.val false [⟨.int .i64, .sh, TC.i m⟩], ⟨0, 0⟩⟩, ⟨.val false [⟨.int .i64, .sh, TC.i i⟩], ⟨0, 0⟩⟩] => some (((qu_4_fin A C m i)).map qu_4_out)
  | _ => .none
noncomputable def qu_lo : LoopTeller := fun r s => bif Nat.beq r 4 then qu_lo4 s else .none
theorem qu_4_r (A C : LL) (m i : Int) (fuel : Nat) : rounds (rnd tab FT D33 live 132 qu_lo 0 4) leave (fuel + 1) (qu_4_sl (A, C, m, i)) = ((qu_4_step A C m i)).run (goOn (fun s => rounds (rnd tab FT D33 live 132 qu_lo 0 4) leave fuel (qu_4_sl s)) fun w => some (qu_4_out w)) := by kernel_rfl
theorem qu_4_h (A C : LL) (m i : Int) (ow : qu_4_ω) : ((qu_4_fin A C m i)).val = some ow → ∃ fuel, loopN qu_4_st fuel (A, C, m, i) = some ow := by
  intro h
  have key : A.length = C.length → Typed tab (.slice 2) (.l A) → loopN qu_4_st (A.length + 1) (A, C, (A.length : Int), 0) = some (if allEq E_2 A C = true then .inr () else .inl ()) := by
    intro hl ht
    have hlen : A.length ≤ 140737488351232 := by have := typed_room ht; simp only [show (tab 2).bytes = 8 from rfl] at this; omega
    refine loopN_allEq A C E_2 (fun i => (A, C, (A.length : Int), (i : Int))) _ _ hl (fun i hi => ?_) ?_ A.length 0 (by omega)
    · show (qu_4_step A C (A.length : Int) (i : Int)).val = _
      unfold qu_4_step
      refine Tr.t (by simp; omega) ?_
      refine Tr.t (by constructor <;> omega) ?_
      refine Tr.t (by constructor <;> omega) ?_
      rw [wrap64 (i := (i : Int) + 1) (by omega) (by omega)]
      rw [Tr.val_br]
      show (if (!(E_2 (A.getD i []) (C.getD i []))) = true then _ else _) = _
      cases E_2 (A.getD i []) (C.getD i []) <;> rfl
    · show (qu_4_step A C (A.length : Int) (A.length : Int)).val = _
      refine Tr.n (by simp) ?_
      rfl
  simp only [qu_4_fin, Told.val] at h
  cases hk : allEq E_2 A C with
  | true =>
    rw [if_pos (show qu_k4_1 A C m i = true from hk)] at h
    split at h
    · rename_i ho
      obtain ⟨hl, rfl, ht, rfl⟩ := is_iff.1 ho
      cases h
      refine ⟨_, (key hl ht).trans ?_⟩
      rw [hk]; rfl
    · cases h
  | false =>
    rw [if_neg (show ¬qu_k4_1 A C m i = true from by rw [show qu_k4_1 A C m i = allEq E_2 A C from rfl, hk]; simp)] at h
    split at h
    · rename_i ho
      obtain ⟨hl, rfl, ht, rfl⟩ := is_iff.1 ho
      cases h
      refine ⟨_, (key hl ht).trans ?_⟩
      rw [hk]; rfl
    · cases h
theorem qu_is4 : LoopIs tab FT D33 live 132 qu_lo 0 4 := by
  refine loop_told (sl := qu_4_sl) (step := qu_4_st) (out := qu_4_out) (lor := qu_lo4) (fin := fun x => (qu_4_fin (x.1) (x.2.1) (x.2.2.1) (x.2.2.2))) (fun _ => rfl) ?_ (fun x n => qu_4_r x.1 x.2.1 x.2.2.1 x.2.2.2 n) (fun x ow => qu_4_h x.1 x.2.1 x.2.2.1 x.2.2.2 ow)
  intro s t h
  unfold qu_lo4 at h
  split at h
  · cases h; exact ⟨(_, _, _, _), rfl, rfl⟩
  · cases h
noncomputable def qu_t (A C : LL) : Tr (Bool) := (.ite ((!((A.length : Int) == (C.length : Int))) = true) (.ok false)
  (.ite ((qu_k4_1 A C (A.length : Int) (0 : Int)) = true) (.ite ((qu_o4_2 A C (A.length : Int) (0 : Int)) = true) (.ok true)
    .no)
   (.ite ((qu_o4_3 A C (A.length : Int) (0 : Int)) = true) (.ok false)
    .no)))
def qu_mk (p : Bool) : Res := [(false, [⟨.bool, .sh, TC.b p⟩])]
noncomputable def qu_c (A C : LL) : Bool := is (Typed tab (.slice 2) (.l A))
noncomputable def qu_v (A C : LL) : Bool := allEq E_2 A C
theorem qu_l (A C : LL) : (qu_c A C) = true → (qu_t A C).val = some (qu_v A C) := by
  intro h
  have ht := is_iff.1 h
  unfold qu_t
  by_cases hl : A.length = C.length
  · refine Tr.n (by simp [hl]) ?_
    cases hk : allEq E_2 A C with
    | true =>
      refine Tr.t (show allEq E_2 A C = true from hk) ?_
      refine Tr.t (is_true ⟨hl, rfl, ht, rfl⟩) ?_
      show _ = some (allEq E_2 A C); rw [hk]; rfl
    | false =>
      refine Tr.n (show ¬allEq E_2 A C = true from by rw [hk]; simp) ?_
      refine Tr.t (is_true ⟨hl, rfl, ht, rfl⟩) ?_
      show _ = some (allEq E_2 A C); rw [hk]; rfl
  · refine Tr.t (by simp; omega) ?_
    show _ = some (allEq E_2 A C)
    rw [allEq_ne hl]
    rfl
noncomputable def qu_S : List Arg → Option (Bool × Res) := fun xs => match xs with
  | [(false, [(.slice 2, TC.l A)]), (false, [(.slice 2, TC.l C)])] => some ((qu_c A C), qu_mk (qu_v A C))
  | _ => .none
theorem qu_e (A C : LL) : runF tab FT D33 live 132 qu_lo [(false, [(.slice 2, TC.l A)]), (false, [(.slice 2, TC.l C)])] = (qu_t A C).run fun p => some (qu_mk p) := by kernel_rfl
theorem qu_s : ∀ xs r, qu_S xs = some (true, r) → runF tab FT D33 live 132 qu_lo xs = some r := by
  intro xs r h
  unfold qu_S at h
  split at h
  · simp only [Option.some.injEq, Prod.mk.injEq] at h
    obtain ⟨h1, rfl⟩ := h
    exact fun_told (qu_e _ _) (qu_l _ _) h1
  · cases h
noncomputable def D34 : Dt := also D33 132 qu_S
theorem d34 : DOk Go.Proofs.Try.prog tab D34 := d33.also mixed_ok tab_ok names_ok (fnLoops_one (by kernel_rfl) qu_is4) qu_s
theorem form_9 {A : LL} (h : Typed tab (.slice 9) (.l A)) {x : List TC} (hx : x ∈ A) : x = [TC.s (nth x 0).str] := by
  obtain ⟨hl, hk⟩ := typed_elem h hx
  have e0 : TC.s (nth x 0).str = nth x 0 := typed_str_eq (hk 0 (by decide))
  rw [e0]
  exact row_eta hl
theorem form_2 {A : LL} (h : Typed tab (.slice 2) (.l A)) {x : List TC} (hx : x ∈ A) : x = [TC.i (nth x 0).int] := by
  obtain ⟨hl, hk⟩ := typed_elem h hx
  have e0 : TC.i (nth x 0).int = nth x 0 := typed_int_eq (hk 0 (by decide))
  rw [e0]
  exact row_eta hl
theorem form_71 {A : LL} (h : Typed tab (.slice 71) (.l A)) {x : List TC} (hx : x ∈ A) : x = [TC.s (nth x 0).str, TC.i (nth x 1).int, TC.i (nth x 2).int, TC.i (nth x 3).int, TC.b (nth x 4).bool, TC.b (nth x 5).bool, TC.l (nth x 6).list, TC.l (nth x 7).list, TC.l (nth x 8).list, TC.l (nth x 9).list, TC.i (nth x 10).int] := by
  obtain ⟨hl, hk⟩ := typed_elem h hx
  have e0 : TC.s (nth x 0).str = nth x 0 := typed_str_eq (hk 0 (by decide))
  have e1 : TC.i (nth x 1).int = nth x 1 := typed_int_eq (hk 1 (by decide))
  have e2 : TC.i (nth x 2).int = nth x 2 := typed_int_eq (hk 2 (by decide))
  have e3 : TC.i (nth x 3).int = nth x 3 := typed_int_eq (hk 3 (by decide))
  have e4 : TC.b (nth x 4).bool = nth x 4 := typed_bool_eq (hk 4 (by decide))
  have e5 : TC.b (nth x 5).bool = nth x 5 := typed_bool_eq (hk 5 (by decide))
  have e6 : TC.l (nth x 6).list = nth x 6 := typed_list_eq (hk 6 (by decide))
  have e7 : TC.l (nth x 7).list = nth x 7 := typed_list_eq (hk 7 (by decide))
  have e8 : TC.l (nth x 8).list = nth x 8 := typed_list_eq (hk 8 (by decide))
  have e9 : TC.l (nth x 9).list = nth x 9 := typed_list_eq (hk 9 (by decide))
  have e10 : TC.i (nth x 10).int = nth x 10 := typed_int_eq (hk 10 (by decide))
  rw [e0, e1, e2, e3, e4, e5, e6, e7, e8, e9, e10]
  exact row_eta hl
theorem form_32 {A : LL} (h : Typed tab (.slice 32) (.l A)) {x : List TC} (hx : x ∈ A) : x = [TC.i (nth x 0).int, TC.i (nth x 1).int, TC.b (nth x 2).bool, TC.b (nth x 3).bool, TC.l (nth x 4).list, TC.l (nth x 5).list, TC.l (nth x 6).list, TC.l (nth x 7).list, TC.i (nth x 8).int] := by
  obtain ⟨hl, hk⟩ := typed_elem h hx
  have e0 : TC.i (nth x 0).int = nth x 0 := typed_int_eq (hk 0 (by decide))
  have e1 : TC.i (nth x 1).int = nth x 1 := typed_int_eq (hk 1 (by decide))
  have e2 : TC.b (nth x 2).bool = nth x 2 := typed_bool_eq (hk 2 (by decide))
  have e3 : TC.b (nth x 3).bool = nth x 3 := typed_bool_eq (hk 3 (by decide))
  have e4 : TC.l (nth x 4).list = nth x 4 := typed_list_eq (hk 4 (by decide))
  have e5 : TC.l (nth x 5).list = nth x 5 := typed_list_eq (hk 5 (by decide))
  have e6 : TC.l (nth x 6).list = nth x 6 := typed_list_eq (hk 6 (by decide))
  have e7 : TC.l (nth x 7).list = nth x 7 := typed_list_eq (hk 7 (by decide))
  have e8 : TC.i (nth x 8).int = nth x 8 := typed_int_eq (hk 8 (by decide))
  rw [e0, e1, e2, e3, e4, e5, e6, e7, e8]
  exact row_eta hl
section
class qbf_O where n : Nat
variable [i_impl_SameType : qbf_O]
noncomputable def qbf_rc (k s : Int) (sg bg : Bool) (NA NU ME BA : LL) (ct k2 s2 : Int) (sg2 bg2 : Bool) (NA2 NU2 ME2 BA2 : LL) (ct2 : Int) : Bool := is (max (rowsDep ME) (rowsDep BA) < qbf_O.n ∧ Typed tab (.slice 9) (.l NA) ∧ Typed tab (.slice 2) (.l NU) ∧ Typed tab (.slice 71) (.l ME) ∧ Typed tab (.slice 32) (.l BA) ∧ Typed tab (.slice 9) (.l NA2) ∧ Typed tab (.slice 2) (.l NU2) ∧ Typed tab (.slice 71) (.l ME2) ∧ Typed tab (.slice 32) (.l BA2))
noncomputable def qbf_rv (k s : Int) (sg bg : Bool) (NA NU ME BA : LL) (ct k2 s2 : Int) (sg2 bg2 : Bool) (NA2 NU2 ME2 BA2 : LL) (ct2 : Int) : Bool := sameV k s sg bg NA NU ME BA ct k2 s2 sg2 bg2 NA2 NU2 ME2 BA2 ct2
def qbf_rmk (p : Bool) : Res := [(false, [⟨.bool, .sh, TC.b p⟩])]
noncomputable def qbf_rS : List Arg → Option (Bool × Res) := fun xs => match xs with
  | [(true, [(.int .i64, TC.i k), (.int .i64, TC.i s), (.bool, TC.b sg), (.bool, TC.b bg), (.slice 9, TC.l NA), (.slice 2, TC.l NU), (.slice 71, TC.l ME), (.slice 32, TC.l BA), (.int .i64, TC.i ct)]), (true, [(.int .i64, TC.i k2), (.int .i64, TC.i s2), (.bool, TC.b sg2), (.bool, TC.b bg2), (.slice 9, TC.l NA2), (.slice 2, TC.l NU2), (.slice 71, TC.l ME2), (.slice 32, TC.l BA2), (.int .i64, TC.i ct2)])] => some ((qbf_rc k s sg bg NA NU ME BA ct k2 s2 sg2 bg2 NA2 NU2 ME2 BA2 ct2), qbf_rmk (qbf_rv k s sg bg NA NU ME BA ct k2 s2 sg2 bg2 NA2 NU2 ME2 BA2 ct2))
  | _ => .none
noncomputable def D35 : Dt := also D34 102 qbf_rS
class qbf_G : Prop where ok : DOk Go.Proofs.Try.prog tab D35
variable [g_impl_SameType : qbf_G]
theorem d35 : DOk Go.Proofs.Try.prog tab D35 := qbf_G.ok
noncomputable def qch_t (a0 : BS) (a1 a2 a3 : Int) (a4 a5 : Bool) (a6 a7 a8 a9 : LL) (a10 : Int) (a11 : BS) (a12 a13 a14 : Int) (a15 a16 : Bool) (a17 a18 a19 a20 : LL) (a21 : Int) : Tr (Bool) := (.ite ((a0 == a11) = true) (.ite ((a1 == a12) = true) (.ite ((qbf_rc a2 a3 a4 a5 a6 a7 a8 a9 a10 a13 a14 a15 a16 a17 a18 a19 a20 a21) = true) (.ok (qbf_rv a2 a3 a4 a5 a6 a7 a8 a9 a10 a13 a14 a15 a16 a17 a18 a19 a20 a21))
    .no)
   (.ok false))
  (.ok false))
def qch_mk (p : Bool) : Res := [(false, [⟨.bool, .sh, TC.b p⟩])]
noncomputable def qch_c (a0 : BS) (a1 a2 a3 : Int) (a4 a5 : Bool) (a6 a7 a8 a9 : LL) (a10 : Int) (a11 : BS) (a12 a13 a14 : Int) (a15 a16 : Bool) (a17 a18 a19 a20 : LL) (a21 : Int) : Bool := (bif (a0 == a11) then (bif (a1 == a12) then ((qbf_rc a2 a3 a4 a5 a6 a7 a8 a9 a10 a13 a14 a15 a16 a17 a18 a19 a20 a21) && true) else true) else true)
noncomputable def qch_v (a0 : BS) (a1 a2 a3 : Int) (a4 a5 : Bool) (a6 a7 a8 a9 : LL) (a10 : Int) (a11 : BS) (a12 a13 a14 : Int) (a15 a16 : Bool) (a17 a18 a19 a20 : LL) (a21 : Int) : Bool := (bif (a0 == a11) then (bif (a1 == a12) then (qbf_rv a2 a3 a4 a5 a6 a7 a8 a9 a10 a13 a14 a15 a16 a17 a18 a19 a20 a21) else false) else false)
theorem qch_l (a0 : BS) (a1 a2 a3 : Int) (a4 a5 : Bool) (a6 a7 a8 a9 : LL) (a10 : Int) (a11 : BS) (a12 a13 a14 : Int) (a15 a16 : Bool) (a17 a18 a19 a20 : LL) (a21 : Int) : (qch_c a0 a1 a2 a3 a4 a5 a6 a7 a8 a9 a10 a11 a12 a13 a14 a15 a16 a17 a18 a19 a20 a21) = true → (qch_t a0 a1 a2 a3 a4 a5 a6 a7 a8 a9 a10 a11 a12 a13 a14 a15 a16 a17 a18 a19 a20 a21).val = some (qch_v a0 a1 a2 a3 a4 a5 a6 a7 a8 a9 a10 a11 a12 a13 a14 a15 a16 a17 a18 a19 a20 a21) := by
  unfold qch_t qch_v qch_c
  exact fun h => (Tr.ss h (fun h => (Tr.ss h (fun h => (Tr.gb h fun h => rfl)) (fun h => rfl))) (fun h => rfl))
noncomputable def qch_S : List Arg → Option (Bool × Res) := fun xs => match xs with
  | [(true, [(.str, TC.s a0), (.int .i64, TC.i a1), (.int .i64, TC.i a2), (.int .i64, TC.i a3), (.bool, TC.b a4), (.bool, TC.b a5), (.slice 9, TC.l a6), (.slice 2, TC.l a7), (.slice 71, TC.l a8), (.slice 32, TC.l a9), (.int .i64, TC.i a10)]), (true, [(.str, TC.s a11), (.int .i64, TC.i a12), (.int .i64, TC.i a13), (.int .i64, TC.i a14), (.bool, TC.b a15), (.bool, TC.b a16), (.slice 9, TC.l a17), (.slice 2, TC.l a18), (.slice 71, TC.l a19), (.slice 32, TC.l a20), (.int .i64, TC.i a21)])] => some ((qch_c a0 a1 a2 a3 a4 a5 a6 a7 a8 a9 a10 a11 a12 a13 a14 a15 a16 a17 a18 a19 a20 a21), qch_mk (qch_v a0 a1 a2 a3 a4 a5 a6 a7 a8 a9 a10 a11 a12 a13 a14 a15 a16 a17 a18 a19 a20 a21))
  | _ => .none
theorem qch_e (a0 : BS) (a1 a2 a3 : Int) (a4 a5 : Bool) (a6 a7 a8 a9 : LL) (a10 : Int) (a11 : BS) (a12 a13 a14 : Int) (a15 a16 : Bool) (a17 a18 a19 a20 : LL) (a21 : Int) : runF tab FT D35 live 134 noLoops [(true, [(.str, TC.s a0), (.int .i64, TC.i a1), (.int .i64, TC.i a2), (.int .i64, TC.i a3), (.bool, TC.b a4), (.bool, TC.b a5), (.slice 9, TC.l a6), (.slice 2, TC.l a7), (.slice 71, TC.l a8), (.slice 32, TC.l a9), (.int .i64, TC.i a10)]), (true, [(.str, TC.s a11), (.int .i64, TC.i a12), (.int .i64, TC.i a13), (.int .i64, TC.i a14), (.bool, TC.b a15), (.bool, TC.b a16), (.slice 9, TC.l a17), (.slice 2, TC.l a18), (.slice 71, TC.l a19), (.slice 32, TC.l a20), (.int .i64, TC.i a21)])] = (qch_t a0 a1 a2 a3 a4 a5 a6 a7 a8 a9 a10 a11 a12 a13 a14 a15 a16 a17 a18 a19 a20 a21).run fun p => some (qch_mk p) := by kernel_rfl
theorem qch_s : ∀ xs r, qch_S xs = some (true, r) → runF tab FT D35 live 134 noLoops xs = some r := by
  intro xs r h
  unfold qch_S at h
  split at h
  · simp only [Option.some.injEq, Prod.mk.injEq] at h
    obtain ⟨h1, rfl⟩ := h
    exact fun_told (qch_e _ _ _ _ _ _ _ _ _ _ _ _ _ _ _ _ _ _ _ _ _ _) (qch_l _ _ _ _ _ _ _ _ _ _ _ _ _ _ _ _ _ _ _ _ _ _) h1
  · cases h
noncomputable def D36 : Dt := also D35 134 qch_S
theorem d36 : DOk Go.Proofs.Try.prog tab D36 := d35.also mixed_ok tab_ok names_ok noLoops_ok qch_s
noncomputable def qb_E (x y : List TC) : Bool := qch_v ((nth x 0).str) ((nth x 1).int) ((nth x 2).int) ((nth x 3).int) ((nth x 4).bool) ((nth x 5).bool) ((nth x 6).list) ((nth x 7).list) ((nth x 8).list) ((nth x 9).list) ((nth x 10).int) ((nth y 0).str) ((nth y 1).int) ((nth y 2).int) ((nth y 3).int) ((nth y 4).bool) ((nth y 5).bool) ((nth y 6).list) ((nth y 7).list) ((nth y 8).list) ((nth y 9).list) ((nth y 10).int)
abbrev qb_4_σ := LL × LL × Int × Int
abbrev qb_4_ω := (Unit) ⊕ (Unit)
noncomputable def qb_4_step (C A : LL) (m i : Int) : Tr (qb_4_σ ⊕ qb_4_ω) := (.ite ((decide (i < m)) = true) (.ite ((0 : Int) ≤ i ∧ i < (A.length : Int)) (.ite ((0 : Int) ≤ i ∧ i < (C.length : Int)) (.ite ((qch_c ((nth (row A i) 0).str) ((nth (row A i) 1).int) ((nth (row A i) 2).int) ((nth (row A i) 3).int) ((nth (row A i) 4).bool) ((nth (row A i) 5).bool) ((nth (row A i) 6).list) ((nth (row A i) 7).list) ((nth (row A i) 8).list) ((nth (row A i) 9).list) ((nth (row A i) 10).int) ((nth (row C i) 0).str) ((nth (row C i) 1).int) ((nth (row C i) 2).int) ((nth (row C i) 3).int) ((nth (row C i) 4).bool) ((nth (row C i) 5).bool) ((nth (row C i) 6).list) ((nth (row C i) 7).list) ((nth (row C i) 8).list) ((nth (row C i) 9).list) ((nth (row C i) 10).int)) = true) (.ite ((!(qch_v ((nth (row A i) 0).str) ((nth (row A i) 1).int) ((nth (row A i) 2).int) ((nth (row A i) 3).int) ((nth (row A i) 4).bool) ((nth (row A i) 5).bool) ((nth (row A i) 6).list) ((nth (row A i) 7).list) ((nth (row A i) 8).list) ((nth (row A i) 9).list) ((nth (row A i) 10).int) ((nth (row C i) 0).str) ((nth (row C i) 1).int) ((nth (row C i) 2).int) ((nth (row C i) 3).int) ((nth (row C i) 4).bool) ((nth (row C i) 5).bool) ((nth (row C i) 6).list) ((nth (row C i) 7).list) ((nth (row C i) 8).list) ((nth (row C i) 9).list) ((nth (row C i) 10).int))) = true) (.ok (.inr (.inl ())))
      (.ok (.inl (C, A, m, (IntKind.wrap .i64 (i + (1 : Int)))))))
     .no)
    .no)
   .no)
  (.ok (.inr (.inr ()))))
noncomputable def qb_4_st : qb_4_σ → Tr (qb_4_σ ⊕ qb_4_ω) := fun x => (qb_4_step (x.1) (x.2.1) (x.2.2.1) (x.2.2.2))
noncomputable def qb_k4_1 (C A : LL) (m i : Int) : Bool := allEq qb_E A C
noncomputable def qb_o4_2 (C A : LL) (m i : Int) : Bool := is (A.length = C.length ∧ i = 0 ∧ Typed tab (.slice 71) (.l A) ∧ m = (A.length : Int) ∧ (∀ x y : List TC, x ∈ A → y ∈ C → qch_c ((nth x 0).str) ((nth x 1).int) ((nth x 2).int) ((nth x 3).int) ((nth x 4).bool) ((nth x 5).bool) ((nth x 6).list) ((nth x 7).list) ((nth x 8).list) ((nth x 9).list) ((nth x 10).int) ((nth y 0).str) ((nth y 1).int) ((nth y 2).int) ((nth y 3).int) ((nth y 4).bool) ((nth y 5).bool) ((nth y 6).list) ((nth y 7).list) ((nth y 8).list) ((nth y 9).list) ((nth y 10).int) = true))
noncomputable def qb_o4_3 (C A : LL) (m i : Int) : Bool := is (A.length = C.length ∧ i = 0 ∧ Typed tab (.slice 71) (.l A) ∧ m = (A.length : Int) ∧ (∀ x y : List TC, x ∈ A → y ∈ C → qch_c ((nth x 0).str) ((nth x 1).int) ((nth x 2).int) ((nth x 3).int) ((nth x 4).bool) ((nth x 5).bool) ((nth x 6).list) ((nth x 7).list) ((nth x 8).list) ((nth x 9).list) ((nth x 10).int) ((nth y 0).str) ((nth y 1).int) ((nth y 2).int) ((nth y 3).int) ((nth y 4).bool) ((nth y 5).bool) ((nth y 6).list) ((nth y 7).list) ((nth y 8).list) ((nth y 9).list) ((nth y 10).int) = true))
noncomputable def qb_4_fin (C A : LL) (m i : Int) : Told qb_4_ω := (.br (qb_k4_1 C A m i) (.leaf (qb_o4_2 C A m i) (.inr ())) (.leaf (qb_o4_3 C A m i) (.inl ())))
def qb_4_sl (x : qb_4_σ) : List Slot := [⟨.val false [⟨.slice 71, .sh, TC.l (x.1)⟩], ⟨0, 0⟩⟩, ⟨.val false [⟨.func, .sh, TC.f 134 []⟩], ⟨0, 0⟩⟩, ⟨.val false [⟨.slice 71, .sh, TC.l (x.2.1)⟩], ⟨0, 0⟩⟩, ⟨.val false [⟨.int .i64, .sh, TC.i (x.2.2.1)⟩], ⟨0, 0⟩⟩, ⟨.val false [⟨.int .i64, .sh, TC.i (x.2.2.2)⟩], ⟨0, 0⟩⟩]
def qb_4_out : qb_4_ω → Ex × List Slot := (Sum.elim (fun x => (.ret, [⟨.val false [⟨.bool, .sh, TC.b false⟩], ⟨0, 0⟩⟩])) (fun x => (.exit 0, [Slot.none])))
noncomputable def qb_lo4 : List Slot → Option (Told (Ex × List Slot)) := fun s => match s with
  | [⟨.val false [⟨.slice 71, .sh, TC.l C⟩], ⟨0, 0⟩⟩, ⟨.val false [⟨.func, .sh, TC.f 134 []⟩], ⟨0, 0⟩⟩, ⟨.val false [⟨.slice 71, .sh, TC.l A⟩], ⟨0, 0⟩⟩, ⟨.val false [⟨.int .i64, .sh, TC.i m⟩], ⟨0, 0⟩⟩, ⟨.val false [⟨.int .i64, .sh, TC.i i⟩], ⟨0, 0⟩⟩] => some (((qb_4_fin C A m i)).map qb_4_out)
  | _ => .none
noncomputable def qb_lo : LoopTeller := fun r s => bif Nat.beq r 4 then qb_lo4 s else .none
theorem qb_4_r (C A : LL) (m i : Int) (fuel : Nat) : rounds (rnd tab FT D36 live 133 qb_lo 0 4) leave (fuel + 1) (qb_4_sl (C, A, m, i)) = ((qb_4_step C A m i)).run (goOn (fun s => rounds (rnd tab FT D36 live 133 qb_lo 0 4) leave fuel (qb_4_sl s)) fun w => some (qb_4_out w)) := by kernel_rfl
theorem qb_4_h (C A : LL) (m i : Int) (ow : qb_4_ω) : ((qb_4_fin C A m i)).val = some ow → ∃ fuel, loopN qb_4_st fuel (C, A, m, i) = some ow := by
  intro h
  have key : A.length = C.length → Typed tab (.slice 71) (.l A) → (∀ x y : List TC, x ∈ A → y ∈ C → qch_c ((nth x 0).str) ((nth x 1).int) ((nth x 2).int) ((nth x 3).int) ((nth x 4).bool) ((nth x 5).bool) ((nth x 6).list) ((nth x 7).list) ((nth x 8).list) ((nth x 9).list) ((nth x 10).int) ((nth y 0).str) ((nth y 1).int) ((nth y 2).int) ((nth y 3).int) ((nth y 4).bool) ((nth y 5).bool) ((nth y 6).list) ((nth y 7).list) ((nth y 8).list) ((nth y 9).list) ((nth y 10).int) = true) → loopN qb_4_st (A.length + 1) (C, A, (A.length : Int), 0) = some (if allEq qb_E A C = true then .inr () else .inl ()) := by
    intro hl ht hr
    have hlen : A.length ≤ 140737488351232 := by have := typed_room ht; simp only [show (tab 71).bytes = 152 from rfl] at this; omega
    refine loopN_allEq A C qb_E (fun i => (C, A, (A.length : Int), (i : Int))) _ _ hl (fun i hi => ?_) ?_ A.length 0 (by omega)
    · show (qb_4_step C A (A.length : Int) (i : Int)).val = _
      unfold qb_4_step
      refine Tr.t (by simp; omega) ?_
      refine Tr.t (by constructor <;> omega) ?_
      refine Tr.t (by constructor <;> omega) ?_
      refine Tr.t (hr _ _ (mem_getD hi) (mem_getD (by omega))) ?_
      rw [wrap64 (i := (i : Int) + 1) (by omega) (by omega)]
      rw [Tr.val_br]
      show (if (!(qb_E (A.getD i []) (C.getD i []))) = true then _ else _) = _
      cases qb_E (A.getD i []) (C.getD i []) <;> rfl
    · show (qb_4_step C A (A.length : Int) (A.length : Int)).val = _
      refine Tr.n (by simp) ?_
      rfl
  simp only [qb_4_fin, Told.val] at h
  cases hk : allEq qb_E A C with
  | true =>
    rw [if_pos (show qb_k4_1 C A m i = true from hk)] at h
    split at h
    · rename_i ho
      obtain ⟨hl, rfl, ht, rfl, hr⟩ := is_iff.1 ho
      cases h
      refine ⟨_, (key hl ht hr).trans ?_⟩
      rw [hk]; rfl
    · cases h
  | false =>
    rw [if_neg (show ¬qb_k4_1 C A m i = true from by rw [show qb_k4_1 C A m i = allEq qb_E A C from rfl, hk]; simp)] at h
    split at h
    · rename_i ho
      obtain ⟨hl, rfl, ht, rfl, hr⟩ := is_iff.1 ho
      cases h
      refine ⟨_, (key hl ht hr).trans ?_⟩
      rw [hk]; rfl
    · cases h
theorem qb_is4 : LoopIs tab FT D36 live 133 qb_lo 0 4 := by
  refine loop_told (sl := qb_4_sl) (step := qb_4_st) (out := qb_4_out) (lor := qb_lo4) (fin := fun x => (qb_4_fin (x.1) (x.2.1) (x.2.2.1) (x.2.2.2))) (fun _ => rfl) ?_ (fun x n => qb_4_r x.1 x.2.1 x.2.2.1 x.2.2.2 n) (fun x ow => qb_4_h x.1 x.2.1 x.2.2.1 x.2.2.2 ow)
  intro s t h
  unfold qb_lo4 at h
  split at h
  · cases h; exact ⟨(_, _, _, _), rfl, rfl⟩
  · cases h
noncomputable def qb_t (A C : LL) : Tr (Bool) := (.ite ((!((A.length : Int) == (C.length : Int))) = true) (.ok false)
  (.ite ((qb_k4_1 C A (A.length : Int) (0 : Int)) = true) (.ite ((qb_o4_2 C A (A.length : Int) (0 : Int)) = true) (.ok true)
    .no)
   (.ite ((qb_o4_3 C A (A.length : Int) (0 : Int)) = true) (.ok false)
    .no)))
def qb_mk (p : Bool) : Res := [(false, [⟨.bool, .sh, TC.b p⟩])]
noncomputable def qb_c (A C : LL) : Bool := is (Typed tab (.slice 71) (.l A) ∧ (∀ x y : List TC, x ∈ A → y ∈ C → qch_c ((nth x 0).str) ((nth x 1).int) ((nth x 2).int) ((nth x 3).int) ((nth x 4).bool) ((nth x 5).bool) ((nth x 6).list) ((nth x 7).list) ((nth x 8).list) ((nth x 9).list) ((nth x 10).int) ((nth y 0).str) ((nth y 1).int) ((nth y 2).int) ((nth y 3).int) ((nth y 4).bool) ((nth y 5).bool) ((nth y 6).list) ((nth y 7).list) ((nth y 8).list) ((nth y 9).list) ((nth y 10).int) = true))
noncomputable def qb_v (A C : LL) : Bool := allEq qb_E A C
theorem qb_l (A C : LL) : (qb_c A C) = true → (qb_t A C).val = some (qb_v A C) := by
  intro h
  obtain ⟨ht, hr⟩ := is_iff.1 h
  unfold qb_t
  by_cases hl : A.length = C.length
  · refine Tr.n (by simp [hl]) ?_
    cases hk : allEq qb_E A C with
    | true =>
      refine Tr.t (show allEq qb_E A C = true from hk) ?_
      refine Tr.t (is_true ⟨hl, rfl, ht, rfl, hr⟩) ?_
      show _ = some (allEq qb_E A C); rw [hk]; rfl
    | false =>
      refine Tr.n (show ¬allEq qb_E A C = true from by rw [hk]; simp) ?_
      refine Tr.t (is_true ⟨hl, rfl, ht, rfl, hr⟩) ?_
      show _ = some (allEq qb_E A C); rw [hk]; rfl
  · refine Tr.t (by simp; omega) ?_
    show _ = some (allEq qb_E A C)
    rw [allEq_ne hl]; rfl
noncomputable def qb_S : List Arg → Option (Bool × Res) := fun xs => match xs with
  | [(false, [(.slice 71, TC.l A)]), (false, [(.slice 71, TC.l C)]), (false, [(.func, TC.f 134 [])])] => some ((qb_c A C), qb_mk (qb_v A C))
  | _ => .none
theorem qb_e (A C : LL) : runF tab FT D36 live 133 qb_lo [(false, [(.slice 71, TC.l A)]), (false, [(.slice 71, TC.l C)]), (false, [(.func, TC.f 134 [])])] = (qb_t A C).run fun p => some (qb_mk p) := by kernel_rfl
theorem qb_s : ∀ xs r, qb_S xs = some (true, r) → runF tab FT D36 live 133 qb_lo xs = some r := by
  intro xs r h
  unfold qb_S at h
  split at h
  · simp only [Option.some.injEq, Prod.mk.injEq] at h
    obtain ⟨h1, rfl⟩ := h
    exact fun_told (qb_e _ _) (qb_l _ _) h1
  · cases h
noncomputable def D37 : Dt := also D36 133 qb_S
theorem d37 : DOk Go.Proofs.Try.prog tab D37 := d36.also mixed_ok tab_ok names_ok (fnLoops_one (by kernel_rfl) qb_is4) qb_s
noncomputable def qc_E (x y : List TC) : Bool := qbf_rv ((nth x 0).int) ((nth x 1).int) ((nth x 2).bool) ((nth x 3).bool) ((nth x 4).list) ((nth x 5).list) ((nth x 6).list) ((nth x 7).list) ((nth x 8).int) ((nth y 0).int) ((nth y 1).int) ((nth y 2).bool) ((nth y 3).bool) ((nth y 4).list) ((nth y 5).list) ((nth y 6).list) ((nth y 7).list) ((nth y 8).int)
abbrev qc_4_σ := LL × LL × Int × Int
abbrev qc_4_ω := (Unit) ⊕ (Unit)
noncomputable def qc_4_step (C A : LL) (m i : Int) : Tr (qc_4_σ ⊕ qc_4_ω) := (.ite ((decide (i < m)) = true) (.ite ((0 : Int) ≤ i ∧ i < (A.length : Int)) (.ite ((0 : Int) ≤ i ∧ i < (C.length : Int)) (.ite ((qbf_rc ((nth (row A i) 0).int) ((nth (row A i) 1).int) ((nth (row A i) 2).bool) ((nth (row A i) 3).bool) ((nth (row A i) 4).list) ((nth (row A i) 5).list) ((nth (row A i) 6).list) ((nth (row A i) 7).list) ((nth (row A i) 8).int) ((nth (row C i) 0).int) ((nth (row C i) 1).int) ((nth (row C i) 2).bool) ((nth (row C i) 3).bool) ((nth (row C i) 4).list) ((nth (row C i) 5).list) ((nth (row C i) 6).list) ((nth (row C i) 7).list) ((nth (row C i) 8).int)) = true) (.ite ((!(qbf_rv ((nth (row A i) 0).int) ((nth (row A i) 1).int) ((nth (row A i) 2).bool) ((nth (row A i) 3).bool) ((nth (row A i) 4).list) ((nth (row A i) 5).list) ((nth (row A i) 6).list) ((nth (row A i) 7).list) ((nth (row A i) 8).int) ((nth (row C i) 0).int) ((nth (row C i) 1).int) ((nth (row C i) 2).bool) ((nth (row C i) 3).bool) ((nth (row C i) 4).list) ((nth (row C i) 5).list) ((nth (row C i) 6).list) ((nth (row C i) 7).list) ((nth (row C i) 8).int))) = true) (.ok (.inr (.inl ())))
      (.ok (.inl (C, A, m, (IntKind.wrap .i64 (i + (1 : Int)))))))
     .no)
    .no)
   .no)
  (.ok (.inr (.inr ()))))
noncomputable def qc_4_st : qc_4_σ → Tr (qc_4_σ ⊕ qc_4_ω) := fun x => (qc_4_step (x.1) (x.2.1) (x.2.2.1) (x.2.2.2))
noncomputable def qc_k4_1 (C A : LL) (m i : Int) : Bool := allEq qc_E A C
noncomputable def qc_o4_2 (C A : LL) (m i : Int) : Bool := is (A.length = C.length ∧ i = 0 ∧ Typed tab (.slice 32) (.l A) ∧ m = (A.length : Int) ∧ (∀ x y : List TC, x ∈ A → y ∈ C → qbf_rc ((nth x 0).int) ((nth x 1).int) ((nth x 2).bool) ((nth x 3).bool) ((nth x 4).list) ((nth x 5).list) ((nth x 6).list) ((nth x 7).list) ((nth x 8).int) ((nth y 0).int) ((nth y 1).int) ((nth y 2).bool) ((nth y 3).bool) ((nth y 4).list) ((nth y 5).list) ((nth y 6).list) ((nth y 7).list) ((nth y 8).int) = true))
noncomputable def qc_o4_3 (C A : LL) (m i : Int) : Bool := is (A.length = C.length ∧ i = 0 ∧ Typed tab (.slice 32) (.l A) ∧ m = (A.length : Int) ∧ (∀ x y : List TC, x ∈ A → y ∈ C → qbf_rc ((nth x 0).int) ((nth x 1).int) ((nth x 2).bool) ((nth x 3).bool) ((nth x 4).list) ((nth x 5).list) ((nth x 6).list) ((nth x 7).list) ((nth x 8).int) ((nth y 0).int) ((nth y 1).int) ((nth y 2).bool) ((nth y 3).bool) ((nth y 4).list) ((nth y 5).list) ((nth y 6).list) ((nth y 7).list) ((nth y 8).int) = true))
noncomputable def qc_4_fin (C A : LL) (m i : Int) : Told qc_4_ω := (.br (qc_k4_1 C A m i) (.leaf (qc_o4_2 C A m i) (.inr ())) (.leaf (qc_o4_3 C A m i) (.inl ())))
def qc_4_sl (x : qc_4_σ) : List Slot := [⟨.val false [⟨.slice 32, .sh, TC.l (x.1)⟩], ⟨0, 0⟩⟩, ⟨.val false [⟨.func, .sh, TC.f 102 []⟩], ⟨0, 0⟩⟩, ⟨.val false [⟨.slice 32, .sh, TC.l (x.2.1)⟩], ⟨0, 0⟩⟩, ⟨.val false [⟨.int .i64, .sh, TC.i (x.2.2.1)⟩], ⟨0, 0⟩⟩, ⟨.val false [⟨.int .i64, .sh, TC.i (x.2.2.2)⟩], ⟨0, 0⟩⟩]
def qc_4_out : qc_4_ω → Ex × List Slot := (Sum.elim (fun x => (.ret, [⟨.val false [⟨.bool, .sh, TC.b false⟩], ⟨0, 0⟩⟩])) (fun x => (.exit 0, [Slot.none])))
noncomputable def qc_lo4 : List Slot → Option (Told (Ex × List Slot)) := fun s => match s with
  | [⟨.val false [⟨.slice 32, .sh, TC.l C⟩], ⟨0, 0⟩⟩, ⟨.val false [⟨.func, .sh, TC.f 102 []⟩], ⟨0, 0⟩⟩, ⟨.val false [⟨.slice 32, .sh, TC.l A⟩], ⟨0, 0⟩⟩, ⟨.val false [⟨.int .i64, .sh, TC.i m⟩], ⟨0, 0⟩⟩, ⟨.val false [⟨.int .i64, .sh, TC.i i⟩], ⟨0, 0⟩⟩] => some (((qc_4_fin C A m i)).map qc_4_out)
  | _ => .none
noncomputable def qc_lo : LoopTeller := fun r s => bif Nat.beq r 4 then qc_lo4 s else .none
theorem qc_4_r (C A : LL) (m i : Int) (fuel : Nat) : rounds (rnd tab FT D37 live 135 qc_lo 0 4) leave (fuel + 1) (qc_4_sl (C, A, m, i)) = ((qc_4_step C A m i)).run (goOn (fun s => rounds (rnd tab FT D37 live 135 qc_lo 0 4) leave fuel (qc_4_sl s)) fun w => some (qc_4_out w)) := by kernel_rfl
theorem qc_4_h (C A : LL) (m i : Int) (ow : qc_4_ω) : ((qc_4_fin C A m i)).val = some ow → ∃ fuel, loopN qc_4_st fuel (C, A, m, i) = some ow := by
  intro h
  have key : A.length = C.length → Typed tab (.slice 32) (.l A) → (∀ x y : List TC, x ∈ A → y ∈ C → qbf_rc ((nth x 0).int) ((nth x 1).int) ((nth x 2).bool) ((nth x 3).bool) ((nth x 4).list) ((nth x 5).list) ((nth x 6).list) ((nth x 7).list) ((nth x 8).int) ((nth y 0).int) ((nth y 1).int) ((nth y 2).bool) ((nth y 3).bool) ((nth y 4).list) ((nth y 5).list) ((nth y 6).list) ((nth y 7).list) ((nth y 8).int) = true) → loopN qc_4_st (A.length + 1) (C, A, (A.length : Int), 0) = some (if allEq qc_E A C = true then .inr () else .inl ()) := by
    intro hl ht hr
    have hlen : A.length ≤ 140737488351232 := by have := typed_room ht; simp only [show (tab 32).bytes = 128 from rfl] at this; omega
    refine loopN_allEq A C qc_E (fun i => (C, A, (A.length : Int), (i : Int))) _ _ hl (fun i hi => ?_) ?_ A.length 0 (by omega)
    · show (qc_4_step C A (A.length : Int) (i : Int)).val = _
      unfold qc_4_step
      refine Tr.t (by simp; omega) ?_
      refine Tr.t (by constructor <;> omega) ?_
      refine Tr.t (by constructor <;> omega) ?_
      refine Tr.t (hr _ _ (mem_getD hi) (mem_getD (by omega))) ?_
      rw [wrap64 (i := (i : Int) + 1) (by omega) (by omega)]
      rw [Tr.val_br]
      show (if (!(qc_E (A.getD i []) (C.getD i []))) = true then _ else _) = _
      cases qc_E (A.getD i []) (C.getD i []) <;> rfl
    · show (qc_4_step C A (A.length : Int) (A.length : Int)).val = _
      refine Tr.n (by simp) ?_
      rfl
  simp only [qc_4_fin, Told.val] at h
  cases hk : allEq qc_E A C with
  | true =>
    rw [if_pos (show qc_k4_1 C A m i = true from hk)] at h
    split at h
    · rename_i ho
      obtain ⟨hl, rfl, ht, rfl, hr⟩ := is_iff.1 ho
      cases h
      refine ⟨_, (key hl ht hr).trans ?_⟩
      rw [hk]; rfl
    · cases h
  | false =>
    rw [if_neg (show ¬qc_k4_1 C A m i = true from by rw [show qc_k4_1 C A m i = allEq qc_E A C from rfl, hk]; simp)] at h
    split at h
    · rename_i ho
      obtain ⟨hl, rfl, ht, rfl, hr⟩ := is_iff.1 ho
      cases h
      refine ⟨_, (key hl ht hr).trans ?_⟩
      rw [hk]; rfl
    · cases h
theorem qc_is4 : LoopIs tab FT D37 live 135 qc_lo 0 4 := by
  refine loop_told (sl := qc_4_sl) (step := qc_4_st) (out := qc_4_out) (lor := qc_lo4) (fin := fun x => (qc_4_fin (x.1) (x.2.1) (x.2.2.1) (x.2.2.2))) (fun _ => rfl) ?_ (fun x n => qc_4_r x.1 x.2.1 x.2.2.1 x.2.2.2 n) (fun x ow => qc_4_h x.1 x.2.1 x.2.2.1 x.2.2.2 ow)
  intro s t h
  unfold qc_lo4 at h
  split at h
  · cases h; exact ⟨(_, _, _, _), rfl, rfl⟩
  · cases h
noncomputable def qc_t (A C : LL) : Tr (Bool) := (.ite ((!((A.length : Int) == (C.length : Int))) = true) (.ok false)
  (.ite ((qc_k4_1 C A (A.length : Int) (0 : Int)) = true) (.ite ((qc_o4_2 C A (A.length : Int) (0 : Int)) = true) (.ok true)
    .no)
   (.ite ((qc_o4_3 C A (A.length : Int) (0 : Int)) = true) (.ok false)
    .no)))
def qc_mk (p : Bool) : Res := [(false, [⟨.bool, .sh, TC.b p⟩])]
noncomputable def qc_c (A C : LL) : Bool := is (Typed tab (.slice 32) (.l A) ∧ (∀ x y : List TC, x ∈ A → y ∈ C → qbf_rc ((nth x 0).int) ((nth x 1).int) ((nth x 2).bool) ((nth x 3).bool) ((nth x 4).list) ((nth x 5).list) ((nth x 6).list) ((nth x 7).list) ((nth x 8).int) ((nth y 0).int) ((nth y 1).int) ((nth y 2).bool) ((nth y 3).bool) ((nth y 4).list) ((nth y 5).list) ((nth y 6).list) ((nth y 7).list) ((nth y 8).int) = true))
noncomputable def qc_v (A C : LL) : Bool := allEq qc_E A C
theorem qc_l (A C : LL) : (qc_c A C) = true → (qc_t A C).val = some (qc_v A C) := by
  intro h
  obtain ⟨ht, hr⟩ := is_iff.1 h
  unfold qc_t
  by_cases hl : A.length = C.length
  · refine Tr.n (by simp [hl]) ?_
    cases hk : allEq qc_E A C with
    | true =>
      refine Tr.t (show allEq qc_E A C = true from hk) ?_
      refine Tr.t (is_true ⟨hl, rfl, ht, rfl, hr⟩) ?_
      show _ = some (allEq qc_E A C); rw [hk]; rfl
    | false =>
      refine Tr.n (show ¬allEq qc_E A C = true from by rw [hk]; simp) ?_
      refine Tr.t (is_true ⟨hl, rfl, ht, rfl, hr⟩) ?_
      show _ = some (allEq qc_E A C); rw [hk]; rfl
  · refine Tr.t (by simp; omega) ?_
    show _ = some (allEq qc_E A C)
    rw [allEq_ne hl]; rfl
noncomputable def qc_S : List Arg → Option (Bool × Res) := fun xs => match xs with
  | [(false, [(.slice 32, TC.l A)]), (false, [(.slice 32, TC.l C)]), (false, [(.func, TC.f 102 [])])] => some ((qc_c A C), qc_mk (qc_v A C))
  | _ => .none
theorem qc_e (A C : LL) : runF tab FT D37 live 135 qc_lo [(false, [(.slice 32, TC.l A)]), (false, [(.slice 32, TC.l C)]), (false, [(.func, TC.f 102 [])])] = (qc_t A C).run fun p => some (qc_mk p) := by kernel_rfl
theorem qc_s : ∀ xs r, qc_S xs = some (true, r) → runF tab FT D37 live 135 qc_lo xs = some r := by
  intro xs r h
  unfold qc_S at h
  split at h
  · simp only [Option.some.injEq, Prod.mk.injEq] at h
    obtain ⟨h1, rfl⟩ := h
    exact fun_told (qc_e _ _) (qc_l _ _) h1
  · cases h
noncomputable def D38 : Dt := also D37 135 qc_S
theorem d38 : DOk Go.Proofs.Try.prog tab D38 := d37.also mixed_ok tab_ok names_ok (fnLoops_one (by kernel_rfl) qc_is4) qc_s
noncomputable def qbf_t (k s : Int) (sg bg : Bool) (NA NU ME BA : LL) (ct k2 s2 : Int) (sg2 bg2 : Bool) (NA2 NU2 ME2 BA2 : LL) (ct2 : Int) : Tr (Bool) := (.ite ((k == k2) = true) (.ite ((s == s2) = true) (.ite ((sg == sg2) = true) (.ite ((bg == bg2) = true) (.ite ((ct == ct2) = true) (.ite ((qs_c NA NA2) = true) (.ite ((qs_v NA NA2) = true) (.ite ((qu_c NU NU2) = true) (.ite ((qu_v NU NU2) = true) (.ite ((qb_c ME ME2) = true) (.ite ((qb_v ME ME2) = true) (.ite ((qc_c BA BA2) = true) (.ok (qc_v BA BA2))
             .no)
            (.ok false))
           .no)
          (.ok false))
         .no)
        (.ok false))
       .no)
      (.ok false))
     (.ok false))
    (.ok false))
   (.ok false))
  (.ok false))
def qbf_mk (p : Bool) : Res := [(false, [⟨.bool, .sh, TC.b p⟩])]
noncomputable def qbf_c (k s : Int) (sg bg : Bool) (NA NU ME BA : LL) (ct k2 s2 : Int) (sg2 bg2 : Bool) (NA2 NU2 ME2 BA2 : LL) (ct2 : Int) : Bool := (bif (k == k2) then (bif (s == s2) then (bif (sg == sg2) then (bif (bg == bg2) then (bif (ct == ct2) then ((qs_c NA NA2) && (bif (qs_v NA NA2) then ((qu_c NU NU2) && (bif (qu_v NU NU2) then ((qb_c ME ME2) && (bif (qb_v ME ME2) then ((qc_c BA BA2) && true) else true)) else true)) else true)) else true) else true) else true) else true) else true)
noncomputable def qbf_v (k s : Int) (sg bg : Bool) (NA NU ME BA : LL) (ct k2 s2 : Int) (sg2 bg2 : Bool) (NA2 NU2 ME2 BA2 : LL) (ct2 : Int) : Bool := (bif (k == k2) then (bif (s == s2) then (bif (sg == sg2) then (bif (bg == bg2) then (bif (ct == ct2) then (bif (qs_v NA NA2) then (bif (qu_v NU NU2) then (bif (qb_v ME ME2) then (qc_v BA BA2) else false) else false) else false) else false) else false) else false) else false) else false)
theorem qbf_l (k s : Int) (sg bg : Bool) (NA NU ME BA : LL) (ct k2 s2 : Int) (sg2 bg2 : Bool) (NA2 NU2 ME2 BA2 : LL) (ct2 : Int) : (qbf_c k s sg bg NA NU ME BA ct k2 s2 sg2 bg2 NA2 NU2 ME2 BA2 ct2) = true → (qbf_t k s sg bg NA NU ME BA ct k2 s2 sg2 bg2 NA2 NU2 ME2 BA2 ct2).val = some (qbf_v k s sg bg NA NU ME BA ct k2 s2 sg2 bg2 NA2 NU2 ME2 BA2 ct2) := by
  unfold qbf_t qbf_v qbf_c
  exact fun h => (Tr.ss h (fun h => (Tr.ss h (fun h => (Tr.ss h (fun h => (Tr.ss h (fun h => (Tr.ss h (fun h => (Tr.gb h fun h => (Tr.ss h (fun h => (Tr.gb h fun h => (Tr.ss h (fun h => (Tr.gb h fun h => (Tr.ss h (fun h => (Tr.gb h fun h => rfl)) (fun h => rfl)))) (fun h => rfl)))) (fun h => rfl)))) (fun h => rfl))) (fun h => rfl))) (fun h => rfl))) (fun h => rfl))) (fun h => rfl))
theorem qbf_e (k s : Int) (sg bg : Bool) (NA NU ME BA : LL) (ct k2 s2 : Int) (sg2 bg2 : Bool) (NA2 NU2 ME2 BA2 : LL) (ct2 : Int) : runF tab FT D38 live 102 noLoops [(true, [(.int .i64, TC.i k), (.int .i64, TC.i s), (.bool, TC.b sg), (.bool, TC.b bg), (.slice 9, TC.l NA), (.slice 2, TC.l NU), (.slice 71, TC.l ME), (.slice 32, TC.l BA), (.int .i64, TC.i ct)]), (true, [(.int .i64, TC.i k2), (.int .i64, TC.i s2), (.bool, TC.b sg2), (.bool, TC.b bg2), (.slice 9, TC.l NA2), (.slice 2, TC.l NU2), (.slice 71, TC.l ME2), (.slice 32, TC.l BA2), (.int .i64, TC.i ct2)])] = (qbf_t k s sg bg NA NU ME BA ct k2 s2 sg2 bg2 NA2 NU2 ME2 BA2 ct2).run fun p => some (qbf_mk p) := by kernel_rfl
theorem qbf_nx (k s : Int) (sg bg : Bool) (NA NU ME BA : LL) (ct k2 s2 : Int) (sg2 bg2 : Bool) (NA2 NU2 ME2 BA2 : LL) (ct2 : Int) : is (max (rowsDep ME) (rowsDep BA) < qbf_O.n + 1 ∧ Typed tab (.slice 9) (.l NA) ∧ Typed tab (.slice 2) (.l NU) ∧ Typed tab (.slice 71) (.l ME) ∧ Typed tab (.slice 32) (.l BA) ∧ Typed tab (.slice 9) (.l NA2) ∧ Typed tab (.slice 2) (.l NU2) ∧ Typed tab (.slice 71) (.l ME2) ∧ Typed tab (.slice 32) (.l BA2)) = true → (qbf_c k s sg bg NA NU ME BA ct k2 s2 sg2 bg2 NA2 NU2 ME2 BA2 ct2) = true ∧ (qbf_v k s sg bg NA NU ME BA ct k2 s2 sg2 bg2 NA2 NU2 ME2 BA2 ct2) = sameV k s sg bg NA NU ME BA ct k2 s2 sg2 bg2 NA2 NU2 ME2 BA2 ct2 := by
  intro h
  obtain ⟨hM, a4, a5, a6, a7, b4, b5, b6, b7⟩ := is_iff.1 h
  have q6 : ∀ x y, x ∈ ME → y ∈ ME2 → qbf_rc (nth x 2).int (nth x 3).int (nth x 4).bool (nth x 5).bool (nth x 6).list (nth x 7).list (nth x 8).list (nth x 9).list (nth x 10).int (nth y 2).int (nth y 3).int (nth y 4).bool (nth y 5).bool (nth y 6).list (nth y 7).list (nth y 8).list (nth y 9).list (nth y 10).int = true := fun x y hx hy => is_true ⟨by have a := dep_cell hx 8; have b := dep_cell hx 9; omega, typed_list ((typed_elem a6 hx).2 6 (by decide)), typed_list ((typed_elem a6 hx).2 7 (by decide)), typed_list ((typed_elem a6 hx).2 8 (by decide)), typed_list ((typed_elem a6 hx).2 9 (by decide)), typed_list ((typed_elem b6 hy).2 6 (by decide)), typed_list ((typed_elem b6 hy).2 7 (by decide)), typed_list ((typed_elem b6 hy).2 8 (by decide)), typed_list ((typed_elem b6 hy).2 9 (by decide))⟩
  have q7 : ∀ x y, x ∈ BA → y ∈ BA2 → qbf_rc (nth x 0).int (nth x 1).int (nth x 2).bool (nth x 3).bool (nth x 4).list (nth x 5).list (nth x 6).list (nth x 7).list (nth x 8).int (nth y 0).int (nth y 1).int (nth y 2).bool (nth y 3).bool (nth y 4).list (nth y 5).list (nth y 6).list (nth y 7).list (nth y 8).int = true := fun x y hx hy => is_true ⟨by have a := dep_cell hx 6; have b := dep_cell hx 7; omega, typed_list ((typed_elem a7 hx).2 4 (by decide)), typed_list ((typed_elem a7 hx).2 5 (by decide)), typed_list ((typed_elem a7 hx).2 6 (by decide)), typed_list ((typed_elem a7 hx).2 7 (by decide)), typed_list ((typed_elem b7 hy).2 4 (by decide)), typed_list ((typed_elem b7 hy).2 5 (by decide)), typed_list ((typed_elem b7 hy).2 6 (by decide)), typed_list ((typed_elem b7 hy).2 7 (by decide))⟩
  have c4 : qs_c NA NA2 = true := is_true a4
  have c5 : qu_c NU NU2 = true := is_true a5
  have c6 : qb_c ME ME2 = true := is_true ⟨a6, fun x y hx hy => by simp only [qch_c, q6 x y hx hy, Bool.and_true, bif_same]⟩
  have c7 : qc_c BA BA2 = true := is_true ⟨a7, q7⟩
  have v4 : qs_v NA NA2 = eqL NA NA2 := allEq_eqL (E := E_9) (fun x y hx hy => by
    constructor
    · intro h
      have hh : (nth x 0).str = (nth y 0).str := by
        simpa [E_9] using h
      have e0 := hh
      have hx' := form_9 a4 hx
      have hy' := form_9 b4 hy
      rw [hx', hy', e0]
    · rintro rfl
      simp [E_9])
  have v5 : qu_v NU NU2 = eqL NU NU2 := allEq_eqL (E := E_2) (fun x y hx hy => by
    constructor
    · intro h
      have hh : (nth x 0).int = (nth y 0).int := by
        simpa [E_2] using h
      have e0 := hh
      have hx' := form_2 a5 hx
      have hy' := form_2 b5 hy
      rw [hx', hy', e0]
    · rintro rfl
      simp [E_2])
  have v6 : qb_v ME ME2 = eqL ME ME2 := allEq_eqL (E := qb_E) (fun x y hx hy => by
    constructor
    · intro h
      have hh : (nth x 0).str = (nth y 0).str ∧ (nth x 1).int = (nth y 1).int ∧ (nth x 2).int = (nth y 2).int ∧ (nth x 3).int = (nth y 3).int ∧ (nth x 4).bool = (nth y 4).bool ∧ (nth x 5).bool = (nth y 5).bool ∧ (nth x 6).list = (nth y 6).list ∧ (nth x 7).list = (nth y 7).list ∧ (nth x 8).list = (nth y 8).list ∧ (nth x 9).list = (nth y 9).list ∧ (nth x 10).int = (nth y 10).int := by
        have h : (bif ((nth x 0).str == (nth y 0).str) then (bif ((nth x 1).int == (nth y 1).int) then sameV (nth x 2).int (nth x 3).int (nth x 4).bool (nth x 5).bool (nth x 6).list (nth x 7).list (nth x 8).list (nth x 9).list (nth x 10).int (nth y 2).int (nth y 3).int (nth y 4).bool (nth y 5).bool (nth y 6).list (nth y 7).list (nth y 8).list (nth y 9).list (nth y 10).int else false) else false) = true := h
        simp only [bif_ft, sameV, Bool.and_eq_true, beq_iff_eq, eqL_iff] at h
        obtain ⟨n, o, h⟩ := h
        exact ⟨n, o, h.1, h.2.1, h.2.2.1, h.2.2.2.1, h.2.2.2.2.2.1, h.2.2.2.2.2.2.1, h.2.2.2.2.2.2.2.1, h.2.2.2.2.2.2.2.2, h.2.2.2.2.1⟩
      obtain ⟨e0, e1, e2, e3, e4, e5, e6, e7, e8, e9, e10⟩ := hh
      have hx' := form_71 a6 hx
      have hy' := form_71 b6 hy
      rw [hx', hy', e0, e1, e2, e3, e4, e5, e6, e7, e8, e9, e10]
    · rintro rfl
      show (bif ((nth x 0).str == (nth x 0).str) then (bif ((nth x 1).int == (nth x 1).int) then sameV (nth x 2).int (nth x 3).int (nth x 4).bool (nth x 5).bool (nth x 6).list (nth x 7).list (nth x 8).list (nth x 9).list (nth x 10).int (nth x 2).int (nth x 3).int (nth x 4).bool (nth x 5).bool (nth x 6).list (nth x 7).list (nth x 8).list (nth x 9).list (nth x 10).int else false) else false) = true
      simp [sameV, eqL_refl])
  have v7 : qc_v BA BA2 = eqL BA BA2 := allEq_eqL (E := qc_E) (fun x y hx hy => by
    constructor
    · intro h
      have hh : (nth x 0).int = (nth y 0).int ∧ (nth x 1).int = (nth y 1).int ∧ (nth x 2).bool = (nth y 2).bool ∧ (nth x 3).bool = (nth y 3).bool ∧ (nth x 4).list = (nth y 4).list ∧ (nth x 5).list = (nth y 5).list ∧ (nth x 6).list = (nth y 6).list ∧ (nth x 7).list = (nth y 7).list ∧ (nth x 8).int = (nth y 8).int := by
        have h : sameV (nth x 0).int (nth x 1).int (nth x 2).bool (nth x 3).bool (nth x 4).list (nth x 5).list (nth x 6).list (nth x 7).list (nth x 8).int (nth y 0).int (nth y 1).int (nth y 2).bool (nth y 3).bool (nth y 4).list (nth y 5).list (nth y 6).list (nth y 7).list (nth y 8).int = true := h
        simp only [sameV, Bool.and_eq_true, beq_iff_eq, eqL_iff] at h
        exact ⟨h.1, h.2.1, h.2.2.1, h.2.2.2.1, h.2.2.2.2.2.1, h.2.2.2.2.2.2.1, h.2.2.2.2.2.2.2.1, h.2.2.2.2.2.2.2.2, h.2.2.2.2.1⟩
      obtain ⟨e0, e1, e2, e3, e4, e5, e6, e7, e8⟩ := hh
      have hx' := form_32 a7 hx
      have hy' := form_32 b7 hy
      rw [hx', hy', e0, e1, e2, e3, e4, e5, e6, e7, e8]
    · rintro rfl
      show sameV (nth x 0).int (nth x 1).int (nth x 2).bool (nth x 3).bool (nth x 4).list (nth x 5).list (nth x 6).list (nth x 7).list (nth x 8).int (nth x 0).int (nth x 1).int (nth x 2).bool (nth x 3).bool (nth x 4).list (nth x 5).list (nth x 6).list (nth x 7).list (nth x 8).int = true
      simp [sameV, eqL_refl])
  constructor
  · unfold qbf_c
    simp only [c4, c5, c6, c7, Bool.true_and, Bool.and_true, bif_same]
  · unfold qbf_v sameV
    rw [v4, v5, v6, v7]
    simp only [bif_ft]
theorem qbf_nxr (k s : Int) (sg bg : Bool) (NA NU ME BA : LL) (ct k2 s2 : Int) (sg2 bg2 : Bool) (NA2 NU2 ME2 BA2 : LL) (ct2 : Int) : qbf_rc (i_impl_SameType := ⟨qbf_O.n + 1⟩) k s sg bg NA NU ME BA ct k2 s2 sg2 bg2 NA2 NU2 ME2 BA2 ct2 = true → (qbf_c k s sg bg NA NU ME BA ct k2 s2 sg2 bg2 NA2 NU2 ME2 BA2 ct2) = true ∧ (qbf_v k s sg bg NA NU ME BA ct k2 s2 sg2 bg2 NA2 NU2 ME2 BA2 ct2) = (qbf_rv k s sg bg NA NU ME BA ct k2 s2 sg2 bg2 NA2 NU2 ME2 BA2 ct2) := fun h => qbf_nx k s sg bg NA NU ME BA ct k2 s2 sg2 bg2 NA2 NU2 ME2 BA2 ct2 h
theorem qbf_rs : ∀ xs r, qbf_rS (i_impl_SameType := ⟨qbf_O.n + 1⟩) xs = some (true, r) → runF tab FT D38 live 102 noLoops xs = some r := by
  intro xs r h
  unfold qbf_rS at h
  split at h
  · simp only [Option.some.injEq, Prod.mk.injEq] at h
    obtain ⟨h1, rfl⟩ := h
    have hx := qbf_nxr _ _ _ _ _ _ _ _ _ _ _ _ _ _ _ _ _ _ h1
    have ht := fun_told (qbf_e _ _ _ _ _ _ _ _ _ _ _ _ _ _ _ _ _ _) (qbf_l _ _ _ _ _ _ _ _ _ _ _ _ _ _ _ _ _ _) hx.1
    rw [hx.2] at ht
    exact ht
  · cases h
theorem qbf_step : qbf_G (i_impl_SameType := ⟨qbf_O.n + 1⟩) := by
  have h := DOk.also2 (S := qbf_rS (i_impl_SameType := ⟨qbf_O.n + 1⟩)) mixed_ok tab_ok names_ok d34 d38 noLoops_ok qbf_rs
  refine qbf_G.mk (i_impl_SameType := ⟨qbf_O.n + 1⟩) ?_
  exact h
abbrev qg_2_σ := LL × Int × Int × Int
abbrev qg_2_ω := (Int) ⊕ (Unit)
noncomputable def qg_2_step (A : LL) (v m i : Int) : Tr (qg_2_σ ⊕ qg_2_ω) := (.ite ((decide (i < m)) = true) (.ite ((0 : Int) ≤ i ∧ i < (A.length : Int)) (.ite ((v == (nth (row A i) 0).int) = true) (.ok (.inr (.inl i)))
    (.ok (.inl (A, v, m, (IntKind.wrap .i64 (i + (1 : Int)))))))
   .no)
  (.ok (.inr (.inr ()))))
noncomputable def qg_2_st : qg_2_σ → Tr (qg_2_σ ⊕ qg_2_ω) := fun x => (qg_2_step (x.1) (x.2.1) (x.2.2.1) (x.2.2.2))
noncomputable def qg_k2_1 (A : LL) (v m i : Int) : Bool := A.all (fun x => !(v == (nth x 0).int))
noncomputable def qg_o2_2 (A : LL) (v m i : Int) : Bool := is (i = 0 ∧ A.length ≤ 140737488351232 ∧ m = (A.length : Int))
noncomputable def qg_o2_3 (A : LL) (v m i : Int) : Bool := is (i = 0 ∧ A.length ≤ 140737488351232 ∧ m = (A.length : Int))
noncomputable def qg_u2_3 (A : LL) (v m i : Int) : Int := (Int.ofNat (A.findIdx fun x => !(fun x => !(v == (nth x 0).int)) x))
noncomputable def qg_2_fin (A : LL) (v m i : Int) : Told qg_2_ω := (.br (qg_k2_1 A v m i) (.leaf (qg_o2_2 A v m i) (.inr ())) (.leaf (qg_o2_3 A v m i) (.inl (qg_u2_3 A v m i))))
def qg_2_sl (x : qg_2_σ) : List Slot := [⟨.val false [⟨.slice 2, .sh, TC.l (x.1)⟩], ⟨0, 0⟩⟩, ⟨.val false [⟨.int .i64, .sh, TC.i (x.2.1)⟩], ⟨0, 0⟩⟩, ⟨.val false [⟨.int .i64, .sh, TC.i (x.2.2.1)⟩], ⟨0, 0⟩⟩, ⟨.val false [⟨.int .i64, .sh, TC.i (x.2.2.2)⟩], ⟨0, 0⟩⟩]
def qg_2_out : qg_2_ω → Ex × List Slot := (Sum.elim (fun x => (.ret, [⟨.val false [⟨.int .i64, .sh, TC.i x⟩], ⟨0, 0⟩⟩])) (fun x => (.exit 0, [Slot.none])))
noncomputable def qg_lo2 : List Slot → Option (Told (Ex × List Slot)) := fun s => match s with
  | [⟨.val false [⟨.slice 2, .sh, TC.l A⟩], ⟨0, 0⟩⟩, ⟨.val false [⟨.int .i64, .sh, TC.i v⟩], ⟨0, 0⟩⟩, ⟨.val false [⟨.int .i64, .sh, TC.i m⟩], ⟨0, 0⟩⟩, ⟨.val false [⟨.int .i64, .sh, TC.i i⟩], ⟨0, 0⟩⟩] => some (((qg_2_fin A v m i)).map qg_2_out)
  | _ => .none
noncomputable def qg_lo : LoopTeller := fun r s => bif Nat.beq r 2 then qg_lo2 s else .none
theorem qg_2_r (A : LL) (v m i : Int) (fuel : Nat) : rounds (rnd tab FT D38 live 150 qg_lo 0 2) leave (fuel + 1) (qg_2_sl (A, v, m, i)) = ((qg_2_step A v m i)).run (goOn (fun s => rounds (rnd tab FT D38 live 150 qg_lo 0 2) leave fuel (qg_2_sl s)) fun w => some (qg_2_out w)) := by kernel_rfl
theorem qg_2_h (A : LL) (v m i : Int) (ow : qg_2_ω) : ((qg_2_fin A v m i)).val = some ow → ∃ fuel, loopN qg_2_st fuel (A, v, m, i) = some ow := by
  intro h
  have key : A.length ≤ 140737488351232 → loopN qg_2_st (A.length + 1) (A, v, (A.length : Int), (0 : Int)) = some (if A.all (fun x => !(v == (nth x 0).int)) = true then (.inr ()) else (.inl (Int.ofNat (A.findIdx fun x => !(fun x => !(v == (nth x 0).int)) x)))) := by
    intro ht
    have hlen : A.length ≤ 140737488351232 := ht
    have key := loopN_scan (step := qg_2_st) A [] (fun x => !(v == (nth x 0).int)) (fun a _ => a) (fun i a => (A, v, (A.length : Int), (i : Int))) (fun a => (.inr ())) (fun i a => (.inl (i : Int))) (fun i a hi => ?_) (fun a => ?_) A.length 0 () (by omega)
    · first | (rw [Nat.zero_add] at key; exact key) | exact key
    · skip
      show (qg_2_step A v (A.length : Int) (i : Int)).val = _
      unfold qg_2_step
      refine Tr.t (by simp; omega) ?_
      skip
      refine Tr.t (by first | omega | (constructor <;> omega)) ?_
      refine Tr.b2 (fun hP => ?_) (fun _ => rfl)
      rw [Tr.val_ok, wrap64 (i := (i : Int) + 1) (by omega) (by omega)]; rfl
    · show (qg_2_step A v (A.length : Int) (A.length : Int)).val = _
      refine Tr.n (by simp) ?_
      rfl
  simp only [qg_2_fin, Told.val] at h
  cases hk : A.all (fun x => !(v == (nth x 0).int)) with
  | true =>
    rw [if_pos (show qg_k2_1 A v m i = true from hk)] at h
    split at h
    · rename_i ho
      obtain ⟨rfl, ht, rfl⟩ := is_iff.1 ho
      cases h
      refine ⟨_, (key ht).trans ?_⟩
      rw [hk]; rfl
    · cases h
  | false =>
    rw [if_neg (show ¬qg_k2_1 A v m i = true from by rw [show qg_k2_1 A v m i = (A.all (fun x => !(v == (nth x 0).int))) from rfl, hk]; simp)] at h
    split at h
    · rename_i ho
      obtain ⟨rfl, ht, rfl⟩ := is_iff.1 ho
      cases h
      refine ⟨_, (key ht).trans ?_⟩
      rw [hk]; rfl
    · cases h
theorem qg_is2 : LoopIs tab FT D38 live 150 qg_lo 0 2 := by
  refine loop_told (sl := qg_2_sl) (step := qg_2_st) (out := qg_2_out) (lor := qg_lo2) (fin := fun x => (qg_2_fin (x.1) (x.2.1) (x.2.2.1) (x.2.2.2))) (fun _ => rfl) ?_ (fun x n => qg_2_r x.1 x.2.1 x.2.2.1 x.2.2.2 n) (fun x ow => qg_2_h x.1 x.2.1 x.2.2.1 x.2.2.2 ow)
  intro s t h
  unfold qg_lo2 at h
  split at h
  · cases h; exact ⟨(_, _, _, _), rfl, rfl⟩
  · cases h
noncomputable def qg_t (A : LL) (v : Int) : Tr (Int) := (.ite ((qg_k2_1 A v (A.length : Int) (0 : Int)) = true) (.ite ((qg_o2_2 A v (A.length : Int) (0 : Int)) = true) (.ok (-1 : Int))
   .no)
  (.ite ((qg_o2_3 A v (A.length : Int) (0 : Int)) = true) (.ok (qg_u2_3 A v (A.length : Int) (0 : Int)))
   .no))
def qg_mk (p : Int) : Res := [(false, [⟨.int .i64, .sh, TC.i p⟩])]
noncomputable def qg_c (A : LL) (v : Int) : Bool := (bif (qg_k2_1 A v (A.length : Int) (0 : Int)) then ((qg_o2_2 A v (A.length : Int) (0 : Int)) && true) else ((qg_o2_3 A v (A.length : Int) (0 : Int)) && true))
noncomputable def qg_v (A : LL) (v : Int) : Int := (bif (qg_k2_1 A v (A.length : Int) (0 : Int)) then (-1 : Int) else (qg_u2_3 A v (A.length : Int) (0 : Int)))
theorem qg_l (A : LL) (v : Int) : (qg_c A v) = true → (qg_t A v).val = some (qg_v A v) := by
  unfold qg_t qg_v qg_c
  exact fun h => (Tr.ss h (fun h => (Tr.gb h fun h => rfl)) (fun h => (Tr.gb h fun h => rfl)))
noncomputable def qg_S : List Arg → Option (Bool × Res) := fun xs => match xs with
  | [(false, [(.slice 2, TC.l A)]), (false, [(.int .i64, TC.i v)])] => some ((qg_c A v), qg_mk (qg_v A v))
  | _ => .none
theorem qg_e (A : LL) (v : Int) : runF tab FT D38 live 150 qg_lo [(false, [(.slice 2, TC.l A)]), (false, [(.int .i64, TC.i v)])] = (qg_t A v).run fun p => some (qg_mk p) := by kernel_rfl
theorem qg_s : ∀ xs r, qg_S xs = some (true, r) → runF tab FT D38 live 150 qg_lo xs = some r := by
  intro xs r h
  unfold qg_S at h
  split at h
  · simp only [Option.some.injEq, Prod.mk.injEq] at h
    obtain ⟨h1, rfl⟩ := h
    exact fun_told (qg_e _ _) (qg_l _ _) h1
  · cases h
noncomputable def D39 : Dt := also D38 150 qg_S
theorem d39 : DOk Go.Proofs.Try.prog tab D39 := d38.also mixed_ok tab_ok names_ok (fnLoops_one (by kernel_rfl) qg_is2) qg_s
theorem qg_cc {A : LL} {v : Int} (hl : A.length ≤ 140737488351232) : (qg_c A v) = true := by
  unfold qg_c
  refine bifT (fun b1 => ?_) (fun b1 => ?_)
  · skip
    refine andT (by exact is_true ⟨rfl, hl, rfl⟩) ?_
    rfl
  · skip
    refine andT (by exact is_true ⟨rfl, hl, rfl⟩) ?_
    rfl
noncomputable def qbz_t (a0 : LL) (a1 : Int) : Tr (Bool) := (.ite ((qg_c a0 a1) = true) (.ok (decide ((qg_v a0 a1) ≥ (0 : Int))))
  .no)
def qbz_mk (p : Bool) : Res := [(false, [⟨.bool, .sh, TC.b p⟩])]
noncomputable def qbz_c (a0 : LL) (a1 : Int) : Bool := (qg_c a0 a1)
noncomputable def qbz_v (a0 : LL) (a1 : Int) : Bool := (decide ((qg_v a0 a1) ≥ (0 : Int)))
theorem qbz_l (a0 : LL) (a1 : Int) : (qbz_c a0 a1) = true → (qbz_t a0 a1).val = some (qbz_v a0 a1) := by
  intro h
  have hc0 : (qg_c a0 a1) = true := h
  unfold qbz_t
  exact (Tr.t hc0 rfl)
noncomputable def qbz_S : List Arg → Option (Bool × Res) := fun xs => match xs with
  | [(false, [(.slice 2, TC.l a0)]), (false, [(.int .i64, TC.i a1)])] => some ((qbz_c a0 a1), qbz_mk (qbz_v a0 a1))
  | _ => .none
theorem qbz_e (a0 : LL) (a1 : Int) : runF tab FT D39 live 136 noLoops [(false, [(.slice 2, TC.l a0)]), (false, [(.int .i64, TC.i a1)])] = (qbz_t a0 a1).run fun p => some (qbz_mk p) := by kernel_rfl
theorem qbz_s : ∀ xs r, qbz_S xs = some (true, r) → runF tab FT D39 live 136 noLoops xs = some r := by
  intro xs r h
  unfold qbz_S at h
  split at h
  · simp only [Option.some.injEq, Prod.mk.injEq] at h
    obtain ⟨h1, rfl⟩ := h
    exact fun_told (qbz_e _ _) (qbz_l _ _) h1
  · cases h
noncomputable def D40 : Dt := also D39 136 qbz_S
theorem d40 : DOk Go.Proofs.Try.prog tab D40 := d39.also mixed_ok tab_ok names_ok noLoops_ok qbz_s
noncomputable def qcg_t (k s : Int) (sg bg : Bool) (NA NU ME BA : LL) (ct : Int) : Tr (Bool) := (.ite ((qbz_c [[TC.i (1 : Int)], [TC.i (2 : Int)], [TC.i (4 : Int)], [TC.i (8 : Int)]] s) = true) (.ite ((qbz_v [[TC.i (1 : Int)], [TC.i (2 : Int)], [TC.i (4 : Int)], [TC.i (8 : Int)]] s) = true) (.ite (sg = true) (.ite (bg = true) (.ok (!(s == (1 : Int))))
     (.ok true))
    (.ite ((decide (s < (8 : Int))) = true) (.ite (bg = true) (.ok (!(s == (1 : Int))))
      (.ok true))
     (.ok false)))
   (.ok false))
  .no)
def qcg_mk (p : Bool) : Res := [(false, [⟨.bool, .sh, TC.b p⟩])]
noncomputable def qcg_c (k s : Int) (sg bg : Bool) (NA NU ME BA : LL) (ct : Int) : Bool := ((qbz_c [[TC.i (1 : Int)], [TC.i (2 : Int)], [TC.i (4 : Int)], [TC.i (8 : Int)]] s) && (bif (qbz_v [[TC.i (1 : Int)], [TC.i (2 : Int)], [TC.i (4 : Int)], [TC.i (8 : Int)]] s) then (bif sg then (bif bg then true else true) else (bif (decide (s < (8 : Int))) then (bif bg then true else true) else true)) else true))
noncomputable def qcg_v (k s : Int) (sg bg : Bool) (NA NU ME BA : LL) (ct : Int) : Bool := (bif (qbz_v [[TC.i (1 : Int)], [TC.i (2 : Int)], [TC.i (4 : Int)], [TC.i (8 : Int)]] s) then (bif sg then (bif bg then (!(s == (1 : Int))) else true) else (bif (decide (s < (8 : Int))) then (bif bg then (!(s == (1 : Int))) else true) else false)) else false)
theorem qcg_l (k s : Int) (sg bg : Bool) (NA NU ME BA : LL) (ct : Int) : (qcg_c k s sg bg NA NU ME BA ct) = true → (qcg_t k s sg bg NA NU ME BA ct).val = some (qcg_v k s sg bg NA NU ME BA ct) := by
  unfold qcg_t qcg_v qcg_c
  exact fun h => (Tr.gb h fun h => (Tr.ss h (fun h => (Tr.ss h (fun h => (Tr.ss h (fun h => rfl) (fun h => rfl))) (fun h => (Tr.ss h (fun h => (Tr.ss h (fun h => rfl) (fun h => rfl))) (fun h => rfl))))) (fun h => rfl)))
noncomputable def qcg_S : List Arg → Option (Bool × Res) := fun xs => match xs with
  | [(true, [(.int .i64, TC.i k), (.int .i64, TC.i s), (.bool, TC.b sg), (.bool, TC.b bg), (.slice 9, TC.l NA), (.slice 2, TC.l NU), (.slice 71, TC.l ME), (.slice 32, TC.l BA), (.int .i64, TC.i ct)])] => some ((qcg_c k s sg bg NA NU ME BA ct), qcg_mk (qcg_v k s sg bg NA NU ME BA ct))
  | _ => .none
theorem qcg_e (k s : Int) (sg bg : Bool) (NA NU ME BA : LL) (ct : Int) : runF tab FT D40 live 104 noLoops [(true, [(.int .i64, TC.i k), (.int .i64, TC.i s), (.bool, TC.b sg), (.bool, TC.b bg), (.slice 9, TC.l NA), (.slice 2, TC.l NU), (.slice 71, TC.l ME), (.slice 32, TC.l BA), (.int .i64, TC.i ct)])] = (qcg_t k s sg bg NA NU ME BA ct).run fun p => some (qcg_mk p) := by kernel_rfl
theorem qcg_s : ∀ xs r, qcg_S xs = some (true, r) → runF tab FT D40 live 104 noLoops xs = some r := by
  intro xs r h
  unfold qcg_S at h
  split at h
  · simp only [Option.some.injEq, Prod.mk.injEq] at h
    obtain ⟨h1, rfl⟩ := h
    exact fun_told (qcg_e _ _ _ _ _ _ _ _ _) (qcg_l _ _ _ _ _ _ _ _ _) h1
  · cases h
noncomputable def D41 : Dt := also D40 104 qcg_S
theorem d41 : DOk Go.Proofs.Try.prog tab D41 := d40.also mixed_ok tab_ok names_ok noLoops_ok qcg_s
theorem qcg_cc1 (k s : Int) (sg bg : Bool) (NA NU ME BA : LL) (ct : Int) : qcg_c k s sg bg NA NU ME BA ct = true := by
  unfold qcg_c
  rw [show qbz_c [[TC.i (1 : Int)], [TC.i (2 : Int)], [TC.i (4 : Int)], [TC.i (8 : Int)]] s = true from qg_cc (by show 4 ≤ 140737488351232; omega)]
  simp only [bif_same, Bool.and_self]
theorem qcg_vv (k s : Int) (sg bg : Bool) (NA NU ME BA : LL) (ct : Int) : qcg_v k s sg bg NA NU ME BA ct = (has4 s && (!((s == 8) && !sg) && !((s == 1) && bg))) := by
  unfold qcg_v
  rw [show qbz_v [[TC.i (1 : Int)], [TC.i (2 : Int)], [TC.i (4 : Int)], [TC.i (8 : Int)]] s = has4 s from by
    show decide ((bif [[TC.i (1 : Int)], [TC.i (2 : Int)], [TC.i (4 : Int)], [TC.i (8 : Int)]].all (fun x => !(s == (nth x 0).int)) then -1 else Int.ofNat _) ≥ 0) = _
    rw [show [[TC.i (1 : Int)], [TC.i (2 : Int)], [TC.i (4 : Int)], [TC.i (8 : Int)]].all (fun x => !(s == (nth x 0).int)) = !(has4 s) from by
      show (!(s == (1 : Int)) && (!(s == (2 : Int)) && (!(s == (4 : Int)) && (!(s == (8 : Int)) && true)))) = _
      unfold has4
      cases (s == 1) <;> cases (s == 2) <;> cases (s == 4) <;> cases (s == 8) <;> rfl]
    cases has4 s <;> simp]
  cases h4 : has4 s with
  | false => rfl
  | true =>
    rw [show decide (s < 8) = !(s == 8) from by
      unfold has4 at h4
      simp only [Bool.or_eq_true, beq_iff_eq] at h4
      rcases h4 with ((rfl | rfl) | rfl) | rfl <;> decide]
    cases sg <;> cases (s == 8) <;> cases bg <;> cases (s == 1) <;> rfl
noncomputable def qcj_t (a0 a1 a2 : Int) : Tr (Bool) := (.ite ((decide (a0 ≥ a1)) = true) (.ok (decide (a0 ≤ a2)))
  (.ok false))
def qcj_mk (p : Bool) : Res := [(false, [⟨.bool, .sh, TC.b p⟩])]
noncomputable def qcj_c (a0 a1 a2 : Int) : Bool := true
noncomputable def qcj_v (a0 a1 a2 : Int) : Bool := (bif (decide (a0 ≥ a1)) then (decide (a0 ≤ a2)) else false)
theorem qcj_l (a0 a1 a2 : Int) : (qcj_c a0 a1 a2) = true → (qcj_t a0 a1 a2).val = some (qcj_v a0 a1 a2) := by
  intro h
  skip
  unfold qcj_t qcj_v
  exact (Tr.s rfl rfl)
noncomputable def qcj_S : List Arg → Option (Bool × Res) := fun xs => match xs with
  | [(false, [(.int .i64, TC.i a0)]), (false, [(.int .i64, TC.i a1)]), (false, [(.int .i64, TC.i a2)])] => some (true, qcj_mk (qcj_v a0 a1 a2))
  | _ => .none
theorem qcj_e (a0 a1 a2 : Int) : runF tab FT D41 live 105 noLoops [(false, [(.int .i64, TC.i a0)]), (false, [(.int .i64, TC.i a1)]), (false, [(.int .i64, TC.i a2)])] = (qcj_t a0 a1 a2).run fun p => some (qcj_mk p) := by kernel_rfl
theorem qcj_s : ∀ xs r, qcj_S xs = some (true, r) → runF tab FT D41 live 105 noLoops xs = some r := by
  intro xs r h
  unfold qcj_S at h
  split at h
  · simp only [Option.some.injEq, Prod.mk.injEq] at h
    obtain ⟨h1, rfl⟩ := h
    exact fun_told (qcj_e _ _ _) (qcj_l _ _ _) rfl
  · cases h
noncomputable def D42 : Dt := also D41 105 qcj_S
theorem d42 : DOk Go.Proofs.Try.prog tab D42 := d41.also mixed_ok tab_ok names_ok noLoops_ok qcj_s
section
class qx_O where n : Nat
variable [i_impl_Type_valid : qx_O]
noncomputable def qx_rc (k s : Int) (sg bg : Bool) (NA NU ME BA : LL) (ct d : Int) : Bool := is (max (rowsDep ME) (rowsDep BA) < qx_O.n ∧ d ≤ 3 ∧ max (rowsDep ME) (rowsDep BA) < qbf_O.n ∧ max (rowsDep ME) (rowsDep BA) < qbd_O.n ∧ Typed tab (.slice 9) (.l NA) ∧ Typed tab (.slice 2) (.l NU) ∧ Typed tab (.slice 71) (.l ME) ∧ Typed tab (.slice 32) (.l BA))
noncomputable def qx_rv (k s : Int) (sg bg : Bool) (NA NU ME BA : LL) (ct d : Int) : Bool := validV k s sg bg NA NU ME BA ct d
def qx_rmk (p : Bool) : Res := [(false, [⟨.bool, .sh, TC.b p⟩])]
noncomputable def qx_rS : List Arg → Option (Bool × Res) := fun xs => match xs with
  | [(true, [(.int .i64, TC.i k), (.int .i64, TC.i s), (.bool, TC.b sg), (.bool, TC.b bg), (.slice 9, TC.l NA), (.slice 2, TC.l NU), (.slice 71, TC.l ME), (.slice 32, TC.l BA), (.int .i64, TC.i ct)]), (false, [(.int .i64, TC.i d)])] => some ((qx_rc k s sg bg NA NU ME BA ct d), qx_rmk (qx_rv k s sg bg NA NU ME BA ct d))
  | _ => .none
noncomputable def D43 : Dt := also D42 73 qx_rS
class qx_G : Prop where ok : DOk Go.Proofs.Try.prog tab D43
variable [g_impl_Type_valid : qx_G]
theorem d43 : DOk Go.Proofs.Try.prog tab D43 := qx_G.ok
noncomputable def qbw_t (k s : Int) (sg bg : Bool) (NA NU ME BA : LL) (ct : Int) : Tr (Int × Int) := (.ite (sg = true) (.ite (0 ≤ (IntKind.wrap .i64 ((IntKind.wrap .i64 ((8 : Int) * s)) - (1 : Int)))) (.ite (0 ≤ (IntKind.wrap .i64 ((IntKind.wrap .i64 ((8 : Int) * s)) - (1 : Int)))) (.ok ((IntKind.wrap .i64 ((-1 : Int) * (2 ^ (min ((IntKind.wrap .i64 ((IntKind.wrap .i64 ((8 : Int) * s)) - (1 : Int)))).toNat 64)))), (IntKind.wrap .i64 ((IntKind.wrap .i64 ((1 : Int) * (2 ^ (min ((IntKind.wrap .i64 ((IntKind.wrap .i64 ((8 : Int) * s)) - (1 : Int)))).toNat 64)))) - (1 : Int)))))
    .no)
   .no)
  (.ite (0 ≤ (IntKind.wrap .i64 ((8 : Int) * s))) (.ok ((0 : Int), (IntKind.wrap .i64 ((IntKind.wrap .i64 ((1 : Int) * (2 ^ (min ((IntKind.wrap .i64 ((8 : Int) * s))).toNat 64)))) - (1 : Int)))))
   .no))
def qbw_mk (p : Int × Int) : Res := [(false, [⟨.int .i64, .sh, TC.i (p.1)⟩]), (false, [⟨.int .i64, .sh, TC.i (p.2)⟩])]
noncomputable def qbw_c (k s : Int) (sg bg : Bool) (NA NU ME BA : LL) (ct : Int) : Bool := (bif sg then (is (0 ≤ (IntKind.wrap .i64 ((IntKind.wrap .i64 ((8 : Int) * s)) - (1 : Int)))) && (is (0 ≤ (IntKind.wrap .i64 ((IntKind.wrap .i64 ((8 : Int) * s)) - (1 : Int)))) && true)) else (is (0 ≤ (IntKind.wrap .i64 ((8 : Int) * s))) && true))
noncomputable def qbw_v (k s : Int) (sg bg : Bool) (NA NU ME BA : LL) (ct : Int) : Int × Int := (bif sg then ((IntKind.wrap .i64 ((-1 : Int) * (2 ^ (min ((IntKind.wrap .i64 ((IntKind.wrap .i64 ((8 : Int) * s)) - (1 : Int)))).toNat 64)))), (IntKind.wrap .i64 ((IntKind.wrap .i64 ((1 : Int) * (2 ^ (min ((IntKind.wrap .i64 ((IntKind.wrap .i64 ((8 : Int) * s)) - (1 : Int)))).toNat 64)))) - (1 : Int)))) else ((0 : Int), (IntKind.wrap .i64 ((IntKind.wrap .i64 ((1 : Int) * (2 ^ (min ((IntKind.wrap .i64 ((8 : Int) * s))).toNat 64)))) - (1 : Int)))))
theorem qbw_l (k s : Int) (sg bg : Bool) (NA NU ME BA : LL) (ct : Int) : (qbw_c k s sg bg NA NU ME BA ct) = true → (qbw_t k s sg bg NA NU ME BA ct).val = some (qbw_v k s sg bg NA NU ME BA ct) := by
  unfold qbw_t qbw_v qbw_c
  exact fun h => (Tr.ss h (fun h => (Tr.gs h fun h => (Tr.gs h fun h => rfl))) (fun h => (Tr.gs h fun h => rfl)))
noncomputable def qbw_S : List Arg → Option (Bool × Res) := fun xs => match xs with
  | [(true, [(.int .i64, TC.i k), (.int .i64, TC.i s), (.bool, TC.b sg), (.bool, TC.b bg), (.slice 9, TC.l NA), (.slice 2, TC.l NU), (.slice 71, TC.l ME), (.slice 32, TC.l BA), (.int .i64, TC.i ct)])] => some ((qbw_c k s sg bg NA NU ME BA ct), qbw_mk (qbw_v k s sg bg NA NU ME BA ct))
  | _ => .none
theorem qbw_e (k s : Int) (sg bg : Bool) (NA NU ME BA : LL) (ct : Int) : runF tab FT D43 live 113 noLoops [(true, [(.int .i64, TC.i k), (.int .i64, TC.i s), (.bool, TC.b sg), (.bool, TC.b bg), (.slice 9, TC.l NA), (.slice 2, TC.l NU), (.slice 71, TC.l ME), (.slice 32, TC.l BA), (.int .i64, TC.i ct)])] = (qbw_t k s sg bg NA NU ME BA ct).run fun p => some (qbw_mk p) := by kernel_rfl
theorem qbw_s : ∀ xs r, qbw_S xs = some (true, r) → runF tab FT D43 live 113 noLoops xs = some r := by
  intro xs r h
  unfold qbw_S at h
  split at h
  · simp only [Option.some.injEq, Prod.mk.injEq] at h
    obtain ⟨h1, rfl⟩ := h
    exact fun_told (qbw_e _ _ _ _ _ _ _ _ _) (qbw_l _ _ _ _ _ _ _ _ _) h1
  · cases h
noncomputable def D44 : Dt := also D43 113 qbw_S
theorem d44 : DOk Go.Proofs.Try.prog tab D44 := d43.also mixed_ok tab_ok names_ok noLoops_ok qbw_s
theorem irange {k s : Int} {sg bg : Bool} {NA NU ME BA : LL} {ct : Int} (h : intV s sg bg NA NU ME BA ct = true) : qbw_c k s sg bg NA NU ME BA ct = true ∧ (qbw_v k s sg bg NA NU ME BA ct).1 = loV s sg ∧ (qbw_v k s sg bg NA NU ME BA ct).2 = hiV s sg := by
  unfold intV has4 at h
  simp only [Bool.and_eq_true, Bool.or_eq_true, beq_iff_eq] at h
  have hs := h.1.1.1
  have h8 := h.1.1.2
  rcases hs with ((rfl | rfl) | rfl) | rfl <;> cases sg <;> first | (exact ⟨by unfold qbw_c; first | exact andT (is_true (by decide)) (andT (is_true (by decide)) rfl) | exact andT (is_true (by decide)) rfl, by unfold qbw_v loV; decide, by unfold qbw_v hiV; decide⟩) | (exact absurd h8 (by decide))
noncomputable def qy_f2 (s : BS) (m i : Int) : (Unit) ⊕ ((BS) ⊕ (BS)) := (bif (decide (((s.getD (i).toNat 0).toNat : Int) ≥ (65 : Int))) then (bif (decide (((s.getD (i).toNat 0).toNat : Int) ≤ (90 : Int))) then (.inl ()) else (bif (decide (((s.getD (i).toNat 0).toNat : Int) ≥ (97 : Int))) then (bif (!(decide (((s.getD (i).toNat 0).toNat : Int) ≤ (122 : Int)))) then (bif (i == (0 : Int)) then (.inr (.inl s)) else (bif (decide (((s.getD (i).toNat 0).toNat : Int) < (48 : Int))) then (bif (!(((s.getD (i).toNat 0).toNat : Int) == (95 : Int))) then (.inr (.inl s)) else (.inl ())) else (bif (decide (((s.getD (i).toNat 0).toNat : Int) > (57 : Int))) then (bif (!(((s.getD (i).toNat 0).toNat : Int) == (95 : Int))) then (.inr (.inl s)) else (.inl ())) else (.inl ())))) else (.inl ())) else (bif (i == (0 : Int)) then (.inr (.inl s)) else (bif (decide (((s.getD (i).toNat 0).toNat : Int) < (48 : Int))) then (bif (!(((s.getD (i).toNat 0).toNat : Int) == (95 : Int))) then (.inr (.inl s)) else (.inl ())) else (bif (decide (((s.getD (i).toNat 0).toNat : Int) > (57 : Int))) then (bif (!(((s.getD (i).toNat 0).toNat : Int) == (95 : Int))) then (.inr (.inl s)) else (.inl ())) else (.inl ())))))) else (bif (decide (((s.getD (i).toNat 0).toNat : Int) ≥ (97 : Int))) then (bif (!(decide (((s.getD (i).toNat 0).toNat : Int) ≤ (122 : Int)))) then (bif (i == (0 : Int)) then (.inr (.inl s)) else (bif (decide (((s.getD (i).toNat 0).toNat : Int) < (48 : Int))) then (bif (!(((s.getD (i).toNat 0).toNat : Int) == (95 : Int))) then (.inr (.inl s)) else (.inl ())) else (bif (decide (((s.getD (i).toNat 0).toNat : Int) > (57 : Int))) then (bif (!(((s.getD (i).toNat 0).toNat : Int) == (95 : Int))) then (.inr (.inl s)) else (.inl ())) else (.inl ())))) else (.inl ())) else (bif (i == (0 : Int)) then (.inr (.inl s)) else (bif (decide (((s.getD (i).toNat 0).toNat : Int) < (48 : Int))) then (bif (!(((s.getD (i).toNat 0).toNat : Int) == (95 : Int))) then (.inr (.inl s)) else (.inl ())) else (bif (decide (((s.getD (i).toNat 0).toNat : Int) > (57 : Int))) then (bif (!(((s.getD (i).toNat 0).toNat : Int) == (95 : Int))) then (.inr (.inl s)) else (.inl ())) else (.inl ()))))))
noncomputable def qy_e2 (s : BS) (m : Int) : (BS) ⊕ (BS) := .inr s
noncomputable def qy_R2 (s : BS) (m i : Int) : (BS) ⊕ (BS) := iter (fun i a => (qy_f2 s m (i : Int))) (fun a => (qy_e2 s m)) (s.length) 0 ()
abbrev qy_2_σ := BS × Int × Int
abbrev qy_2_ω := (BS) ⊕ (BS)
noncomputable def qy_2_step (s : BS) (m i : Int) : Tr (qy_2_σ ⊕ qy_2_ω) := (.ite ((decide (i < m)) = true) (.ite ((0 : Int) ≤ i ∧ i < (s.length : Int)) (.ite ((decide (((s.getD (i).toNat 0).toNat : Int) ≥ (65 : Int))) = true) (.ite ((decide (((s.getD (i).toNat 0).toNat : Int) ≤ (90 : Int))) = true) (.ok (.inl (s, m, (IntKind.wrap .i64 (i + (1 : Int))))))
     (.ite ((decide (((s.getD (i).toNat 0).toNat : Int) ≥ (97 : Int))) = true) (.ite ((!(decide (((s.getD (i).toNat 0).toNat : Int) ≤ (122 : Int)))) = true) (.ite ((i == (0 : Int)) = true) (.ok (.inr (.inl s)))
        (.ite ((decide (((s.getD (i).toNat 0).toNat : Int) < (48 : Int))) = true) (.ite ((!(((s.getD (i).toNat 0).toNat : Int) == (95 : Int))) = true) (.ok (.inr (.inl s)))
          (.ok (.inl (s, m, (IntKind.wrap .i64 (i + (1 : Int)))))))
         (.ite ((decide (((s.getD (i).toNat 0).toNat : Int) > (57 : Int))) = true) (.ite ((!(((s.getD (i).toNat 0).toNat : Int) == (95 : Int))) = true) (.ok (.inr (.inl s)))
           (.ok (.inl (s, m, (IntKind.wrap .i64 (i + (1 : Int)))))))
          (.ok (.inl (s, m, (IntKind.wrap .i64 (i + (1 : Int)))))))))
       (.ok (.inl (s, m, (IntKind.wrap .i64 (i + (1 : Int)))))))
      (.ite ((i == (0 : Int)) = true) (.ok (.inr (.inl s)))
       (.ite ((decide (((s.getD (i).toNat 0).toNat : Int) < (48 : Int))) = true) (.ite ((!(((s.getD (i).toNat 0).toNat : Int) == (95 : Int))) = true) (.ok (.inr (.inl s)))
         (.ok (.inl (s, m, (IntKind.wrap .i64 (i + (1 : Int)))))))
        (.ite ((decide (((s.getD (i).toNat 0).toNat : Int) > (57 : Int))) = true) (.ite ((!(((s.getD (i).toNat 0).toNat : Int) == (95 : Int))) = true) (.ok (.inr (.inl s)))
          (.ok (.inl (s, m, (IntKind.wrap .i64 (i + (1 : Int)))))))
         (.ok (.inl (s, m, (IntKind.wrap .i64 (i + (1 : Int)))))))))))
    (.ite ((decide (((s.getD (i).toNat 0).toNat : Int) ≥ (97 : Int))) = true) (.ite ((!(decide (((s.getD (i).toNat 0).toNat : Int) ≤ (122 : Int)))) = true) (.ite ((i == (0 : Int)) = true) (.ok (.inr (.inl s)))
       (.ite ((decide (((s.getD (i).toNat 0).toNat : Int) < (48 : Int))) = true) (.ite ((!(((s.getD (i).toNat 0).toNat : Int) == (95 : Int))) = true) (.ok (.inr (.inl s)))
         (.ok (.inl (s, m, (IntKind.wrap .i64 (i + (1 : Int)))))))
        (.ite ((decide (((s.getD (i).toNat 0).toNat : Int) > (57 : Int))) = true) (.ite ((!(((s.getD (i).toNat 0).toNat : Int) == (95 : Int))) = true) (.ok (.inr (.inl s)))
          (.ok (.inl (s, m, (IntKind.wrap .i64 (i + (1 : Int)))))))
         (.ok (.inl (s, m, (IntKind.wrap .i64 (i + (1 : Int)))))))))
      (.ok (.inl (s, m, (IntKind.wrap .i64 (i + (1 : Int)))))))
     (.ite ((i == (0 : Int)) = true) (.ok (.inr (.inl s)))
      (.ite ((decide (((s.getD (i).toNat 0).toNat : Int) < (48 : Int))) = true) (.ite ((!(((s.getD (i).toNat 0).toNat : Int) == (95 : Int))) = true) (.ok (.inr (.inl s)))
        (.ok (.inl (s, m, (IntKind.wrap .i64 (i + (1 : Int)))))))
       (.ite ((decide (((s.getD (i).toNat 0).toNat : Int) > (57 : Int))) = true) (.ite ((!(((s.getD (i).toNat 0).toNat : Int) == (95 : Int))) = true) (.ok (.inr (.inl s)))
         (.ok (.inl (s, m, (IntKind.wrap .i64 (i + (1 : Int)))))))
        (.ok (.inl (s, m, (IntKind.wrap .i64 (i + (1 : Int)))))))))))
   .no)
  (.ok (.inr (.inr s))))
noncomputable def qy_2_st : qy_2_σ → Tr (qy_2_σ ⊕ qy_2_ω) := fun x => (qy_2_step (x.1) (x.2.1) (x.2.2))
noncomputable def qy_k2_1 (s : BS) (m i : Int) : Bool := sumIs (qy_R2 s m i)
noncomputable def qy_o2_2 (s : BS) (m i : Int) : Bool := is (i = 0 ∧ s.length ≤ 140737488355328 ∧ m = (s.length : Int))
noncomputable def qy_o2_3 (s : BS) (m i : Int) : Bool := is (i = 0 ∧ s.length ≤ 140737488355328 ∧ m = (s.length : Int))
noncomputable def qy_2_fin (s : BS) (m i : Int) : Told qy_2_ω := (.br (qy_k2_1 s m i) (.leaf (qy_o2_2 s m i) (.inl s)) (.leaf (qy_o2_3 s m i) (.inr s)))
def qy_2_sl (x : qy_2_σ) : List Slot := [⟨.val false [⟨.str, .sh, TC.s (x.1)⟩], ⟨0, 0⟩⟩, ⟨.val false [⟨.int .i64, .sh, TC.i (x.2.1)⟩], ⟨0, 0⟩⟩, ⟨.val false [⟨.int .i64, .sh, TC.i (x.2.2)⟩], ⟨0, 0⟩⟩]
def qy_2_out : qy_2_ω → Ex × List Slot := (Sum.elim (fun x => (.ret, [⟨.val false [⟨.str, .sh, TC.s x⟩], ⟨0, 0⟩⟩, ⟨.val false [⟨.bool, .sh, TC.b false⟩], ⟨0, 0⟩⟩])) (fun x => (.exit 0, [⟨.val false [⟨.str, .sh, TC.s x⟩], ⟨0, 0⟩⟩, Slot.none])))
noncomputable def qy_lo2 : List Slot → Option (Told (Ex × List Slot)) := fun s => match s with
  | [⟨.val false [⟨.str, .sh, TC.s s⟩], ⟨0, 0⟩⟩, ⟨.val false [⟨.int .i64, .sh, TC.i m⟩], ⟨0, 0⟩⟩, ⟨.val false [⟨.int .i64, .sh, TC.i i⟩], ⟨0, 0⟩⟩] => some (((qy_2_fin s m i)).map qy_2_out)
  | _ => .none
noncomputable def qy_lo : LoopTeller := fun r s => bif Nat.beq r 2 then qy_lo2 s else .none
theorem qy_2_r (s : BS) (m i : Int) (fuel : Nat) : rounds (rnd tab FT D44 live 151 qy_lo 0 2) leave (fuel + 1) (qy_2_sl (s, m, i)) = ((qy_2_step s m i)).run (goOn (fun s => rounds (rnd tab FT D44 live 151 qy_lo 0 2) leave fuel (qy_2_sl s)) fun w => some (qy_2_out w)) := by kernel_rfl
theorem qy_f2_eq (s : BS) (m i : Int) : qy_f2 s m i = bif nameB i ((s.getD (i).toNat 0).toNat : Int) then Sum.inl () else Sum.inr (Sum.inl s) := by
  unfold qy_f2 nameB letterB
  simp only [dlt, dgt]
  generalize ((s.getD i.toNat 0).toNat : Int) = c
  generalize decide (c ≥ 65) = p0, decide (c ≤ 90) = p1, decide (c ≥ 97) = p2, decide (c ≤ 122) = p3, decide (c ≥ 48) = p4, decide (c ≤ 57) = p5, (c == 95) = p6, (i == 0) = p7
  cases p0 <;> cases p1 <;> cases p2 <;> cases p3 <;> cases p4 <;> cases p5 <;> cases p6 <;> cases p7 <;> rfl
theorem qy_R2_eq (s : BS) (m : Int)  : qy_R2 s m 0 = bif allI (fun i : Nat => nameB (i : Int) ((s.getD ((i : Int)).toNat 0).toNat : Int)) (s.length) then Sum.inr s else (Sum.inl s) := by
  unfold qy_R2
  exact (iter_all (P := (fun i : Nat => nameB (i : Int) ((s.getD ((i : Int)).toNat 0).toNat : Int))) (g := fun _ a => a) (w := Sum.inl s) fun j a _ => qy_f2_eq s m _)
theorem qy_2_h (s : BS) (m i : Int) (ow : qy_2_ω) : ((qy_2_fin s m i)).val = some ow → ∃ fuel, loopN qy_2_st fuel (s, m, i) = some ow := by
  refine auto_const (R := (qy_R2 s m i)) rfl (iter_onR (f := (fun i a => (qy_f2 s m (i : Int)))) (fin := (fun a => (qy_e2 s m))) (Q := endsAs s s) (fun i a => by unfold qy_f2; exact (onR_bif (onR_bif trivial (onR_bif (onR_bif (onR_bif rfl (onR_bif (onR_bif rfl trivial) (onR_bif (onR_bif rfl trivial) trivial))) trivial) (onR_bif rfl (onR_bif (onR_bif rfl trivial) (onR_bif (onR_bif rfl trivial) trivial))))) (onR_bif (onR_bif (onR_bif rfl (onR_bif (onR_bif rfl trivial) (onR_bif (onR_bif rfl trivial) trivial))) trivial) (onR_bif rfl (onR_bif (onR_bif rfl trivial) (onR_bif (onR_bif rfl trivial) trivial)))))) (fun _ => rfl) _ _ _) ?_
  intro ho
  have ho : is (i = 0 ∧ s.length ≤ 140737488355328 ∧ m = (s.length : Int)) = true := ho.elim id id
  obtain ⟨rfl, hs, rfl⟩ := is_iff.1 ho
  skip
  refine ⟨(s.length) + 1, ?_⟩
  refine iter_loop (step := qy_2_st) (s.length) (fun i a => (qy_f2 s (s.length : Int) (i : Int))) (fun a => (qy_e2 s (s.length : Int))) (fun i a => (s, (s.length : Int), (i : Int))) (fun _ _ => True) trivial (fun i a hi hI => ⟨?_, fun _ _ => trivial⟩) (fun a hI => ?_)
  · show (qy_2_step s (s.length : Int) (i : Int)).val = _
    unfold qy_2_step qy_f2
    skip
    refine Tr.t (by simp; omega) ?_
    exact (Tr.t (by first | omega | (constructor <;> omega)) (Tr.bf (Tr.bf (by rw [Tr.val_ok, wrap64 (i := (i : Int) + 1) (by omega) (by omega)]; rfl) (Tr.bf (Tr.bf (Tr.bf rfl (Tr.bf (Tr.bf rfl (by rw [Tr.val_ok, wrap64 (i := (i : Int) + 1) (by omega) (by omega)]; rfl)) (Tr.bf (Tr.bf rfl (by rw [Tr.val_ok, wrap64 (i := (i : Int) + 1) (by omega) (by omega)]; rfl)) (by rw [Tr.val_ok, wrap64 (i := (i : Int) + 1) (by omega) (by omega)]; rfl)))) (by rw [Tr.val_ok, wrap64 (i := (i : Int) + 1) (by omega) (by omega)]; rfl)) (Tr.bf rfl (Tr.bf (Tr.bf rfl (by rw [Tr.val_ok, wrap64 (i := (i : Int) + 1) (by omega) (by omega)]; rfl)) (Tr.bf (Tr.bf rfl (by rw [Tr.val_ok, wrap64 (i := (i : Int) + 1) (by omega) (by omega)]; rfl)) (by rw [Tr.val_ok, wrap64 (i := (i : Int) + 1) (by omega) (by omega)]; rfl)))))) (Tr.bf (Tr.bf (Tr.bf rfl (Tr.bf (Tr.bf rfl (by rw [Tr.val_ok, wrap64 (i := (i : Int) + 1) (by omega) (by omega)]; rfl)) (Tr.bf (Tr.bf rfl (by rw [Tr.val_ok, wrap64 (i := (i : Int) + 1) (by omega) (by omega)]; rfl)) (by rw [Tr.val_ok, wrap64 (i := (i : Int) + 1) (by omega) (by omega)]; rfl)))) (by rw [Tr.val_ok, wrap64 (i := (i : Int) + 1) (by omega) (by omega)]; rfl)) (Tr.bf rfl (Tr.bf (Tr.bf rfl (by rw [Tr.val_ok, wrap64 (i := (i : Int) + 1) (by omega) (by omega)]; rfl)) (Tr.bf (Tr.bf rfl (by rw [Tr.val_ok, wrap64 (i := (i : Int) + 1) (by omega) (by omega)]; rfl)) (by rw [Tr.val_ok, wrap64 (i := (i : Int) + 1) (by omega) (by omega)]; rfl)))))))
  · show (qy_2_step s (s.length : Int) (s.length : Int)).val = _
    refine Tr.n (by first | (simp; done) | (simp; omega) | omega) ?_
    rfl
theorem qy_is2 : LoopIs tab FT D44 live 151 qy_lo 0 2 := by
  refine loop_told (sl := qy_2_sl) (step := qy_2_st) (out := qy_2_out) (lor := qy_lo2) (fin := fun x => (qy_2_fin (x.1) (x.2.1) (x.2.2))) (fun _ => rfl) ?_ (fun x n => qy_2_r x.1 x.2.1 x.2.2 n) (fun x ow => qy_2_h x.1 x.2.1 x.2.2 ow)
  intro s t h
  unfold qy_lo2 at h
  split at h
  · cases h; exact ⟨(_, _, _), rfl, rfl⟩
  · cases h
noncomputable def qy_t (s : BS) : Tr (Bool) := (.ite ((qy_k2_1 s (s.length : Int) (0 : Int)) = true) (.ite ((qy_o2_2 s (s.length : Int) (0 : Int)) = true) (.ok false)
   .no)
  (.ite ((qy_o2_3 s (s.length : Int) (0 : Int)) = true) (.ite ((decide ((s.length : Int) ≥ (1 : Int))) = true) (.ok (decide ((s.length : Int) ≤ (12 : Int))))
    (.ok false))
   .no))
def qy_mk (p : Bool) : Res := [(false, [⟨.bool, .sh, TC.b p⟩])]
noncomputable def qy_c (s : BS) : Bool := (bif (qy_k2_1 s (s.length : Int) (0 : Int)) then ((qy_o2_2 s (s.length : Int) (0 : Int)) && true) else ((qy_o2_3 s (s.length : Int) (0 : Int)) && (bif (decide ((s.length : Int) ≥ (1 : Int))) then true else true)))
noncomputable def qy_v (s : BS) : Bool := (bif (qy_k2_1 s (s.length : Int) (0 : Int)) then false else (bif (decide ((s.length : Int) ≥ (1 : Int))) then (decide ((s.length : Int) ≤ (12 : Int))) else false))
theorem qy_l (s : BS) : (qy_c s) = true → (qy_t s).val = some (qy_v s) := by
  unfold qy_t qy_v qy_c
  exact fun h => (Tr.ss h (fun h => (Tr.gb h fun h => rfl)) (fun h => (Tr.gb h fun h => (Tr.ss h (fun h => rfl) (fun h => rfl)))))
noncomputable def qy_S : List Arg → Option (Bool × Res) := fun xs => match xs with
  | [(false, [(.str, TC.s s)])] => some ((qy_c s), qy_mk (qy_v s))
  | _ => .none
theorem qy_e (s : BS) : runF tab FT D44 live 151 qy_lo [(false, [(.str, TC.s s)])] = (qy_t s).run fun p => some (qy_mk p) := by kernel_rfl
theorem qy_s : ∀ xs r, qy_S xs = some (true, r) → runF tab FT D44 live 151 qy_lo xs = some r := by
  intro xs r h
  unfold qy_S at h
  split at h
  · simp only [Option.some.injEq, Prod.mk.injEq] at h
    obtain ⟨h1, rfl⟩ := h
    exact fun_told (qy_e _) (qy_l _) h1
  · cases h
noncomputable def D45 : Dt := also D44 151 qy_S
theorem d45 : DOk Go.Proofs.Try.prog tab D45 := d44.also mixed_ok tab_ok names_ok (fnLoops_one (by kernel_rfl) qy_is2) qy_s
theorem qy_cc {s : BS} (hs : Typed tab (.str) (.s s)) : (qy_c s) = true := by
  unfold qy_c
  refine bifT (fun b1 => ?_) (fun b1 => ?_)
  · skip
    refine andT (by exact is_true ⟨rfl, by have := typed_str_len hs; omega, rfl⟩) ?_
    rfl
  · skip
    refine andT (by exact is_true ⟨rfl, by have := typed_str_len hs; omega, rfl⟩) ?_
    refine bifT (fun b2 => ?_) (fun b2 => ?_)
    · skip
      rfl
    · skip
      rfl
theorem qy_vv (s : BS) : qy_v s = nameOk s := by
  unfold qy_v qy_k2_1 nameOk
  rw [qy_R2_eq]
  generalize allI (fun i : Nat => nameB (i : Int) ((s.getD ((i : Int)).toNat 0).toNat : Int)) s.length = q
  cases q
  · simp [sumIs]
  · show (bif decide ((s.length : Int) ≥ 1) then decide ((s.length : Int) ≤ 12) else false) = (decide ((s.length : Int) ≥ 1) && decide ((s.length : Int) ≤ 12) && true)
    generalize decide ((s.length : Int) ≥ 1) = q1, decide ((s.length : Int) ≤ 12) = q2
    cases q1 <;> cases q2 <;> rfl
abbrev qn_2_σ := LL × BS × Int × Int
abbrev qn_2_ω := (Int) ⊕ (Unit)
noncomputable def qn_2_step (A : LL) (s : BS) (m i : Int) : Tr (qn_2_σ ⊕ qn_2_ω) := (.ite ((decide (i < m)) = true) (.ite ((0 : Int) ≤ i ∧ i < (A.length : Int)) (.ite ((s == (nth (row A i) 0).str) = true) (.ok (.inr (.inl i)))
    (.ok (.inl (A, s, m, (IntKind.wrap .i64 (i + (1 : Int)))))))
   .no)
  (.ok (.inr (.inr ()))))
noncomputable def qn_2_st : qn_2_σ → Tr (qn_2_σ ⊕ qn_2_ω) := fun x => (qn_2_step (x.1) (x.2.1) (x.2.2.1) (x.2.2.2))
noncomputable def qn_k2_1 (A : LL) (s : BS) (m i : Int) : Bool := A.all (fun x => !(s == (nth x 0).str))
noncomputable def qn_o2_2 (A : LL) (s : BS) (m i : Int) : Bool := is (i = 0 ∧ Typed tab (.slice 9) (.l A) ∧ m = (A.length : Int))
noncomputable def qn_o2_3 (A : LL) (s : BS) (m i : Int) : Bool := is (i = 0 ∧ Typed tab (.slice 9) (.l A) ∧ m = (A.length : Int))
noncomputable def qn_u2_3 (A : LL) (s : BS) (m i : Int) : Int := (Int.ofNat (A.findIdx fun x => !(fun x => !(s == (nth x 0).str)) x))
noncomputable def qn_2_fin (A : LL) (s : BS) (m i : Int) : Told qn_2_ω := (.br (qn_k2_1 A s m i) (.leaf (qn_o2_2 A s m i) (.inr ())) (.leaf (qn_o2_3 A s m i) (.inl (qn_u2_3 A s m i))))
def qn_2_sl (x : qn_2_σ) : List Slot := [⟨.val false [⟨.slice 9, .sh, TC.l (x.1)⟩], ⟨0, 0⟩⟩, ⟨.val false [⟨.str, .sh, TC.s (x.2.1)⟩], ⟨0, 0⟩⟩, ⟨.val false [⟨.int .i64, .sh, TC.i (x.2.2.1)⟩], ⟨0, 0⟩⟩, ⟨.val false [⟨.int .i64, .sh, TC.i (x.2.2.2)⟩], ⟨0, 0⟩⟩]
def qn_2_out : qn_2_ω → Ex × List Slot := (Sum.elim (fun x => (.ret, [⟨.val false [⟨.int .i64, .sh, TC.i x⟩], ⟨0, 0⟩⟩])) (fun x => (.exit 0, [Slot.none])))
noncomputable def qn_lo2 : List Slot → Option (Told (Ex × List Slot)) := fun s => match s with
  | [⟨.val false [⟨.slice 9, .sh, TC.l A⟩], ⟨0, 0⟩⟩, ⟨.val false [⟨.str, .sh, TC.s s⟩], ⟨0, 0⟩⟩, ⟨.val false [⟨.int .i64, .sh, TC.i m⟩], ⟨0, 0⟩⟩, ⟨.val false [⟨.int .i64, .sh, TC.i i⟩], ⟨0, 0⟩⟩] => some (((qn_2_fin A s m i)).map qn_2_out)
  | _ => .none
noncomputable def qn_lo : LoopTeller := fun r s => bif Nat.beq r 2 then qn_lo2 s else .none
theorem qn_2_r (A : LL) (s : BS) (m i : Int) (fuel : Nat) : rounds (rnd tab FT D45 live 142 qn_lo 0 2) leave (fuel + 1) (qn_2_sl (A, s, m, i)) = ((qn_2_step A s m i)).run (goOn (fun s => rounds (rnd tab FT D45 live 142 qn_lo 0 2) leave fuel (qn_2_sl s)) fun w => some (qn_2_out w)) := by kernel_rfl
theorem qn_2_h (A : LL) (s : BS) (m i : Int) (ow : qn_2_ω) : ((qn_2_fin A s m i)).val = some ow → ∃ fuel, loopN qn_2_st fuel (A, s, m, i) = some ow := by
  intro h
  have key : Typed tab (.slice 9) (.l A) → loopN qn_2_st (A.length + 1) (A, s, (A.length : Int), (0 : Int)) = some (if A.all (fun x => !(s == (nth x 0).str)) = true then (.inr ()) else (.inl (Int.ofNat (A.findIdx fun x => !(fun x => !(s == (nth x 0).str)) x)))) := by
    intro ht
    have hlen : A.length ≤ 140737488351232 := by have := typed_room ht; simp only [show (tab 9).bytes = 16 from rfl] at this; omega
    have key := loopN_scan (step := qn_2_st) A [] (fun x => !(s == (nth x 0).str)) (fun a _ => a) (fun i a => (A, s, (A.length : Int), (i : Int))) (fun a => (.inr ())) (fun i a => (.inl (i : Int))) (fun i a hi => ?_) (fun a => ?_) A.length 0 () (by omega)
    · first | (rw [Nat.zero_add] at key; exact key) | exact key
    · have c0 : Typed tab (.str) (.s (nth (A.getD i []) 0).str) := typed_s (typed_cell ht (A.getD i []) (mem_getD hi) 0 (by decide))
      show (qn_2_step A s (A.length : Int) (i : Int)).val = _
      unfold qn_2_step
      refine Tr.t (by simp; omega) ?_
      skip
      refine Tr.t (by first | omega | (constructor <;> omega)) ?_
      refine Tr.b2 (fun hP => ?_) (fun _ => rfl)
      rw [Tr.val_ok, wrap64 (i := (i : Int) + 1) (by omega) (by omega)]; rfl
    · show (qn_2_step A s (A.length : Int) (A.length : Int)).val = _
      refine Tr.n (by simp) ?_
      rfl
  simp only [qn_2_fin, Told.val] at h
  cases hk : A.all (fun x => !(s == (nth x 0).str)) with
  | true =>
    rw [if_pos (show qn_k2_1 A s m i = true from hk)] at h
    split at h
    · rename_i ho
      obtain ⟨rfl, ht, rfl⟩ := is_iff.1 ho
      cases h
      refine ⟨_, (key ht).trans ?_⟩
      rw [hk]; rfl
    · cases h
  | false =>
    rw [if_neg (show ¬qn_k2_1 A s m i = true from by rw [show qn_k2_1 A s m i = (A.all (fun x => !(s == (nth x 0).str))) from rfl, hk]; simp)] at h
    split at h
    · rename_i ho
      obtain ⟨rfl, ht, rfl⟩ := is_iff.1 ho
      cases h
      refine ⟨_, (key ht).trans ?_⟩
      rw [hk]; rfl
    · cases h
theorem qn_is2 : LoopIs tab FT D45 live 142 qn_lo 0 2 := by
  refine loop_told (sl := qn_2_sl) (step := qn_2_st) (out := qn_2_out) (lor := qn_lo2) (fin := fun x => (qn_2_fin (x.1) (x.2.1) (x.2.2.1) (x.2.2.2))) (fun _ => rfl) ?_ (fun x n => qn_2_r x.1 x.2.1 x.2.2.1 x.2.2.2 n) (fun x ow => qn_2_h x.1 x.2.1 x.2.2.1 x.2.2.2 ow)
  intro s t h
  unfold qn_lo2 at h
  split at h
  · cases h; exact ⟨(_, _, _, _), rfl, rfl⟩
  · cases h
noncomputable def qn_t (A : LL) (s : BS) : Tr (Int) := (.ite ((qn_k2_1 A s (A.length : Int) (0 : Int)) = true) (.ite ((qn_o2_2 A s (A.length : Int) (0 : Int)) = true) (.ok (-1 : Int))
   .no)
  (.ite ((qn_o2_3 A s (A.length : Int) (0 : Int)) = true) (.ok (qn_u2_3 A s (A.length : Int) (0 : Int)))
   .no))
def qn_mk (p : Int) : Res := [(false, [⟨.int .i64, .sh, TC.i p⟩])]
noncomputable def qn_c (A : LL) (s : BS) : Bool := is (((qn_o2_2 A s (A.length : Int) (0 : Int)) = true) ∧ ((qn_o2_3 A s (A.length : Int) (0 : Int)) = true))
noncomputable def qn_v (A : LL) (s : BS) : Int := (bif (qn_k2_1 A s (A.length : Int) (0 : Int)) then (-1 : Int) else (qn_u2_3 A s (A.length : Int) (0 : Int)))
theorem qn_l (A : LL) (s : BS) : (qn_c A s) = true → (qn_t A s).val = some (qn_v A s) := by
  intro h
  obtain ⟨g0, g1⟩ := is_iff.1 h
  unfold qn_t qn_v
  exact (Tr.s (Tr.t g0 rfl) (Tr.t g1 rfl))
noncomputable def qn_S : List Arg → Option (Bool × Res) := fun xs => match xs with
  | [(false, [(.slice 9, TC.l A)]), (false, [(.str, TC.s s)])] => some ((qn_c A s), qn_mk (qn_v A s))
  | _ => .none
theorem qn_e (A : LL) (s : BS) : runF tab FT D45 live 142 qn_lo [(false, [(.slice 9, TC.l A)]), (false, [(.str, TC.s s)])] = (qn_t A s).run fun p => some (qn_mk p) := by kernel_rfl
theorem qn_s : ∀ xs r, qn_S xs = some (true, r) → runF tab FT D45 live 142 qn_lo xs = some r := by
  intro xs r h
  unfold qn_S at h
  split at h
  · simp only [Option.some.injEq, Prod.mk.injEq] at h
    obtain ⟨h1, rfl⟩ := h
    exact fun_told (qn_e _ _) (qn_l _ _) h1
  · cases h
noncomputable def D46 : Dt := also D45 142 qn_S
theorem d46 : DOk Go.Proofs.Try.prog tab D46 := d45.also mixed_ok tab_ok names_ok (fnLoops_one (by kernel_rfl) qn_is2) qn_s
theorem qn_vv (A : LL) (s : BS) : qn_v A s = slotIdx A s := by
  show (bif A.all (fun x => !(s == (nth x 0).str)) then -1 else Int.ofNat (A.findIdx fun x => !(!(s == (nth x 0).str)))) = slotIdx A s
  unfold slotIdx
  have e : ∀ x : List TC, (s == (nth x 0).str) = ((nth x 0).str == s) := fun x => Bool.beq_comm
  simp only [e]
noncomputable def qby_t (a0 : LL) (a1 : BS) : Tr (Bool) := (.ite ((qn_c a0 a1) = true) (.ok (decide ((qn_v a0 a1) ≥ (0 : Int))))
  .no)
def qby_mk (p : Bool) : Res := [(false, [⟨.bool, .sh, TC.b p⟩])]
noncomputable def qby_c (a0 : LL) (a1 : BS) : Bool := (qn_c a0 a1)
noncomputable def qby_v (a0 : LL) (a1 : BS) : Bool := (decide ((qn_v a0 a1) ≥ (0 : Int)))
theorem qby_l (a0 : LL) (a1 : BS) : (qby_c a0 a1) = true → (qby_t a0 a1).val = some (qby_v a0 a1) := by
  intro h
  have hc0 : (qn_c a0 a1) = true := h
  unfold qby_t
  exact (Tr.t hc0 rfl)
noncomputable def qby_S : List Arg → Option (Bool × Res) := fun xs => match xs with
  | [(false, [(.slice 9, TC.l a0)]), (false, [(.str, TC.s a1)])] => some ((qby_c a0 a1), qby_mk (qby_v a0 a1))
  | _ => .none
theorem qby_e (a0 : LL) (a1 : BS) : runF tab FT D46 live 119 noLoops [(false, [(.slice 9, TC.l a0)]), (false, [(.str, TC.s a1)])] = (qby_t a0 a1).run fun p => some (qby_mk p) := by kernel_rfl
theorem qby_s : ∀ xs r, qby_S xs = some (true, r) → runF tab FT D46 live 119 noLoops xs = some r := by
  intro xs r h
  unfold qby_S at h
  split at h
  · simp only [Option.some.injEq, Prod.mk.injEq] at h
    obtain ⟨h1, rfl⟩ := h
    exact fun_told (qby_e _ _) (qby_l _ _) h1
  · cases h
noncomputable def D47 : Dt := also D46 119 qby_S
theorem d47 : DOk Go.Proofs.Try.prog tab D47 := d46.also mixed_ok tab_ok names_ok noLoops_ok qby_s
noncomputable def qj_f2 (A X : LL) (m i : Int) : (Unit) ⊕ ((Unit) ⊕ (Unit)) := (bif (!(qy_v ((nth (row X i) 0).str))) then (.inr (.inl ())) else (bif (qby_v ((A.take (i).toNat).drop ((0 : Int)).toNat) ((nth (row X i) 0).str)) then (.inr (.inl ())) else (.inl ())))
noncomputable def qj_e2 (A X : LL) (m : Int) : (Unit) ⊕ (Unit) := .inr ()
noncomputable def qj_R2 (A X : LL) (m i : Int) : (Unit) ⊕ (Unit) := iter (fun i a => (qj_f2 A X m (i : Int))) (fun a => (qj_e2 A X m)) (A.length) 0 ()
abbrev qj_2_σ := LL × LL × Int × Int
abbrev qj_2_ω := (Unit) ⊕ (Unit)
noncomputable def qj_2_step (A X : LL) (m i : Int) : Tr (qj_2_σ ⊕ qj_2_ω) := (.ite ((decide (i < m)) = true) (.ite ((0 : Int) ≤ i ∧ i < (X.length : Int)) (.ite ((qy_c ((nth (row X i) 0).str)) = true) (.ite ((!(qy_v ((nth (row X i) 0).str))) = true) (.ok (.inr (.inl ())))
     (.ite ((0 : Int) ≤ (0 : Int) ∧ (0 : Int) ≤ i ∧ i ≤ (A.length : Int)) (.ite ((qby_c ((A.take (i).toNat).drop ((0 : Int)).toNat) ((nth (row X i) 0).str)) = true) (.ite ((qby_v ((A.take (i).toNat).drop ((0 : Int)).toNat) ((nth (row X i) 0).str)) = true) (.ok (.inr (.inl ())))
        (.ok (.inl (A, X, m, (IntKind.wrap .i64 (i + (1 : Int)))))))
       .no)
      .no))
    .no)
   .no)
  (.ok (.inr (.inr ()))))
noncomputable def qj_2_st : qj_2_σ → Tr (qj_2_σ ⊕ qj_2_ω) := fun x => (qj_2_step (x.1) (x.2.1) (x.2.2.1) (x.2.2.2))
noncomputable def qj_k2_1 (A X : LL) (m i : Int) : Bool := sumIs (qj_R2 A X m i)
noncomputable def qj_o2_2 (A X : LL) (m i : Int) : Bool := is (i = 0 ∧ A = X ∧ m = (A.length : Int) ∧ Typed tab (.slice 9) (.l A))
noncomputable def qj_o2_3 (A X : LL) (m i : Int) : Bool := is (i = 0 ∧ A = X ∧ m = (A.length : Int) ∧ Typed tab (.slice 9) (.l A))
noncomputable def qj_2_fin (A X : LL) (m i : Int) : Told qj_2_ω := (.br (qj_k2_1 A X m i) (.leaf (qj_o2_2 A X m i) (.inl ())) (.leaf (qj_o2_3 A X m i) (.inr ())))
def qj_2_sl (x : qj_2_σ) : List Slot := [⟨.val false [⟨.slice 9, .sh, TC.l (x.1)⟩], ⟨0, 0⟩⟩, ⟨.val false [⟨.slice 9, .sh, TC.l (x.2.1)⟩], ⟨0, 0⟩⟩, ⟨.val false [⟨.int .i64, .sh, TC.i (x.2.2.1)⟩], ⟨0, 0⟩⟩, ⟨.val false [⟨.int .i64, .sh, TC.i (x.2.2.2)⟩], ⟨0, 0⟩⟩]
def qj_2_out : qj_2_ω → Ex × List Slot := (Sum.elim (fun x => (.ret, [⟨.val false [⟨.bool, .sh, TC.b false⟩], ⟨0, 0⟩⟩])) (fun x => (.exit 0, [Slot.none])))
noncomputable def qj_lo2 : List Slot → Option (Told (Ex × List Slot)) := fun s => match s with
  | [⟨.val false [⟨.slice 9, .sh, TC.l A⟩], ⟨0, 0⟩⟩, ⟨.val false [⟨.slice 9, .sh, TC.l X⟩], ⟨0, 0⟩⟩, ⟨.val false [⟨.int .i64, .sh, TC.i m⟩], ⟨0, 0⟩⟩, ⟨.val false [⟨.int .i64, .sh, TC.i i⟩], ⟨0, 0⟩⟩] => some (((qj_2_fin A X m i)).map qj_2_out)
  | _ => .none
noncomputable def qj_lo : LoopTeller := fun r s => bif Nat.beq r 2 then qj_lo2 s else .none
theorem qj_2_r (A X : LL) (m i : Int) (fuel : Nat) : rounds (rnd tab FT D47 live 137 qj_lo 0 2) leave (fuel + 1) (qj_2_sl (A, X, m, i)) = ((qj_2_step A X m i)).run (goOn (fun s => rounds (rnd tab FT D47 live 137 qj_lo 0 2) leave fuel (qj_2_sl s)) fun w => some (qj_2_out w)) := by kernel_rfl
theorem qj_f2_eq (A : LL) (m : Int) (i : Nat) (hi : i < A.length) : qj_f2 A A m (i : Int) = bif dnP A (i : Int) then Sum.inl () else Sum.inr (Sum.inl ()) := by
  unfold qj_f2
  have e2 : qby_v ((A.take ((i : Int)).toNat).drop ((0 : Int)).toNat) (nth (row A (i : Int)) 0).str = !(noDupN A (i : Int)) := by
    unfold qby_v noDupN
    rw [qn_vv, slotIdx_in, Int.toNat_natCast, show ((0 : Int)).toNat = 0 from rfl, List.drop_zero, allI_take (by omega)]
    rfl
  rw [e2, qy_vv]
  show _ = bif (nameOk (nth (row A (i : Int)) 0).str && noDupN A (i : Int)) then _ else _
  cases nameOk (nth (row A (i : Int)) 0).str <;> cases noDupN A (i : Int) <;> rfl
theorem qj_R2_eq (A : LL) (m : Int) : qj_R2 A A m 0 = bif allI (fun i : Nat => dnP A (i : Int)) A.length then Sum.inr () else Sum.inl () := by
  unfold qj_R2
  exact (iter_all (P := fun i : Nat => dnP A (i : Int)) (g := fun _ a => a) (w := Sum.inl ()) fun j a hj => qj_f2_eq A m j hj)
theorem qj_2_h (A X : LL) (m i : Int) (ow : qj_2_ω) : ((qj_2_fin A X m i)).val = some ow → ∃ fuel, loopN qj_2_st fuel (A, X, m, i) = some ow := by
  refine auto_const (R := (qj_R2 A X m i)) rfl (iter_onR (f := (fun i a => (qj_f2 A X m (i : Int)))) (fin := (fun a => (qj_e2 A X m))) (Q := endsAs () ()) (fun i a => by unfold qj_f2; exact (onR_bif rfl (onR_bif rfl trivial))) (fun _ => rfl) _ _ _) ?_
  intro ho
  have ho : is (i = 0 ∧ A = X ∧ m = (A.length : Int) ∧ Typed tab (.slice 9) (.l A)) = true := ho.elim id id
  obtain ⟨rfl, rfl, rfl, ht⟩ := is_iff.1 ho
  have hlen : A.length ≤ 140737488351232 := by have := typed_room ht; simp only [show (tab 9).bytes = 16 from rfl] at this; omega
  refine ⟨(A.length) + 1, ?_⟩
  refine iter_loop (step := qj_2_st) (A.length) (fun i a => (qj_f2 A A (A.length : Int) (i : Int))) (fun a => (qj_e2 A A (A.length : Int))) (fun i a => (A, A, (A.length : Int), (i : Int))) (fun _ _ => True) trivial (fun i a hi hI => ⟨?_, fun _ _ => trivial⟩) (fun a hI => ?_)
  · show (qj_2_step A A (A.length : Int) (i : Int)).val = _
    unfold qj_2_step qj_f2
    have c0 : Typed tab (.str) (.s (nth (A.getD i []) 0).str) := typed_s (typed_cell ht (A.getD i []) (mem_getD hi) 0 (by decide))
    refine Tr.t (by simp; omega) ?_
    exact (Tr.t (by first | omega | (constructor <;> omega) | ((show qn_c _ _ = true; exact is_true ⟨is_true ⟨rfl, typed_take ht, rfl⟩, is_true ⟨rfl, typed_take ht, rfl⟩⟩))) (Tr.t (by first | ((show qn_c _ _ = true; exact is_true ⟨is_true ⟨rfl, typed_take ht, rfl⟩, is_true ⟨rfl, typed_take ht, rfl⟩⟩)) | (first | (apply qy_cc <;> assumption) | (first | (apply is_true; and_intros <;> (first | rfl | assumption | (apply ql_cc <;> assumption) | (apply qbb_cc <;> assumption) | (apply qm_cc <;> assumption) | (apply qq_cc <;> assumption) | (apply qv_cc <;> assumption) | (apply qz_cc <;> assumption) | (apply qr_cc <;> assumption) | (apply qh_cc <;> assumption) | (apply qd_cc <;> assumption) | (apply qbm_cc <;> assumption) | (apply qp_cc <;> assumption) | (apply qbg_cc <;> assumption) | (apply qg_cc <;> assumption) | (apply qy_cc <;> assumption) | (first | (apply is_true; and_intros <;> (first | rfl | assumption | (apply ql_cc <;> assumption) | (apply qbb_cc <;> assumption) | (apply qm_cc <;> assumption) | (apply qq_cc <;> assumption) | (apply qv_cc <;> assumption) | (apply qz_cc <;> assumption) | (apply qr_cc <;> assumption) | (apply qh_cc <;> assumption) | (apply qd_cc <;> assumption) | (apply qbm_cc <;> assumption) | (apply qp_cc <;> assumption) | (apply qbg_cc <;> assumption) | (apply qg_cc <;> assumption) | (apply qy_cc <;> assumption))) | (apply ql_cc <;> assumption) | (apply qbb_cc <;> assumption) | (apply qm_cc <;> assumption) | (apply qq_cc <;> assumption) | (apply qv_cc <;> assumption) | (apply qz_cc <;> assumption) | (apply qr_cc <;> assumption) | (apply qh_cc <;> assumption) | (apply qd_cc <;> assumption) | (apply qbm_cc <;> assumption) | (apply qp_cc <;> assumption) | (apply qbg_cc <;> assumption) | (apply qg_cc <;> assumption) | (apply qy_cc <;> assumption)))) | (apply ql_cc <;> assumption) | (apply qbb_cc <;> assumption) | (apply qm_cc <;> assumption) | (apply qq_cc <;> assumption) | (apply qv_cc <;> assumption) | (apply qz_cc <;> assumption) | (apply qr_cc <;> assumption) | (apply qh_cc <;> assumption) | (apply qd_cc <;> assumption) | (apply qbm_cc <;> assumption) | (apply qp_cc <;> assumption) | (apply qbg_cc <;> assumption) | (apply qg_cc <;> assumption) | (apply qy_cc <;> assumption)))) (Tr.bf rfl (Tr.t (by first | omega | (constructor <;> omega) | ((show qn_c _ _ = true; exact is_true ⟨is_true ⟨rfl, typed_take ht, rfl⟩, is_true ⟨rfl, typed_take ht, rfl⟩⟩))) (Tr.t (by first | ((show qn_c _ _ = true; exact is_true ⟨is_true ⟨rfl, typed_take ht, rfl⟩, is_true ⟨rfl, typed_take ht, rfl⟩⟩)) | (first | (apply is_true; and_intros <;> (first | rfl | assumption | (apply ql_cc <;> assumption) | (apply qbb_cc <;> assumption) | (apply qm_cc <;> assumption) | (apply qq_cc <;> assumption) | (apply qv_cc <;> assumption) | (apply qz_cc <;> assumption) | (apply qr_cc <;> assumption) | (apply qh_cc <;> assumption) | (apply qd_cc <;> assumption) | (apply qbm_cc <;> assumption) | (apply qp_cc <;> assumption) | (apply qbg_cc <;> assumption) | (apply qg_cc <;> assumption) | (apply qy_cc <;> assumption) | (first | (apply is_true; and_intros <;> (first | rfl | assumption | (apply ql_cc <;> assumption) | (apply qbb_cc <;> assumption) | (apply qm_cc <;> assumption) | (apply qq_cc <;> assumption) | (apply qv_cc <;> assumption) | (apply qz_cc <;> assumption) | (apply qr_cc <;> assumption) | (apply qh_cc <;> assumption) | (apply qd_cc <;> assumption) | (apply qbm_cc <;> assumption) | (apply qp_cc <;> assumption) | (apply qbg_cc <;> assumption) | (apply qg_cc <;> assumption) | (apply qy_cc <;> assumption) | (first | (apply is_true; and_intros <;> (first | rfl | assumption | (apply ql_cc <;> assumption) | (apply qbb_cc <;> assumption) | (apply qm_cc <;> assumption) | (apply qq_cc <;> assumption) | (apply qv_cc <;> assumption) | (apply qz_cc <;> assumption) | (apply qr_cc <;> assumption) | (apply qh_cc <;> assumption) | (apply qd_cc <;> assumption) | (apply qbm_cc <;> assumption) | (apply qp_cc <;> assumption) | (apply qbg_cc <;> assumption) | (apply qg_cc <;> assumption) | (apply qy_cc <;> assumption))) | (apply ql_cc <;> assumption) | (apply qbb_cc <;> assumption) | (apply qm_cc <;> assumption) | (apply qq_cc <;> assumption) | (apply qv_cc <;> assumption) | (apply qz_cc <;> assumption) | (apply qr_cc <;> assumption) | (apply qh_cc <;> assumption) | (apply qd_cc <;> assumption) | (apply qbm_cc <;> assumption) | (apply qp_cc <;> assumption) | (apply qbg_cc <;> assumption) | (apply qg_cc <;> assumption) | (apply qy_cc <;> assumption)))) | (apply ql_cc <;> assumption) | (apply qbb_cc <;> assumption) | (apply qm_cc <;> assumption) | (apply qq_cc <;> assumption) | (apply qv_cc <;> assumption) | (apply qz_cc <;> assumption) | (apply qr_cc <;> assumption) | (apply qh_cc <;> assumption) | (apply qd_cc <;> assumption) | (apply qbm_cc <;> assumption) | (apply qp_cc <;> assumption) | (apply qbg_cc <;> assumption) | (apply qg_cc <;> assumption) | (apply qy_cc <;> assumption)))) | (apply ql_cc <;> assumption) | (apply qbb_cc <;> assumption) | (apply qm_cc <;> assumption) | (apply qq_cc <;> assumption) | (apply qv_cc <;> assumption) | (apply qz_cc <;> assumption) | (apply qr_cc <;> assumption) | (apply qh_cc <;> assumption) | (apply qd_cc <;> assumption) | (apply qbm_cc <;> assumption) | (apply qp_cc <;> assumption) | (apply qbg_cc <;> assumption) | (apply qg_cc <;> assumption) | (apply qy_cc <;> assumption))) (Tr.bf rfl (by rw [Tr.val_ok, wrap64 (i := (i : Int) + 1) (by omega) (by omega)]; rfl)))))))
  · show (qj_2_step A A (A.length : Int) (A.length : Int)).val = _
    refine Tr.n (by first | (simp; done) | (simp; omega) | omega) ?_
    rfl
end
end
end
end
end
end
end
end
end
end Go.Proofs.Ytdcafhfnkblfkaa.V
