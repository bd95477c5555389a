/- What the functions of FnExactEncodeType answer. No condition. -/
import Derived.Test.YtdcafhfnkblfkaaVFnExactEncodeTypeP2
namespace Go.Proofs.Ytdcafhfnkblfkaa.V
open Go
set_option maxRecDepth 100000
set_option linter.unusedVariables false
set_option linter.unusedSectionVars false
set_option linter.unusedSimpArgs false
set_option maxHeartbeats 2000000
section
variable [i_laws_szType : qbc_O]
variable [g_laws_szType : qbc_G]
section
variable [i_laws_toType : qq_O]
variable [g_laws_toType : qq_G]
section
variable [i_spec_l02Size : qo_O]
variable [g_spec_l02Size : qo_G]
section
variable [i_spec_l02Depth : qg_O]
variable [g_spec_l02Depth : qg_G]
section
variable [i_spec_l02Ok : qbh_O]
variable [g_spec_l02Ok : qbh_G]
section
variable [i_spec_l02Encode : qf_O]
variable [g_spec_l02Encode : qf_G]
theorem qbq_3_h (n size : Int) (bg : Bool) (out : BS) (k : Int) (ow : qbq_3_ω) : ((qbq_3_fin n size bg out k)).val = some ow → ∃ fuel, loopN qbq_3_st fuel (n, size, bg, out, k) = some ow := by
  intro h
  refine auto_leaf (R := putB n size.toNat bg) (fun ho => ?_) h
  obtain ⟨sz, rfl, h8, rfl, rfl⟩ := is_iff.1 ho
  refine ⟨sz + 1, Eq.trans (congrArg (loopN qbq_3_st (sz + 1)) (by cases bg <;> rfl)) (loopN_run (step := qbq_3_st) (N := sz) (fun j => (n, (sz : Int), bg, putB n j bg, (j : Int))) (fun j hj => ?_) ?_ sz 0 (by omega))⟩
  · have e1 : IntKind.wrap .u64 (IntKind.wrap .i64 ((8 : Int) * (j : Int))) = ((8 * j : Nat) : Int) := by
      rw [wrap64 (by omega) (by omega), IntKind.wrap_u64]; omega
    have eb : qs_v (bits .i64 (fun a b => a &&& b) (Int.fdiv n (2 ^ (8 * j))) (255 : Int)) = [byteOf (bAt n j)] := by
      rw [qs_h]
      show [byteOf (bAt _ 0)] = _
      unfold bAt
      rw [show Int.fdiv (bits .i64 (fun a b => a &&& b) (Int.fdiv n (2 ^ (8 * j))) (255 : Int)) (2 ^ (8 * 0)) = bits .i64 (fun a b => a &&& b) (Int.fdiv n (2 ^ (8 * j))) (255 : Int) from by simp, u8_and]
    show (qbq_3_step n (sz : Int) bg (putB n j bg) (j : Int)).val = _
    unfold qbq_3_step
    rw [e1, Int.toNat_natCast, Nat.min_eq_left (by omega), eb]
    refine Tr.t (by simp; omega) ?_
    refine Tr.t (by omega) ?_
    have hl := putB_len (n := n) (sz := j) (bg := bg)
    cases bg with
    | true =>
      refine Tr.t rfl ?_
      refine Tr.t (by rw [hl, List.length_singleton]; omega) ?_
      rw [Tr.val_ok, wrap64 (i := (j : Int) + 1) (by omega) (by omega)]
      have e2 : putB n (j + 1) true = [byteOf (bAt n j)] ++ putB n j true := by
        show (bytesL n (j + 1)).reverse = _ ++ (bytesL n j).reverse
        rw [bytesL_succ, List.reverse_append]; rfl
      rw [e2]; rfl
    | false =>
      refine Tr.n (by simp) ?_
      refine Tr.t (by rw [hl, List.length_singleton]; omega) ?_
      rw [Tr.val_ok, wrap64 (i := (j : Int) + 1) (by omega) (by omega)]
      have e2 : putB n (j + 1) false = putB n j false ++ [byteOf (bAt n j)] := bytesL_succ
      rw [e2]; rfl
  · show (qbq_3_step n (sz : Int) bg (putB n sz bg) (sz : Int)).val = _
    unfold qbq_3_step
    refine Tr.n (by simp) ?_
    rfl
theorem qbq_is3 : LoopIs tab FT D28 live 82 qbq_lo 0 3 := by
  refine loop_told (sl := qbq_3_sl) (step := qbq_3_st) (out := qbq_3_out) (lor := qbq_lo3) (fin := fun x => (qbq_3_fin (x.1) (x.2.1) (x.2.2.1) (x.2.2.2.1) (x.2.2.2.2))) (fun _ => rfl) ?_ (fun x n => qbq_3_r x.1 x.2.1 x.2.2.1 x.2.2.2.1 x.2.2.2.2 n) (fun x ow => qbq_3_h x.1 x.2.1 x.2.2.1 x.2.2.2.1 x.2.2.2.2 ow)
  intro s t h
  unfold qbq_lo3 at h
  split at h
  · cases h; exact ⟨(_, _, _, _, _), rfl, rfl⟩
  · cases h
noncomputable def qbq_t (n size : Int) (bg : Bool) : Tr (BS) := (.ite ((qbq_o3_1 n size bg [] (0 : Int)) = true) (.ok (qbq_u3_1 n size bg [] (0 : Int)))
  .no)
def qbq_mk (p : BS) : Res := [(false, [⟨.str, .sh, TC.s p⟩])]
noncomputable def qbq_c (n size : Int) (bg : Bool) : Bool := is (∃ sz : Nat, size = (sz : Int) ∧ sz ≤ 8)
noncomputable def qbq_v (n size : Int) (bg : Bool) : BS := hid (putB n size.toNat bg)
theorem qbq_l (n size : Int) (bg : Bool) : (qbq_c n size bg) = true → (qbq_t n size bg).val = some (qbq_v n size bg) := by
  intro h
  obtain ⟨sz, rfl, h8⟩ := is_iff.1 h
  unfold qbq_t qbq_v
  rw [hid_eq]
  refine Tr.t (is_true ⟨sz, rfl, h8, rfl, rfl⟩) ?_
  rfl
noncomputable def qbq_S : List Arg → Option (Bool × Res) := fun xs => match xs with
  | [(false, [(.int .i64, TC.i n)]), (false, [(.int .i64, TC.i size)]), (false, [(.bool, TC.b bg)])] => some ((qbq_c n size bg), qbq_mk (qbq_v n size bg))
  | _ => .none
theorem qbq_e (n size : Int) (bg : Bool) : runF tab FT D28 live 82 qbq_lo [(false, [(.int .i64, TC.i n)]), (false, [(.int .i64, TC.i size)]), (false, [(.bool, TC.b bg)])] = (qbq_t n size bg).run fun p => some (qbq_mk p) := by kernel_rfl
theorem qbq_s : ∀ xs r, qbq_S xs = some (true, r) → runF tab FT D28 live 82 qbq_lo xs = some r := by
  intro xs r h
  unfold qbq_S at h
  split at h
  · simp only [Option.some.injEq, Prod.mk.injEq] at h
    obtain ⟨h1, rfl⟩ := h
    exact fun_told (qbq_e _ _ _) (qbq_l _ _ _) h1
  · cases h
noncomputable def D29 : Dt := also D28 82 qbq_S
theorem d29 : DOk Go.Proofs.Try.prog tab D29 := d28.also mixed_ok tab_ok names_ok (fnLoops_one (by kernel_rfl) qbq_is3) qbq_s
theorem qbq_h {n size : Int} {bg : Bool} : qbq_v n size bg = putB n size.toNat bg := hid_eq _
abbrev qf_21_σ := Int × Int × Bool × Bool × LL × LL × LL × LL × Int × BS × Int
abbrev qf_21_ω := (BS)
noncomputable def qf_21_step (k s : Int) (sg bg : Bool) (NA NU ME BA : LL) (ct : Int) (o : BS) (i : Int) : Tr (qf_21_σ ⊕ qf_21_ω) := (.ite ((decide (i < (ME.length : Int))) = true) (.ite ((0 : Int) ≤ i ∧ i < (ME.length : Int)) (.ite ((((qs_v (((nth (row ME i) 0).str).length : Int)).length + ((nth (row ME i) 0).str).length : Nat) : Int) ≤ 9223372036854775807) (.ite (((((qs_v (((nth (row ME i) 0).str).length : Int)) ++ (nth (row ME i) 0).str).length + (qs_v ((nth (row ME i) 1).int)).length : Nat) : Int) ≤ 9223372036854775807) (.ite ((qf_rc ((nth (row ME i) 2).int) ((nth (row ME i) 3).int) ((nth (row ME i) 4).bool) ((nth (row ME i) 5).bool) ((nth (row ME i) 6).list) ((nth (row ME i) 7).list) ((nth (row ME i) 8).list) ((nth (row ME i) 9).list) ((nth (row ME i) 10).int)) = true) (.ite ((((((qs_v (((nth (row ME i) 0).str).length : Int)) ++ (nth (row ME i) 0).str) ++ (qs_v ((nth (row ME i) 1).int))).length + (qf_rv ((nth (row ME i) 2).int) ((nth (row ME i) 3).int) ((nth (row ME i) 4).bool) ((nth (row ME i) 5).bool) ((nth (row ME i) 6).list) ((nth (row ME i) 7).list) ((nth (row ME i) 8).list) ((nth (row ME i) 9).list) ((nth (row ME i) 10).int)).length : Nat) : Int) ≤ 9223372036854775807) (.ite (((o.length + ((((qs_v (((nth (row ME i) 0).str).length : Int)) ++ (nth (row ME i) 0).str) ++ (qs_v ((nth (row ME i) 1).int))) ++ (qf_rv ((nth (row ME i) 2).int) ((nth (row ME i) 3).int) ((nth (row ME i) 4).bool) ((nth (row ME i) 5).bool) ((nth (row ME i) 6).list) ((nth (row ME i) 7).list) ((nth (row ME i) 8).list) ((nth (row ME i) 9).list) ((nth (row ME i) 10).int))).length : Nat) : Int) ≤ 9223372036854775807) (.ok (.inl (k, s, sg, bg, NA, NU, ME, BA, ct, (o ++ ((((qs_v (((nth (row ME i) 0).str).length : Int)) ++ (nth (row ME i) 0).str) ++ (qs_v ((nth (row ME i) 1).int))) ++ (qf_rv ((nth (row ME i) 2).int) ((nth (row ME i) 3).int) ((nth (row ME i) 4).bool) ((nth (row ME i) 5).bool) ((nth (row ME i) 6).list) ((nth (row ME i) 7).list) ((nth (row ME i) 8).list) ((nth (row ME i) 9).list) ((nth (row ME i) 10).int)))), (IntKind.wrap .i64 (i + (1 : Int))))))
        .no)
       .no)
      .no)
     .no)
    .no)
   .no)
  (.ok (.inr o)))
noncomputable def qf_21_st : qf_21_σ → Tr (qf_21_σ ⊕ qf_21_ω) := fun x => (qf_21_step (x.1) (x.2.1) (x.2.2.1) (x.2.2.2.1) (x.2.2.2.2.1) (x.2.2.2.2.2.1) (x.2.2.2.2.2.2.1) (x.2.2.2.2.2.2.2.1) (x.2.2.2.2.2.2.2.2.1) (x.2.2.2.2.2.2.2.2.2.1) (x.2.2.2.2.2.2.2.2.2.2))
noncomputable def qf_o21_1 (k s : Int) (sg bg : Bool) (NA NU ME BA : LL) (ct : Int) (o : BS) (i : Int) : Bool := is (i = 0 ∧ ME.length ≤ 4 ∧ (∀ x : List TC, x ∈ ME → okV (nth x 2).int (nth x 3).int (nth x 4).bool (nth x 5).bool (nth x 6).list (nth x 7).list (nth x 8).list (nth x 9).list (nth x 10).int = true) ∧ (∀ x : List TC, x ∈ ME → (nth x 0).str.length ≤ 12) ∧ (∀ x : List TC, x ∈ ME → qf_rc (nth x 2).int (nth x 3).int (nth x 4).bool (nth x 5).bool (nth x 6).list (nth x 7).list (nth x 8).list (nth x 9).list (nth x 10).int = true) ∧ o.length ≤ 1000)
noncomputable def qf_u21_1 (k s : Int) (sg bg : Bool) (NA NU ME BA : LL) (ct : Int) (o : BS) (i : Int) : BS := ME.foldl (fun o x => o ++ (memB x ++ encV (nth x 2).int (nth x 3).int (nth x 4).bool (nth x 5).bool (nth x 6).list (nth x 7).list (nth x 8).list (nth x 9).list (nth x 10).int)) o
noncomputable def qf_21_fin (k s : Int) (sg bg : Bool) (NA NU ME BA : LL) (ct : Int) (o : BS) (i : Int) : Told qf_21_ω := (.leaf (qf_o21_1 k s sg bg NA NU ME BA ct o i) (qf_u21_1 k s sg bg NA NU ME BA ct o i))
def qf_21_sl (x : qf_21_σ) : List Slot := [⟨.bx 32 [⟨.int .i64, .sh, TC.i (x.1)⟩, ⟨.int .i64, .sh, TC.i (x.2.1)⟩, ⟨.bool, .sh, TC.b (x.2.2.1)⟩, ⟨.bool, .sh, TC.b (x.2.2.2.1)⟩, ⟨.slice 9, .sh, TC.l (x.2.2.2.2.1)⟩, ⟨.slice 2, .sh, TC.l (x.2.2.2.2.2.1)⟩, ⟨.slice 71, .sh, TC.l (x.2.2.2.2.2.2.1)⟩, ⟨.slice 32, .sh, TC.l (x.2.2.2.2.2.2.2.1)⟩, ⟨.int .i64, .sh, TC.i (x.2.2.2.2.2.2.2.2.1)⟩], ⟨0, 0⟩⟩, ⟨.val false [⟨.str, .sh, TC.s (x.2.2.2.2.2.2.2.2.2.1)⟩], ⟨0, 0⟩⟩, ⟨.val false [⟨.int .i64, .sh, TC.i (x.2.2.2.2.2.2.2.2.2.2)⟩], ⟨0, 0⟩⟩]
def qf_21_out : qf_21_ω → Ex × List Slot := (fun x => (.exit 3, [Slot.none, ⟨.val false [⟨.str, .sh, TC.s x⟩], ⟨0, 0⟩⟩]))
noncomputable def qf_lo21 : List Slot → Option (Told (Ex × List Slot)) := fun s => match s with
  | [⟨.bx 32 [⟨.int .i64, .sh, TC.i k⟩, ⟨.int .i64, .sh, TC.i s⟩, ⟨.bool, .sh, TC.b sg⟩, ⟨.bool, .sh, TC.b bg⟩, ⟨.slice 9, .sh, TC.l NA⟩, ⟨.slice 2, .sh, TC.l NU⟩, ⟨.slice 71, .sh, TC.l ME⟩, ⟨.slice 32, .sh, TC.l BA⟩, ⟨.int .i64, .sh, TC.i ct⟩], ⟨0, 0⟩⟩, ⟨.val false [⟨.str, .sh, TC.s o⟩], ⟨0, 0⟩⟩, ⟨.val false [⟨.int .i64, .sh, TC.i i⟩], ⟨0, 0⟩⟩] => some (((qf_21_fin k s sg bg NA NU ME BA ct o i)).map qf_21_out)
  | _ => .none
abbrev qf_15_σ := Int × Int × Bool × Bool × LL × LL × LL × LL × Int × BS × Int
abbrev qf_15_ω := (BS)
noncomputable def qf_15_step (k s : Int) (sg bg : Bool) (NA NU ME BA : LL) (ct : Int) (o : BS) (i : Int) : Tr (qf_15_σ ⊕ qf_15_ω) := (.ite ((decide (i < (NA.length : Int))) = true) (.ite ((0 : Int) ≤ i ∧ i < (NA.length : Int)) (.ite ((0 : Int) ≤ i ∧ i < (NA.length : Int)) (.ite ((((qs_v (((nth (row NA i) 0).str).length : Int)).length + ((nth (row NA i) 0).str).length : Nat) : Int) ≤ 9223372036854775807) (.ite ((0 : Int) ≤ i ∧ i < (NU.length : Int)) (.ite ((qbq_c ((nth (row NU i) 0).int) (8 : Int) false) = true) (.ite (((((qs_v (((nth (row NA i) 0).str).length : Int)) ++ (nth (row NA i) 0).str).length + (qbq_v ((nth (row NU i) 0).int) (8 : Int) false).length : Nat) : Int) ≤ 9223372036854775807) (.ite (((o.length + (((qs_v (((nth (row NA i) 0).str).length : Int)) ++ (nth (row NA i) 0).str) ++ (qbq_v ((nth (row NU i) 0).int) (8 : Int) false)).length : Nat) : Int) ≤ 9223372036854775807) (.ok (.inl (k, s, sg, bg, NA, NU, ME, BA, ct, (o ++ (((qs_v (((nth (row NA i) 0).str).length : Int)) ++ (nth (row NA i) 0).str) ++ (qbq_v ((nth (row NU i) 0).int) (8 : Int) false))), (IntKind.wrap .i64 (i + (1 : Int))))))
         .no)
        .no)
       .no)
      .no)
     .no)
    .no)
   .no)
  (.ok (.inr o)))
noncomputable def qf_15_st : qf_15_σ → Tr (qf_15_σ ⊕ qf_15_ω) := fun x => (qf_15_step (x.1) (x.2.1) (x.2.2.1) (x.2.2.2.1) (x.2.2.2.2.1) (x.2.2.2.2.2.1) (x.2.2.2.2.2.2.1) (x.2.2.2.2.2.2.2.1) (x.2.2.2.2.2.2.2.2.1) (x.2.2.2.2.2.2.2.2.2.1) (x.2.2.2.2.2.2.2.2.2.2))
noncomputable def qf_o15_1 (k s : Int) (sg bg : Bool) (NA NU ME BA : LL) (ct : Int) (o : BS) (i : Int) : Bool := is (i = 0 ∧ NU.length = NA.length ∧ NA.length ≤ 6 ∧ (∀ i, i < NA.length → (nth (row NA (i : Int)) 0).str.length ≤ 12) ∧ o.length ≤ 1000)
noncomputable def qf_u15_1 (k s : Int) (sg bg : Bool) (NA NU ME BA : LL) (ct : Int) (o : BS) (i : Int) : BS := o ++ enumB NA NU NA.length
noncomputable def qf_15_fin (k s : Int) (sg bg : Bool) (NA NU ME BA : LL) (ct : Int) (o : BS) (i : Int) : Told qf_15_ω := (.leaf (qf_o15_1 k s sg bg NA NU ME BA ct o i) (qf_u15_1 k s sg bg NA NU ME BA ct o i))
def qf_15_sl (x : qf_15_σ) : List Slot := [⟨.bx 32 [⟨.int .i64, .sh, TC.i (x.1)⟩, ⟨.int .i64, .sh, TC.i (x.2.1)⟩, ⟨.bool, .sh, TC.b (x.2.2.1)⟩, ⟨.bool, .sh, TC.b (x.2.2.2.1)⟩, ⟨.slice 9, .sh, TC.l (x.2.2.2.2.1)⟩, ⟨.slice 2, .sh, TC.l (x.2.2.2.2.2.1)⟩, ⟨.slice 71, .sh, TC.l (x.2.2.2.2.2.2.1)⟩, ⟨.slice 32, .sh, TC.l (x.2.2.2.2.2.2.2.1)⟩, ⟨.int .i64, .sh, TC.i (x.2.2.2.2.2.2.2.2.1)⟩], ⟨0, 0⟩⟩, ⟨.val false [⟨.str, .sh, TC.s (x.2.2.2.2.2.2.2.2.2.1)⟩], ⟨0, 0⟩⟩, ⟨.val false [⟨.int .i64, .sh, TC.i (x.2.2.2.2.2.2.2.2.2.2)⟩], ⟨0, 0⟩⟩]
def qf_15_out : qf_15_ω → Ex × List Slot := (fun x => (.exit 1, [Slot.none, ⟨.val false [⟨.str, .sh, TC.s x⟩], ⟨0, 0⟩⟩]))
noncomputable def qf_lo15 : List Slot → Option (Told (Ex × List Slot)) := fun s => match s with
  | [⟨.bx 32 [⟨.int .i64, .sh, TC.i k⟩, ⟨.int .i64, .sh, TC.i s⟩, ⟨.bool, .sh, TC.b sg⟩, ⟨.bool, .sh, TC.b bg⟩, ⟨.slice 9, .sh, TC.l NA⟩, ⟨.slice 2, .sh, TC.l NU⟩, ⟨.slice 71, .sh, TC.l ME⟩, ⟨.slice 32, .sh, TC.l BA⟩, ⟨.int .i64, .sh, TC.i ct⟩], ⟨0, 0⟩⟩, ⟨.val false [⟨.str, .sh, TC.s o⟩], ⟨0, 0⟩⟩, ⟨.val false [⟨.int .i64, .sh, TC.i i⟩], ⟨0, 0⟩⟩] => some (((qf_15_fin k s sg bg NA NU ME BA ct o i)).map qf_15_out)
  | _ => .none
noncomputable def qf_lo : LoopTeller := fun r s => bif Nat.beq r 15 then qf_lo15 s else bif Nat.beq r 21 then qf_lo21 s else .none
theorem qf_21_r (k s : Int) (sg bg : Bool) (NA NU ME BA : LL) (ct : Int) (o : BS) (i : Int) (fuel : Nat) : rounds (rnd tab FT D29 live 52 qf_lo 1 21) leave (fuel + 1) (qf_21_sl (k, s, sg, bg, NA, NU, ME, BA, ct, o, i)) = ((qf_21_step k s sg bg NA NU ME BA ct o i)).run (goOn (fun s => rounds (rnd tab FT D29 live 52 qf_lo 1 21) leave fuel (qf_21_sl s)) fun w => some (qf_21_out w)) := by kernel_rfl
theorem qf_21_h (k s : Int) (sg bg : Bool) (NA NU ME BA : LL) (ct : Int) (o : BS) (i : Int) (ow : qf_21_ω) : ((qf_21_fin k s sg bg NA NU ME BA ct o i)).val = some ow → ∃ fuel, loopN qf_21_st fuel (k, s, sg, bg, NA, NU, ME, BA, ct, o, i) = some ow := by
  intro h
  refine auto_leaf (R := ME.foldl (fun o x => o ++ (memB x ++ encV (nth x 2).int (nth x 3).int (nth x 4).bool (nth x 5).bool (nth x 6).list (nth x 7).list (nth x 8).list (nth x 9).list (nth x 10).int)) o) (fun ho => ?_) h
  obtain ⟨rfl, h4, hok, hn, hr, hl⟩ := is_iff.1 ho
  have key := loopN_run (step := qf_21_st) (N := ME.length) (fun j => (k, s, sg, bg, NA, NU, ME, BA, ct, (ME.take j).foldl (fun o x => o ++ (memB x ++ encV (nth x 2).int (nth x 3).int (nth x 4).bool (nth x 5).bool (nth x 6).list (nth x 7).list (nth x 8).list (nth x 9).list (nth x 10).int)) o, (j : Int))) (w := ME.foldl (fun o x => o ++ (memB x ++ encV (nth x 2).int (nth x 3).int (nth x 4).bool (nth x 5).bool (nth x 6).list (nth x 7).list (nth x 8).list (nth x 9).list (nth x 10).int)) o) (fun j hj => ?_) ?_ ME.length 0 (by omega)
  · exact ⟨_, key⟩
  · have hx : row ME (j : Int) ∈ ME := by rw [row_nat]; exact mem_getD hj
    have hE := encV_big (hok _ hx)
    have hj12 := hn _ hx
    have hfl := fold_len (f := fun x => memB x ++ encV (nth x 2).int (nth x 3).int (nth x 4).bool (nth x 5).bool (nth x 6).list (nth x 7).list (nth x 8).list (nth x 9).list (nth x 10).int) (c := 25014) (l := ME.take j) (o := o) (fun x hx => by
      have hx := List.mem_of_mem_take hx
      have h1 := encV_big (hok x hx)
      have h2 := hn x hx
      unfold memB
      simp only [List.length_append, bytesL_len]
      omega)
    rw [List.length_take] at hfl
    have htk : ME.take (j + 1) = ME.take j ++ [row ME (j : Int)] := by rw [List.take_succ_eq_append_getElem hj, row_nat, getD_at hj]
    have hst : (ME.take (j + 1)).foldl (fun o x => o ++ (memB x ++ encV (nth x 2).int (nth x 3).int (nth x 4).bool (nth x 5).bool (nth x 6).list (nth x 7).list (nth x 8).list (nth x 9).list (nth x 10).int)) o = (ME.take j).foldl (fun o x => o ++ (memB x ++ encV (nth x 2).int (nth x 3).int (nth x 4).bool (nth x 5).bool (nth x 6).list (nth x 7).list (nth x 8).list (nth x 9).list (nth x 10).int)) o ++ (memB (row ME (j : Int)) ++ encV (nth (row ME (j : Int)) 2).int (nth (row ME (j : Int)) 3).int (nth (row ME (j : Int)) 4).bool (nth (row ME (j : Int)) 5).bool (nth (row ME (j : Int)) 6).list (nth (row ME (j : Int)) 7).list (nth (row ME (j : Int)) 8).list (nth (row ME (j : Int)) 9).list (nth (row ME (j : Int)) 10).int) := by rw [htk, List.foldl_append]; rfl
    show (qf_21_step k s sg bg NA NU ME BA ct ((ME.take j).foldl (fun o x => o ++ (memB x ++ encV (nth x 2).int (nth x 3).int (nth x 4).bool (nth x 5).bool (nth x 6).list (nth x 7).list (nth x 8).list (nth x 9).list (nth x 10).int)) o) (j : Int)).val = _
    rw [hst]
    generalize (ME.take j).foldl (fun o x => o ++ (memB x ++ encV (nth x 2).int (nth x 3).int (nth x 4).bool (nth x 5).bool (nth x 6).list (nth x 7).list (nth x 8).list (nth x 9).list (nth x 10).int)) o = Q at hfl
    unfold qf_21_step
    have hlen : Q.length ≤ 1000 + 4 * 25014 := by
      have : min j ME.length * 25014 ≤ 4 * 25014 := Nat.mul_le_mul_right _ (by omega)
      omega
    rw [qs_h, qs_h, show qf_rv (nth (row ME (j : Int)) 2).int (nth (row ME (j : Int)) 3).int (nth (row ME (j : Int)) 4).bool (nth (row ME (j : Int)) 5).bool (nth (row ME (j : Int)) 6).list (nth (row ME (j : Int)) 7).list (nth (row ME (j : Int)) 8).list (nth (row ME (j : Int)) 9).list (nth (row ME (j : Int)) 10).int = encV (nth (row ME (j : Int)) 2).int (nth (row ME (j : Int)) 3).int (nth (row ME (j : Int)) 4).bool (nth (row ME (j : Int)) 5).bool (nth (row ME (j : Int)) 6).list (nth (row ME (j : Int)) 7).list (nth (row ME (j : Int)) 8).list (nth (row ME (j : Int)) 9).list (nth (row ME (j : Int)) 10).int from rfl]
    refine (Tr.t (by simp; omega) (Tr.t (by constructor <;> omega) (Tr.t (by simp only [List.length_append, bytesL_len]; omega) (Tr.t (by simp only [List.length_append, bytesL_len]; omega) (Tr.t (hr _ hx) (Tr.t (by simp only [List.length_append, bytesL_len]; omega) (Tr.t (by simp only [List.length_append, bytesL_len]; omega) ?_)))))))
    rw [Tr.val_ok, wrap64 (i := (j : Int) + 1) (by omega) (by omega)]; rfl
  · rw [List.take_length]
    show (qf_21_step k s sg bg NA NU ME BA ct (ME.foldl (fun o x => o ++ (memB x ++ encV (nth x 2).int (nth x 3).int (nth x 4).bool (nth x 5).bool (nth x 6).list (nth x 7).list (nth x 8).list (nth x 9).list (nth x 10).int)) o) (ME.length : Int)).val = _
    unfold qf_21_step
    refine Tr.n (by simp) ?_
    rfl
theorem qf_is21 : LoopIs tab FT D29 live 52 qf_lo 1 21 := by
  refine loop_told (sl := qf_21_sl) (step := qf_21_st) (out := qf_21_out) (lor := qf_lo21) (fin := fun x => (qf_21_fin (x.1) (x.2.1) (x.2.2.1) (x.2.2.2.1) (x.2.2.2.2.1) (x.2.2.2.2.2.1) (x.2.2.2.2.2.2.1) (x.2.2.2.2.2.2.2.1) (x.2.2.2.2.2.2.2.2.1) (x.2.2.2.2.2.2.2.2.2.1) (x.2.2.2.2.2.2.2.2.2.2))) (fun _ => rfl) ?_ (fun x n => qf_21_r x.1 x.2.1 x.2.2.1 x.2.2.2.1 x.2.2.2.2.1 x.2.2.2.2.2.1 x.2.2.2.2.2.2.1 x.2.2.2.2.2.2.2.1 x.2.2.2.2.2.2.2.2.1 x.2.2.2.2.2.2.2.2.2.1 x.2.2.2.2.2.2.2.2.2.2 n) (fun x ow => qf_21_h x.1 x.2.1 x.2.2.1 x.2.2.2.1 x.2.2.2.2.1 x.2.2.2.2.2.1 x.2.2.2.2.2.2.1 x.2.2.2.2.2.2.2.1 x.2.2.2.2.2.2.2.2.1 x.2.2.2.2.2.2.2.2.2.1 x.2.2.2.2.2.2.2.2.2.2 ow)
  intro s t h
  unfold qf_lo21 at h
  split at h
  · cases h; exact ⟨(_, _, _, _, _, _, _, _, _, _, _), rfl, rfl⟩
  · cases h
theorem qf_15_r (k s : Int) (sg bg : Bool) (NA NU ME BA : LL) (ct : Int) (o : BS) (i : Int) (fuel : Nat) : rounds (rnd tab FT D29 live 52 qf_lo 0 15) leave (fuel + 1) (qf_15_sl (k, s, sg, bg, NA, NU, ME, BA, ct, o, i)) = ((qf_15_step k s sg bg NA NU ME BA ct o i)).run (goOn (fun s => rounds (rnd tab FT D29 live 52 qf_lo 0 15) leave fuel (qf_15_sl s)) fun w => some (qf_15_out w)) := by kernel_rfl
theorem qf_15_h (k s : Int) (sg bg : Bool) (NA NU ME BA : LL) (ct : Int) (o : BS) (i : Int) (ow : qf_15_ω) : ((qf_15_fin k s sg bg NA NU ME BA ct o i)).val = some ow → ∃ fuel, loopN qf_15_st fuel (k, s, sg, bg, NA, NU, ME, BA, ct, o, i) = some ow := by
  intro h
  refine auto_leaf (R := o ++ enumB NA NU NA.length) (fun ho => ?_) h
  obtain ⟨rfl, hU, h6, hn, hl⟩ := is_iff.1 ho
  have key := loopN_run (step := qf_15_st) (N := NA.length) (fun j => (k, s, sg, bg, NA, NU, ME, BA, ct, o ++ enumB NA NU j, (j : Int))) (w := o ++ enumB NA NU NA.length) (fun j hj => ?_) ?_ NA.length 0 (by omega)
  · exact ⟨_, Eq.trans (congrArg (loopN qf_15_st _) (by simp [enumB])) key⟩
  · have he := enumB_len (NU := NU) hn j (by omega)
    have hj12 := hn j hj
    show (qf_15_step k s sg bg NA NU ME BA ct (o ++ enumB NA NU j) (j : Int)).val = _
    unfold qf_15_step
    rw [qs_h, qbq_h, show ∀ n : Int, putB n ((8 : Int)).toNat false = bytesL n 8 from fun _ => rfl]
    refine (Tr.t (by simp; omega) (Tr.t (by constructor <;> omega) (Tr.t (by constructor <;> omega) (Tr.t (by simp only [List.length_append, bytesL_len]; omega) (Tr.t (by constructor <;> omega) (Tr.t (is_true ⟨8, rfl, by omega⟩) (Tr.t (by simp only [List.length_append, bytesL_len]; omega) (Tr.t (by simp only [List.length_append, bytesL_len]; omega) ?_))))))))
    rw [Tr.val_ok, wrap64 (i := (j : Int) + 1) (by omega) (by omega), List.append_assoc]; rfl
  · show (qf_15_step k s sg bg NA NU ME BA ct (o ++ enumB NA NU NA.length) (NA.length : Int)).val = _
    unfold qf_15_step
    refine Tr.n (by simp) ?_
    rfl
theorem qf_is15 : LoopIs tab FT D29 live 52 qf_lo 0 15 := by
  refine loop_told (sl := qf_15_sl) (step := qf_15_st) (out := qf_15_out) (lor := qf_lo15) (fin := fun x => (qf_15_fin (x.1) (x.2.1) (x.2.2.1) (x.2.2.2.1) (x.2.2.2.2.1) (x.2.2.2.2.2.1) (x.2.2.2.2.2.2.1) (x.2.2.2.2.2.2.2.1) (x.2.2.2.2.2.2.2.2.1) (x.2.2.2.2.2.2.2.2.2.1) (x.2.2.2.2.2.2.2.2.2.2))) (fun _ => rfl) ?_ (fun x n => qf_15_r x.1 x.2.1 x.2.2.1 x.2.2.2.1 x.2.2.2.2.1 x.2.2.2.2.2.1 x.2.2.2.2.2.2.1 x.2.2.2.2.2.2.2.1 x.2.2.2.2.2.2.2.2.1 x.2.2.2.2.2.2.2.2.2.1 x.2.2.2.2.2.2.2.2.2.2 n) (fun x ow => qf_15_h x.1 x.2.1 x.2.2.1 x.2.2.2.1 x.2.2.2.2.1 x.2.2.2.2.2.1 x.2.2.2.2.2.2.1 x.2.2.2.2.2.2.2.1 x.2.2.2.2.2.2.2.2.1 x.2.2.2.2.2.2.2.2.2.1 x.2.2.2.2.2.2.2.2.2.2 ow)
  intro s t h
  unfold qf_lo15 at h
  split at h
  · cases h; exact ⟨(_, _, _, _, _, _, _, _, _, _, _), rfl, rfl⟩
  · cases h
noncomputable def qf_t (k s : Int) (sg bg : Bool) (NA NU ME BA : LL) (ct : Int) : Tr (BS) := (.ite ((k == (1 : Int)) = true) (.ite (sg = true) (.ite (bg = true) (.ite ((((qs_v k).length + (qs_v s).length : Nat) : Int) ≤ 9223372036854775807) (.ite (((((qs_v k) ++ (qs_v s)).length + (qs_v (3 : Int)).length : Nat) : Int) ≤ 9223372036854775807) (.ok (((qs_v k) ++ (qs_v s)) ++ (qs_v (3 : Int))))
      .no)
     .no)
    (.ite ((((qs_v k).length + (qs_v s).length : Nat) : Int) ≤ 9223372036854775807) (.ite (((((qs_v k) ++ (qs_v s)).length + (qs_v (1 : Int)).length : Nat) : Int) ≤ 9223372036854775807) (.ok (((qs_v k) ++ (qs_v s)) ++ (qs_v (1 : Int))))
      .no)
     .no))
   (.ite (bg = true) (.ite ((((qs_v k).length + (qs_v s).length : Nat) : Int) ≤ 9223372036854775807) (.ite (((((qs_v k) ++ (qs_v s)).length + (qs_v (2 : Int)).length : Nat) : Int) ≤ 9223372036854775807) (.ok (((qs_v k) ++ (qs_v s)) ++ (qs_v (2 : Int))))
      .no)
     .no)
    (.ite ((((qs_v k).length + (qs_v s).length : Nat) : Int) ≤ 9223372036854775807) (.ite (((((qs_v k) ++ (qs_v s)).length + (qs_v (0 : Int)).length : Nat) : Int) ≤ 9223372036854775807) (.ok (((qs_v k) ++ (qs_v s)) ++ (qs_v (0 : Int))))
      .no)
     .no)))
  (.ite ((k == (2 : Int)) = true) (.ite ((((qs_v k).length + (qs_v s).length : Nat) : Int) ≤ 9223372036854775807) (.ok ((qs_v k) ++ (qs_v s)))
    .no)
   (.ite ((k == (3 : Int)) = true) (.ite ((0 : Int) ≤ (0 : Int) ∧ (0 : Int) < (BA.length : Int)) (.ite ((qf_rc ((nth (row BA (0 : Int)) 0).int) ((nth (row BA (0 : Int)) 1).int) ((nth (row BA (0 : Int)) 2).bool) ((nth (row BA (0 : Int)) 3).bool) ((nth (row BA (0 : Int)) 4).list) ((nth (row BA (0 : Int)) 5).list) ((nth (row BA (0 : Int)) 6).list) ((nth (row BA (0 : Int)) 7).list) ((nth (row BA (0 : Int)) 8).int)) = true) (.ite ((((qf_rv ((nth (row BA (0 : Int)) 0).int) ((nth (row BA (0 : Int)) 1).int) ((nth (row BA (0 : Int)) 2).bool) ((nth (row BA (0 : Int)) 3).bool) ((nth (row BA (0 : Int)) 4).list) ((nth (row BA (0 : Int)) 5).list) ((nth (row BA (0 : Int)) 6).list) ((nth (row BA (0 : Int)) 7).list) ((nth (row BA (0 : Int)) 8).int)).length + (qs_v (NA.length : Int)).length : Nat) : Int) ≤ 9223372036854775807) (.ite ((((qs_v k).length + ((qf_rv ((nth (row BA (0 : Int)) 0).int) ((nth (row BA (0 : Int)) 1).int) ((nth (row BA (0 : Int)) 2).bool) ((nth (row BA (0 : Int)) 3).bool) ((nth (row BA (0 : Int)) 4).list) ((nth (row BA (0 : Int)) 5).list) ((nth (row BA (0 : Int)) 6).list) ((nth (row BA (0 : Int)) 7).list) ((nth (row BA (0 : Int)) 8).int)) ++ (qs_v (NA.length : Int))).length : Nat) : Int) ≤ 9223372036854775807) (.ite ((qf_o15_1 k s sg bg NA NU ME BA ct ((qs_v k) ++ ((qf_rv ((nth (row BA (0 : Int)) 0).int) ((nth (row BA (0 : Int)) 1).int) ((nth (row BA (0 : Int)) 2).bool) ((nth (row BA (0 : Int)) 3).bool) ((nth (row BA (0 : Int)) 4).list) ((nth (row BA (0 : Int)) 5).list) ((nth (row BA (0 : Int)) 6).list) ((nth (row BA (0 : Int)) 7).list) ((nth (row BA (0 : Int)) 8).int)) ++ (qs_v (NA.length : Int)))) (0 : Int)) = true) (.ok (qf_u15_1 k s sg bg NA NU ME BA ct ((qs_v k) ++ ((qf_rv ((nth (row BA (0 : Int)) 0).int) ((nth (row BA (0 : Int)) 1).int) ((nth (row BA (0 : Int)) 2).bool) ((nth (row BA (0 : Int)) 3).bool) ((nth (row BA (0 : Int)) 4).list) ((nth (row BA (0 : Int)) 5).list) ((nth (row BA (0 : Int)) 6).list) ((nth (row BA (0 : Int)) 7).list) ((nth (row BA (0 : Int)) 8).int)) ++ (qs_v (NA.length : Int)))) (0 : Int)))
         .no)
        .no)
       .no)
      .no)
     .no)
    (.ite ((k == (4 : Int)) = true) (.ite ((((qs_v s).length + (qs_v (ME.length : Int)).length : Nat) : Int) ≤ 9223372036854775807) (.ite ((((qs_v k).length + ((qs_v s) ++ (qs_v (ME.length : Int))).length : Nat) : Int) ≤ 9223372036854775807) (.ite ((qf_o21_1 k s sg bg NA NU ME BA ct ((qs_v k) ++ ((qs_v s) ++ (qs_v (ME.length : Int)))) (0 : Int)) = true) (.ok (qf_u21_1 k s sg bg NA NU ME BA ct ((qs_v k) ++ ((qs_v s) ++ (qs_v (ME.length : Int)))) (0 : Int)))
        .no)
       .no)
      .no)
     (.ite ((k == (5 : Int)) = true) (.ite ((0 : Int) ≤ (0 : Int) ∧ (0 : Int) < (BA.length : Int)) (.ite ((qf_rc ((nth (row BA (0 : Int)) 0).int) ((nth (row BA (0 : Int)) 1).int) ((nth (row BA (0 : Int)) 2).bool) ((nth (row BA (0 : Int)) 3).bool) ((nth (row BA (0 : Int)) 4).list) ((nth (row BA (0 : Int)) 5).list) ((nth (row BA (0 : Int)) 6).list) ((nth (row BA (0 : Int)) 7).list) ((nth (row BA (0 : Int)) 8).int)) = true) (.ite ((((qs_v ct).length + (qf_rv ((nth (row BA (0 : Int)) 0).int) ((nth (row BA (0 : Int)) 1).int) ((nth (row BA (0 : Int)) 2).bool) ((nth (row BA (0 : Int)) 3).bool) ((nth (row BA (0 : Int)) 4).list) ((nth (row BA (0 : Int)) 5).list) ((nth (row BA (0 : Int)) 6).list) ((nth (row BA (0 : Int)) 7).list) ((nth (row BA (0 : Int)) 8).int)).length : Nat) : Int) ≤ 9223372036854775807) (.ite ((((qs_v k).length + ((qs_v ct) ++ (qf_rv ((nth (row BA (0 : Int)) 0).int) ((nth (row BA (0 : Int)) 1).int) ((nth (row BA (0 : Int)) 2).bool) ((nth (row BA (0 : Int)) 3).bool) ((nth (row BA (0 : Int)) 4).list) ((nth (row BA (0 : Int)) 5).list) ((nth (row BA (0 : Int)) 6).list) ((nth (row BA (0 : Int)) 7).list) ((nth (row BA (0 : Int)) 8).int))).length : Nat) : Int) ≤ 9223372036854775807) (.ok ((qs_v k) ++ ((qs_v ct) ++ (qf_rv ((nth (row BA (0 : Int)) 0).int) ((nth (row BA (0 : Int)) 1).int) ((nth (row BA (0 : Int)) 2).bool) ((nth (row BA (0 : Int)) 3).bool) ((nth (row BA (0 : Int)) 4).list) ((nth (row BA (0 : Int)) 5).list) ((nth (row BA (0 : Int)) 6).list) ((nth (row BA (0 : Int)) 7).list) ((nth (row BA (0 : Int)) 8).int)))))
          .no)
         .no)
        .no)
       .no)
      (.ok (qs_v k)))))))
def qf_mk (p : BS) : Res := [(false, [⟨.str, .sh, TC.s p⟩])]
noncomputable def qf_c (k s : Int) (sg bg : Bool) (NA NU ME BA : LL) (ct : Int) : Bool := (bif (k == (1 : Int)) then (bif sg then (bif bg then (is ((((qs_v k).length + (qs_v s).length : Nat) : Int) ≤ 9223372036854775807) && (is (((((qs_v k) ++ (qs_v s)).length + (qs_v (3 : Int)).length : Nat) : Int) ≤ 9223372036854775807) && true)) else (is ((((qs_v k).length + (qs_v s).length : Nat) : Int) ≤ 9223372036854775807) && (is (((((qs_v k) ++ (qs_v s)).length + (qs_v (1 : Int)).length : Nat) : Int) ≤ 9223372036854775807) && true))) else (bif bg then (is ((((qs_v k).length + (qs_v s).length : Nat) : Int) ≤ 9223372036854775807) && (is (((((qs_v k) ++ (qs_v s)).length + (qs_v (2 : Int)).length : Nat) : Int) ≤ 9223372036854775807) && true)) else (is ((((qs_v k).length + (qs_v s).length : Nat) : Int) ≤ 9223372036854775807) && (is (((((qs_v k) ++ (qs_v s)).length + (qs_v (0 : Int)).length : Nat) : Int) ≤ 9223372036854775807) && true)))) else (bif (k == (2 : Int)) then (is ((((qs_v k).length + (qs_v s).length : Nat) : Int) ≤ 9223372036854775807) && true) else (bif (k == (3 : Int)) then (is ((0 : Int) ≤ (0 : Int) ∧ (0 : Int) < (BA.length : Int)) && ((qf_rc ((nth (row BA (0 : Int)) 0).int) ((nth (row BA (0 : Int)) 1).int) ((nth (row BA (0 : Int)) 2).bool) ((nth (row BA (0 : Int)) 3).bool) ((nth (row BA (0 : Int)) 4).list) ((nth (row BA (0 : Int)) 5).list) ((nth (row BA (0 : Int)) 6).list) ((nth (row BA (0 : Int)) 7).list) ((nth (row BA (0 : Int)) 8).int)) && (is ((((qf_rv ((nth (row BA (0 : Int)) 0).int) ((nth (row BA (0 : Int)) 1).int) ((nth (row BA (0 : Int)) 2).bool) ((nth (row BA (0 : Int)) 3).bool) ((nth (row BA (0 : Int)) 4).list) ((nth (row BA (0 : Int)) 5).list) ((nth (row BA (0 : Int)) 6).list) ((nth (row BA (0 : Int)) 7).list) ((nth (row BA (0 : Int)) 8).int)).length + (qs_v (NA.length : Int)).length : Nat) : Int) ≤ 9223372036854775807) && (is ((((qs_v k).length + ((qf_rv ((nth (row BA (0 : Int)) 0).int) ((nth (row BA (0 : Int)) 1).int) ((nth (row BA (0 : Int)) 2).bool) ((nth (row BA (0 : Int)) 3).bool) ((nth (row BA (0 : Int)) 4).list) ((nth (row BA (0 : Int)) 5).list) ((nth (row BA (0 : Int)) 6).list) ((nth (row BA (0 : Int)) 7).list) ((nth (row BA (0 : Int)) 8).int)) ++ (qs_v (NA.length : Int))).length : Nat) : Int) ≤ 9223372036854775807) && ((qf_o15_1 k s sg bg NA NU ME BA ct ((qs_v k) ++ ((qf_rv ((nth (row BA (0 : Int)) 0).int) ((nth (row BA (0 : Int)) 1).int) ((nth (row BA (0 : Int)) 2).bool) ((nth (row BA (0 : Int)) 3).bool) ((nth (row BA (0 : Int)) 4).list) ((nth (row BA (0 : Int)) 5).list) ((nth (row BA (0 : Int)) 6).list) ((nth (row BA (0 : Int)) 7).list) ((nth (row BA (0 : Int)) 8).int)) ++ (qs_v (NA.length : Int)))) (0 : Int)) && true))))) else (bif (k == (4 : Int)) then (is ((((qs_v s).length + (qs_v (ME.length : Int)).length : Nat) : Int) ≤ 9223372036854775807) && (is ((((qs_v k).length + ((qs_v s) ++ (qs_v (ME.length : Int))).length : Nat) : Int) ≤ 9223372036854775807) && ((qf_o21_1 k s sg bg NA NU ME BA ct ((qs_v k) ++ ((qs_v s) ++ (qs_v (ME.length : Int)))) (0 : Int)) && true))) else (bif (k == (5 : Int)) then (is ((0 : Int) ≤ (0 : Int) ∧ (0 : Int) < (BA.length : Int)) && ((qf_rc ((nth (row BA (0 : Int)) 0).int) ((nth (row BA (0 : Int)) 1).int) ((nth (row BA (0 : Int)) 2).bool) ((nth (row BA (0 : Int)) 3).bool) ((nth (row BA (0 : Int)) 4).list) ((nth (row BA (0 : Int)) 5).list) ((nth (row BA (0 : Int)) 6).list) ((nth (row BA (0 : Int)) 7).list) ((nth (row BA (0 : Int)) 8).int)) && (is ((((qs_v ct).length + (qf_rv ((nth (row BA (0 : Int)) 0).int) ((nth (row BA (0 : Int)) 1).int) ((nth (row BA (0 : Int)) 2).bool) ((nth (row BA (0 : Int)) 3).bool) ((nth (row BA (0 : Int)) 4).list) ((nth (row BA (0 : Int)) 5).list) ((nth (row BA (0 : Int)) 6).list) ((nth (row BA (0 : Int)) 7).list) ((nth (row BA (0 : Int)) 8).int)).length : Nat) : Int) ≤ 9223372036854775807) && (is ((((qs_v k).length + ((qs_v ct) ++ (qf_rv ((nth (row BA (0 : Int)) 0).int) ((nth (row BA (0 : Int)) 1).int) ((nth (row BA (0 : Int)) 2).bool) ((nth (row BA (0 : Int)) 3).bool) ((nth (row BA (0 : Int)) 4).list) ((nth (row BA (0 : Int)) 5).list) ((nth (row BA (0 : Int)) 6).list) ((nth (row BA (0 : Int)) 7).list) ((nth (row BA (0 : Int)) 8).int))).length : Nat) : Int) ≤ 9223372036854775807) && true)))) else true)))))
noncomputable def qf_v (k s : Int) (sg bg : Bool) (NA NU ME BA : LL) (ct : Int) : BS := (bif (k == (1 : Int)) then (bif sg then (bif bg then (((qs_v k) ++ (qs_v s)) ++ (qs_v (3 : Int))) else (((qs_v k) ++ (qs_v s)) ++ (qs_v (1 : Int)))) else (bif bg then (((qs_v k) ++ (qs_v s)) ++ (qs_v (2 : Int))) else (((qs_v k) ++ (qs_v s)) ++ (qs_v (0 : Int))))) else (bif (k == (2 : Int)) then ((qs_v k) ++ (qs_v s)) else (bif (k == (3 : Int)) then (qf_u15_1 k s sg bg NA NU ME BA ct ((qs_v k) ++ ((qf_rv ((nth (row BA (0 : Int)) 0).int) ((nth (row BA (0 : Int)) 1).int) ((nth (row BA (0 : Int)) 2).bool) ((nth (row BA (0 : Int)) 3).bool) ((nth (row BA (0 : Int)) 4).list) ((nth (row BA (0 : Int)) 5).list) ((nth (row BA (0 : Int)) 6).list) ((nth (row BA (0 : Int)) 7).list) ((nth (row BA (0 : Int)) 8).int)) ++ (qs_v (NA.length : Int)))) (0 : Int)) else (bif (k == (4 : Int)) then (qf_u21_1 k s sg bg NA NU ME BA ct ((qs_v k) ++ ((qs_v s) ++ (qs_v (ME.length : Int)))) (0 : Int)) else (bif (k == (5 : Int)) then ((qs_v k) ++ ((qs_v ct) ++ (qf_rv ((nth (row BA (0 : Int)) 0).int) ((nth (row BA (0 : Int)) 1).int) ((nth (row BA (0 : Int)) 2).bool) ((nth (row BA (0 : Int)) 3).bool) ((nth (row BA (0 : Int)) 4).list) ((nth (row BA (0 : Int)) 5).list) ((nth (row BA (0 : Int)) 6).list) ((nth (row BA (0 : Int)) 7).list) ((nth (row BA (0 : Int)) 8).int)))) else (qs_v k))))))
theorem qf_l (k s : Int) (sg bg : Bool) (NA NU ME BA : LL) (ct : Int) : (qf_c k s sg bg NA NU ME BA ct) = true → (qf_t k s sg bg NA NU ME BA ct).val = some (qf_v k s sg bg NA NU ME BA ct) := by
  unfold qf_t qf_v qf_c
  exact fun h => (Tr.ss h (fun h => (Tr.ss h (fun h => (Tr.ss h (fun h => (Tr.gs h fun h => (Tr.gs h fun h => rfl))) (fun h => (Tr.gs h fun h => (Tr.gs h fun h => rfl))))) (fun h => (Tr.ss h (fun h => (Tr.gs h fun h => (Tr.gs h fun h => rfl))) (fun h => (Tr.gs h fun h => (Tr.gs h fun h => rfl))))))) (fun h => (Tr.ss h (fun h => (Tr.gs h fun h => rfl)) (fun h => (Tr.ss h (fun h => (Tr.gs h fun h => (Tr.gb h fun h => (Tr.gs h fun h => (Tr.gs h fun h => (Tr.gb h fun h => rfl)))))) (fun h => (Tr.ss h (fun h => (Tr.gs h fun h => (Tr.gs h fun h => (Tr.gb h fun h => rfl)))) (fun h => (Tr.ss h (fun h => (Tr.gs h fun h => (Tr.gb h fun h => (Tr.gs h fun h => (Tr.gs h fun h => rfl))))) (fun h => rfl))))))))))
noncomputable def qf_S : List Arg → Option (Bool × Res) := fun xs => match xs with
  | [(true, [(.int .i64, TC.i k), (.int .i64, TC.i s), (.bool, TC.b sg), (.bool, TC.b bg), (.slice 9, TC.l NA), (.slice 2, TC.l NU), (.slice 71, TC.l ME), (.slice 32, TC.l BA), (.int .i64, TC.i ct)])] => some ((qf_c k s sg bg NA NU ME BA ct), qf_mk (qf_v k s sg bg NA NU ME BA ct))
  | _ => .none
theorem qf_e (k s : Int) (sg bg : Bool) (NA NU ME BA : LL) (ct : Int) : runF tab FT D29 live 52 qf_lo [(true, [(.int .i64, TC.i k), (.int .i64, TC.i s), (.bool, TC.b sg), (.bool, TC.b bg), (.slice 9, TC.l NA), (.slice 2, TC.l NU), (.slice 71, TC.l ME), (.slice 32, TC.l BA), (.int .i64, TC.i ct)])] = (qf_t k s sg bg NA NU ME BA ct).run fun p => some (qf_mk p) := by kernel_rfl
theorem qf_s : ∀ xs r, qf_S xs = some (true, r) → runF tab FT D29 live 52 qf_lo xs = some r := by
  intro xs r h
  unfold qf_S at h
  split at h
  · simp only [Option.some.injEq, Prod.mk.injEq] at h
    obtain ⟨h1, rfl⟩ := h
    exact fun_told (qf_e _ _ _ _ _ _ _ _ _) (qf_l _ _ _ _ _ _ _ _ _) h1
  · cases h
theorem qf_nx (k s : Int) (sg bg : Bool) (NA NU ME BA : LL) (ct : Int) : is (max (rowsDep ME) (rowsDep BA) < qf_O.n + 1 ∧ okV k s sg bg NA NU ME BA ct = true) = true → (qf_c k s sg bg NA NU ME BA ct) = true ∧ (qf_v k s sg bg NA NU ME BA ct) = encV k s sg bg NA NU ME BA ct := by
  intro h
  obtain ⟨hM, hk⟩ := is_iff.1 h
  unfold qf_c qf_v
  simp only [qs_h]
  have hrb : 0 < BA.length → okV (nth (row BA (0 : Int)) 0).int (nth (row BA (0 : Int)) 1).int (nth (row BA (0 : Int)) 2).bool (nth (row BA (0 : Int)) 3).bool (nth (row BA (0 : Int)) 4).list (nth (row BA (0 : Int)) 5).list (nth (row BA (0 : Int)) 6).list (nth (row BA (0 : Int)) 7).list (nth (row BA (0 : Int)) 8).int = true → qf_rc (nth (row BA (0 : Int)) 0).int (nth (row BA (0 : Int)) 1).int (nth (row BA (0 : Int)) 2).bool (nth (row BA (0 : Int)) 3).bool (nth (row BA (0 : Int)) 4).list (nth (row BA (0 : Int)) 5).list (nth (row BA (0 : Int)) 6).list (nth (row BA (0 : Int)) 7).list (nth (row BA (0 : Int)) 8).int = true := fun hb ho => is_true ⟨by have := dep_base (ME := ME) hb 6 7; omega, ho⟩
  have hrm : (∀ x : List TC, x ∈ ME → okV (nth x 2).int (nth x 3).int (nth x 4).bool (nth x 5).bool (nth x 6).list (nth x 7).list (nth x 8).list (nth x 9).list (nth x 10).int = true) → ∀ x : List TC, x ∈ ME → qf_rc (nth x 2).int (nth x 3).int (nth x 4).bool (nth x 5).bool (nth x 6).list (nth x 7).list (nth x 8).list (nth x 9).list (nth x 10).int = true := fun ho x hx => is_true ⟨by have := dep_max (BA := BA) hx 8 9; omega, ho x hx⟩
  rcases okV_kind hk with rfl | rfl | rfl | rfl | rfl | rfl
  · rw [encV_1]
    simp only [Int.reduceBEq, cond_true, cond_false]
    cases sg <;> cases bg <;> (exact ⟨andT (is_true (by simp only [List.length_append, bytesL_len]; omega)) (andT (is_true (by simp only [List.length_append, bytesL_len]; omega)) rfl), by first | rfl | trivial⟩)
  · rw [encV_2]
    simp only [Int.reduceBEq, cond_true, cond_false]
    exact ⟨andT (is_true (by simp only [List.length_append, bytesL_len]; omega)) rfl, by first | rfl | trivial⟩
  · obtain ⟨e1, e2, e3, -⟩ := okV_enum hk
    obtain ⟨hb, ho, hl⟩ := okV_ebase hk
    have hr := hrb hb ho
    rw [encV_3 hb]
    simp only [Int.reduceBEq, cond_true, cond_false]
    rw [show qf_rv (nth (row BA (0 : Int)) 0).int (nth (row BA (0 : Int)) 1).int (nth (row BA (0 : Int)) 2).bool (nth (row BA (0 : Int)) 3).bool (nth (row BA (0 : Int)) 4).list (nth (row BA (0 : Int)) 5).list (nth (row BA (0 : Int)) 6).list (nth (row BA (0 : Int)) 7).list (nth (row BA (0 : Int)) 8).int = encV (nth (row BA (0 : Int)) 0).int (nth (row BA (0 : Int)) 1).int (nth (row BA (0 : Int)) 2).bool (nth (row BA (0 : Int)) 3).bool (nth (row BA (0 : Int)) 4).list (nth (row BA (0 : Int)) 5).list (nth (row BA (0 : Int)) 6).list (nth (row BA (0 : Int)) 7).list (nth (row BA (0 : Int)) 8).int from rfl]
    exact ⟨andT (is_true (by constructor <;> omega)) (andT hr (andT (is_true (by simp only [List.length_append, bytesL_len]; omega)) (andT (is_true (by simp only [List.length_append, bytesL_len]; omega)) (andT (is_true ⟨rfl, by omega, by omega, okV_names hk, (by simp only [List.length_append, bytesL_len]; omega)⟩) rfl)))), by first | rfl | trivial⟩
  · obtain ⟨e4, hok, hn⟩ := okV_comp hk
    have hr := hrm hok
    rw [encV_4]
    simp only [Int.reduceBEq, cond_true, cond_false]
    exact ⟨andT (is_true (by simp only [List.length_append, bytesL_len]; omega)) (andT (is_true (by simp only [List.length_append, bytesL_len]; omega)) (andT (is_true ⟨rfl, e4, hok, hn, hr, (by simp only [List.length_append, bytesL_len]; omega)⟩) rfl)), rfl⟩
  · obtain ⟨hb, ho⟩ := okV_base hk
    have hr := hrb hb ho
    have hl := encV_big ho
    rw [encV_5 hb]
    simp only [Int.reduceBEq, cond_true, cond_false]
    rw [show qf_rv (nth (row BA (0 : Int)) 0).int (nth (row BA (0 : Int)) 1).int (nth (row BA (0 : Int)) 2).bool (nth (row BA (0 : Int)) 3).bool (nth (row BA (0 : Int)) 4).list (nth (row BA (0 : Int)) 5).list (nth (row BA (0 : Int)) 6).list (nth (row BA (0 : Int)) 7).list (nth (row BA (0 : Int)) 8).int = encV (nth (row BA (0 : Int)) 0).int (nth (row BA (0 : Int)) 1).int (nth (row BA (0 : Int)) 2).bool (nth (row BA (0 : Int)) 3).bool (nth (row BA (0 : Int)) 4).list (nth (row BA (0 : Int)) 5).list (nth (row BA (0 : Int)) 6).list (nth (row BA (0 : Int)) 7).list (nth (row BA (0 : Int)) 8).int from rfl]
    exact ⟨andT (is_true (by constructor <;> omega)) (andT hr (andT (is_true (by simp only [List.length_append, bytesL_len]; omega)) (andT (is_true (by simp only [List.length_append, bytesL_len]; omega)) rfl))), by first | rfl | trivial⟩
  · rw [encV_6]
    simp only [Int.reduceBEq, cond_true, cond_false]
    exact ⟨by first | rfl | trivial, by first | rfl | trivial⟩
theorem qf_nxr (k s : Int) (sg bg : Bool) (NA NU ME BA : LL) (ct : Int) : qf_rc (i_spec_l02Encode := ⟨qf_O.n + 1⟩) k s sg bg NA NU ME BA ct = true → (qf_c k s sg bg NA NU ME BA ct) = true ∧ (qf_v k s sg bg NA NU ME BA ct) = (qf_rv k s sg bg NA NU ME BA ct) := fun h => qf_nx k s sg bg NA NU ME BA ct h
theorem qf_rs : ∀ xs r, qf_rS (i_spec_l02Encode := ⟨qf_O.n + 1⟩) xs = some (true, r) → runF tab FT D29 live 52 qf_lo xs = some r := by
  intro xs r h
  unfold qf_rS at h
  split at h
  · simp only [Option.some.injEq, Prod.mk.injEq] at h
    obtain ⟨h1, rfl⟩ := h
    have hx := qf_nxr _ _ _ _ _ _ _ _ _ h1
    have ht := fun_told (qf_e _ _ _ _ _ _ _ _ _) (qf_l _ _ _ _ _ _ _ _ _) hx.1
    rw [hx.2] at ht
    exact ht
  · cases h
theorem qf_step : qf_G (i_spec_l02Encode := ⟨qf_O.n + 1⟩) := by
  have h := DOk.also2 (S := qf_rS (i_spec_l02Encode := ⟨qf_O.n + 1⟩)) mixed_ok tab_ok names_ok d27 d29 (fnLoops_two (by kernel_rfl) qf_is15 qf_is21) qf_rs
  refine qf_G.mk (i_spec_l02Encode := ⟨qf_O.n + 1⟩) ?_
  exact h
noncomputable def qbv_t (k s : Int) (sg bg : Bool) (NA NU ME BA : LL) (ct : Int) : Tr (BS) := (.ite ((qbh_rc k s sg bg NA NU ME BA ct) = true) (.ite ((!(qbh_rv k s sg bg NA NU ME BA ct)) = true) (.ok ([]))
   (.ite ((qf_rc k s sg bg NA NU ME BA ct) = true) (.ok (qf_rv k s sg bg NA NU ME BA ct))
    .no))
  .no)
def qbv_mk (p : BS) : Res := [(false, [⟨.str, .sh, TC.s p⟩])]
noncomputable def qbv_c (k s : Int) (sg bg : Bool) (NA NU ME BA : LL) (ct : Int) : Bool := ((qbh_rc k s sg bg NA NU ME BA ct) && (bif (!(qbh_rv k s sg bg NA NU ME BA ct)) then true else ((qf_rc k s sg bg NA NU ME BA ct) && true)))
noncomputable def qbv_v (k s : Int) (sg bg : Bool) (NA NU ME BA : LL) (ct : Int) : BS := (bif (!(qbh_rv k s sg bg NA NU ME BA ct)) then [] else (qf_rv k s sg bg NA NU ME BA ct))
theorem qbv_l (k s : Int) (sg bg : Bool) (NA NU ME BA : LL) (ct : Int) : (qbv_c k s sg bg NA NU ME BA ct) = true → (qbv_t k s sg bg NA NU ME BA ct).val = some (qbv_v k s sg bg NA NU ME BA ct) := by
  unfold qbv_t qbv_v qbv_c
  exact fun h => (Tr.gb h fun h => (Tr.ss h (fun h => rfl) (fun h => (Tr.gb h fun h => rfl))))
noncomputable def qbv_S : List Arg → Option (Bool × Res) := fun xs => match xs with
  | [(true, [(.int .i64, TC.i k), (.int .i64, TC.i s), (.bool, TC.b sg), (.bool, TC.b bg), (.slice 9, TC.l NA), (.slice 2, TC.l NU), (.slice 71, TC.l ME), (.slice 32, TC.l BA), (.int .i64, TC.i ct)])] => some ((qbv_c k s sg bg NA NU ME BA ct), qbv_mk (qbv_v k s sg bg NA NU ME BA ct))
  | _ => .none
theorem qbv_e (k s : Int) (sg bg : Bool) (NA NU ME BA : LL) (ct : Int) : runF tab FT D29 live 18 noLoops [(true, [(.int .i64, TC.i k), (.int .i64, TC.i s), (.bool, TC.b sg), (.bool, TC.b bg), (.slice 9, TC.l NA), (.slice 2, TC.l NU), (.slice 71, TC.l ME), (.slice 32, TC.l BA), (.int .i64, TC.i ct)])] = (qbv_t k s sg bg NA NU ME BA ct).run fun p => some (qbv_mk p) := by kernel_rfl
theorem qbv_s : ∀ xs r, qbv_S xs = some (true, r) → runF tab FT D29 live 18 noLoops xs = some r := by
  intro xs r h
  unfold qbv_S at h
  split at h
  · simp only [Option.some.injEq, Prod.mk.injEq] at h
    obtain ⟨h1, rfl⟩ := h
    exact fun_told (qbv_e _ _ _ _ _ _ _ _ _) (qbv_l _ _ _ _ _ _ _ _ _) h1
  · cases h
noncomputable def D30 : Dt := also D29 18 qbv_S
theorem d30 : DOk Go.Proofs.Try.prog tab D30 := d29.also mixed_ok tab_ok names_ok noLoops_ok qbv_s
theorem qbv_cc {k : Int} {s : Int} {sg : Bool} {bg : Bool} {NA : LL} {NU : LL} {ME : LL} {BA : LL} {ct : Int} (okc : qbh_rc k s sg bg NA NU ME BA ct = true)(enc : okV k s sg bg NA NU ME BA ct = true → qf_rc k s sg bg NA NU ME BA ct = true) : (qbv_c k s sg bg NA NU ME BA ct) = true := by
  unfold qbv_c
  refine andT (by exact okc) ?_
  refine bifT (fun b1 => ?_) (fun b1 => ?_)
  · skip
    rfl
  · skip
    refine andT (by exact enc (by (show okV k s sg bg NA NU ME BA ct = true; have q : qbh_rv k s sg bg NA NU ME BA ct = true := (by simpa using b1); exact q))) ?_
    rfl
theorem qbv_vv (k s : Int) (sg bg : Bool) (NA NU ME BA : LL) (ct : Int) : qbv_v k s sg bg NA NU ME BA ct = bif okV k s sg bg NA NU ME BA ct then encV k s sg bg NA NU ME BA ct else [] := by
  show (bif !(okV k s sg bg NA NU ME BA ct) then [] else encV k s sg bg NA NU ME BA ct) = _
  cases okV k s sg bg NA NU ME BA ct <;> rfl
section
class qy_O where n : Nat
variable [i_impl_Type_size : qy_O]
noncomputable def qy_rc (k s : Int) (sg bg : Bool) (NA NU ME BA : LL) (ct : Int) : Bool := is (rowsDep BA < qy_O.n ∧ isizeC k BA = true)
noncomputable def qy_rv (k s : Int) (sg bg : Bool) (NA NU ME BA : LL) (ct : Int) : Int := isizeV k s BA ct
def qy_rmk (p : Int) : Res := [(false, [⟨.int .i64, .sh, TC.i p⟩])]
noncomputable def qy_rS : List Arg → Option (Bool × Res) := fun xs => match xs with
  | [(true, [(.int .i64, TC.i k), (.int .i64, TC.i s), (.bool, TC.b sg), (.bool, TC.b bg), (.slice 9, TC.l NA), (.slice 2, TC.l NU), (.slice 71, TC.l ME), (.slice 32, TC.l BA), (.int .i64, TC.i ct)])] => some ((qy_rc k s sg bg NA NU ME BA ct), qy_rmk (qy_rv k s sg bg NA NU ME BA ct))
  | _ => .none
noncomputable def D31 : Dt := also D30 75 qy_rS
class qy_G : Prop where ok : DOk Go.Proofs.Try.prog tab D31
variable [g_impl_Type_size : qy_G]
theorem d31 : DOk Go.Proofs.Try.prog tab D31 := qy_G.ok
noncomputable def qy_t (k s : Int) (sg bg : Bool) (NA NU ME BA : LL) (ct : Int) : Tr (Int) := (.ite ((k == (3 : Int)) = true) (.ite ((0 : Int) ≤ (0 : Int) ∧ (0 : Int) < (BA.length : Int)) (.ite ((qy_rc ((nth (row BA (0 : Int)) 0).int) ((nth (row BA (0 : Int)) 1).int) ((nth (row BA (0 : Int)) 2).bool) ((nth (row BA (0 : Int)) 3).bool) ((nth (row BA (0 : Int)) 4).list) ((nth (row BA (0 : Int)) 5).list) ((nth (row BA (0 : Int)) 6).list) ((nth (row BA (0 : Int)) 7).list) ((nth (row BA (0 : Int)) 8).int)) = true) (.ok (qy_rv ((nth (row BA (0 : Int)) 0).int) ((nth (row BA (0 : Int)) 1).int) ((nth (row BA (0 : Int)) 2).bool) ((nth (row BA (0 : Int)) 3).bool) ((nth (row BA (0 : Int)) 4).list) ((nth (row BA (0 : Int)) 5).list) ((nth (row BA (0 : Int)) 6).list) ((nth (row BA (0 : Int)) 7).list) ((nth (row BA (0 : Int)) 8).int)))
    .no)
   .no)
  (.ite ((k == (5 : Int)) = true) (.ite ((0 : Int) ≤ (0 : Int) ∧ (0 : Int) < (BA.length : Int)) (.ite ((qy_rc ((nth (row BA (0 : Int)) 0).int) ((nth (row BA (0 : Int)) 1).int) ((nth (row BA (0 : Int)) 2).bool) ((nth (row BA (0 : Int)) 3).bool) ((nth (row BA (0 : Int)) 4).list) ((nth (row BA (0 : Int)) 5).list) ((nth (row BA (0 : Int)) 6).list) ((nth (row BA (0 : Int)) 7).list) ((nth (row BA (0 : Int)) 8).int)) = true) (.ok (IntKind.wrap .i64 (ct * (qy_rv ((nth (row BA (0 : Int)) 0).int) ((nth (row BA (0 : Int)) 1).int) ((nth (row BA (0 : Int)) 2).bool) ((nth (row BA (0 : Int)) 3).bool) ((nth (row BA (0 : Int)) 4).list) ((nth (row BA (0 : Int)) 5).list) ((nth (row BA (0 : Int)) 6).list) ((nth (row BA (0 : Int)) 7).list) ((nth (row BA (0 : Int)) 8).int)))))
     .no)
    .no)
   (.ok s)))
def qy_mk (p : Int) : Res := [(false, [⟨.int .i64, .sh, TC.i p⟩])]
noncomputable def qy_c (k s : Int) (sg bg : Bool) (NA NU ME BA : LL) (ct : Int) : Bool := (bif (k == (3 : Int)) then (is ((0 : Int) ≤ (0 : Int) ∧ (0 : Int) < (BA.length : Int)) && ((qy_rc ((nth (row BA (0 : Int)) 0).int) ((nth (row BA (0 : Int)) 1).int) ((nth (row BA (0 : Int)) 2).bool) ((nth (row BA (0 : Int)) 3).bool) ((nth (row BA (0 : Int)) 4).list) ((nth (row BA (0 : Int)) 5).list) ((nth (row BA (0 : Int)) 6).list) ((nth (row BA (0 : Int)) 7).list) ((nth (row BA (0 : Int)) 8).int)) && true)) else (bif (k == (5 : Int)) then (is ((0 : Int) ≤ (0 : Int) ∧ (0 : Int) < (BA.length : Int)) && ((qy_rc ((nth (row BA (0 : Int)) 0).int) ((nth (row BA (0 : Int)) 1).int) ((nth (row BA (0 : Int)) 2).bool) ((nth (row BA (0 : Int)) 3).bool) ((nth (row BA (0 : Int)) 4).list) ((nth (row BA (0 : Int)) 5).list) ((nth (row BA (0 : Int)) 6).list) ((nth (row BA (0 : Int)) 7).list) ((nth (row BA (0 : Int)) 8).int)) && true)) else true))
noncomputable def qy_v (k s : Int) (sg bg : Bool) (NA NU ME BA : LL) (ct : Int) : Int := (bif (k == (3 : Int)) then (qy_rv ((nth (row BA (0 : Int)) 0).int) ((nth (row BA (0 : Int)) 1).int) ((nth (row BA (0 : Int)) 2).bool) ((nth (row BA (0 : Int)) 3).bool) ((nth (row BA (0 : Int)) 4).list) ((nth (row BA (0 : Int)) 5).list) ((nth (row BA (0 : Int)) 6).list) ((nth (row BA (0 : Int)) 7).list) ((nth (row BA (0 : Int)) 8).int)) else (bif (k == (5 : Int)) then (IntKind.wrap .i64 (ct * (qy_rv ((nth (row BA (0 : Int)) 0).int) ((nth (row BA (0 : Int)) 1).int) ((nth (row BA (0 : Int)) 2).bool) ((nth (row BA (0 : Int)) 3).bool) ((nth (row BA (0 : Int)) 4).list) ((nth (row BA (0 : Int)) 5).list) ((nth (row BA (0 : Int)) 6).list) ((nth (row BA (0 : Int)) 7).list) ((nth (row BA (0 : Int)) 8).int)))) else s))
theorem qy_l (k s : Int) (sg bg : Bool) (NA NU ME BA : LL) (ct : Int) : (qy_c k s sg bg NA NU ME BA ct) = true → (qy_t k s sg bg NA NU ME BA ct).val = some (qy_v k s sg bg NA NU ME BA ct) := by
  unfold qy_t qy_v qy_c
  exact fun h => (Tr.ss h (fun h => (Tr.gs h fun h => (Tr.gb h fun h => rfl))) (fun h => (Tr.ss h (fun h => (Tr.gs h fun h => (Tr.gb h fun h => rfl))) (fun h => rfl))))
noncomputable def qy_S : List Arg → Option (Bool × Res) := fun xs => match xs with
  | [(true, [(.int .i64, TC.i k), (.int .i64, TC.i s), (.bool, TC.b sg), (.bool, TC.b bg), (.slice 9, TC.l NA), (.slice 2, TC.l NU), (.slice 71, TC.l ME), (.slice 32, TC.l BA), (.int .i64, TC.i ct)])] => some ((qy_c k s sg bg NA NU ME BA ct), qy_mk (qy_v k s sg bg NA NU ME BA ct))
  | _ => .none
theorem qy_e (k s : Int) (sg bg : Bool) (NA NU ME BA : LL) (ct : Int) : runF tab FT D31 live 75 noLoops [(true, [(.int .i64, TC.i k), (.int .i64, TC.i s), (.bool, TC.b sg), (.bool, TC.b bg), (.slice 9, TC.l NA), (.slice 2, TC.l NU), (.slice 71, TC.l ME), (.slice 32, TC.l BA), (.int .i64, TC.i ct)])] = (qy_t k s sg bg NA NU ME BA ct).run fun p => some (qy_mk p) := by kernel_rfl
theorem qy_s : ∀ xs r, qy_S xs = some (true, r) → runF tab FT D31 live 75 noLoops xs = some r := by
  intro xs r h
  unfold qy_S at h
  split at h
  · simp only [Option.some.injEq, Prod.mk.injEq] at h
    obtain ⟨h1, rfl⟩ := h
    exact fun_told (qy_e _ _ _ _ _ _ _ _ _) (qy_l _ _ _ _ _ _ _ _ _) h1
  · cases h
theorem qy_nx (k s : Int) (sg bg : Bool) (NA NU ME BA : LL) (ct : Int) : is (rowsDep BA < qy_O.n + 1 ∧ isizeC k BA = true) = true → (qy_c k s sg bg NA NU ME BA ct) = true ∧ (qy_v k s sg bg NA NU ME BA ct) = isizeV k s BA ct := by
  intro h
  obtain ⟨hM, hC⟩ := is_iff.1 h
  unfold qy_c qy_v
  rw [isizeC] at hC
  rw [isizeV]
  cases h3 : (k == 3) with
  | true =>
    simp only [h3, Bool.true_or, cond_true] at hC ⊢
    split at hC
    · rename_i hb
      rw [dif_pos hb]
      have := pos_row hb 7
      exact ⟨andT (is_true (by constructor <;> omega)) (andT (is_true ⟨by omega, hC⟩) rfl), rfl⟩
    · cases hC
  | false =>
    cases h5 : (k == 5) with
    | true =>
      simp only [h3, h5, Bool.false_or, cond_true, cond_false] at hC ⊢
      split at hC
      · rename_i hb
        rw [dif_pos hb]
        have := pos_row hb 7
        exact ⟨andT (is_true (by constructor <;> omega)) (andT (is_true ⟨by omega, hC⟩) rfl), rfl⟩
      · cases hC
    | false => exact ⟨rfl, rfl⟩
theorem qy_nxr (k s : Int) (sg bg : Bool) (NA NU ME BA : LL) (ct : Int) : qy_rc (i_impl_Type_size := ⟨qy_O.n + 1⟩) k s sg bg NA NU ME BA ct = true → (qy_c k s sg bg NA NU ME BA ct) = true ∧ (qy_v k s sg bg NA NU ME BA ct) = (qy_rv k s sg bg NA NU ME BA ct) := fun h => qy_nx k s sg bg NA NU ME BA ct h
theorem qy_rs : ∀ xs r, qy_rS (i_impl_Type_size := ⟨qy_O.n + 1⟩) xs = some (true, r) → runF tab FT D31 live 75 noLoops xs = some r := by
  intro xs r h
  unfold qy_rS at h
  split at h
  · simp only [Option.some.injEq, Prod.mk.injEq] at h
    obtain ⟨h1, rfl⟩ := h
    have hx := qy_nxr _ _ _ _ _ _ _ _ _ h1
    have ht := fun_told (qy_e _ _ _ _ _ _ _ _ _) (qy_l _ _ _ _ _ _ _ _ _) hx.1
    rw [hx.2] at ht
    exact ht
  · cases h
theorem qy_step : qy_G (i_impl_Type_size := ⟨qy_O.n + 1⟩) := by
  have h := DOk.also2 (S := qy_rS (i_impl_Type_size := ⟨qy_O.n + 1⟩)) mixed_ok tab_ok names_ok d30 d31 noLoops_ok qy_rs
  refine qy_G.mk (i_impl_Type_size := ⟨qy_O.n + 1⟩) ?_
  exact h
noncomputable def qbm_t (a0 a1 : Int) (a2 a3 : Bool) (a4 a5 a6 a7 : LL) (a8 : Int) : Tr (Int × Int × Bool × Bool × LL × LL × LL × LL × Int) := (.ite ((a0 == (1 : Int)) = true) (.ok (a0, a1, a2, a3, [], [], [], [], (0 : Int)))
  (.ite ((a0 == (2 : Int)) = true) (.ok (a0, a1, false, false, [], [], [], [], (0 : Int)))
   (.ite ((a0 == (6 : Int)) = true) (.ok (a0, a1, false, false, [], [], [], [], (0 : Int)))
    (.ite ((a0 == (3 : Int)) = true) (.ok (a0, (0 : Int), false, false, a4, a5, [], a7, (0 : Int)))
     (.ite ((a0 == (4 : Int)) = true) (.ok (a0, a1, false, false, [], [], a6, [], (0 : Int)))
      (.ite ((a0 == (5 : Int)) = true) (.ok (a0, (0 : Int), false, false, [], [], [], a7, a8))
       (.ok (a0, (0 : Int), false, false, [], [], [], [], (0 : Int)))))))))
def qbm_mk (p : Int × Int × Bool × Bool × LL × LL × LL × LL × Int) : Res := [(true, [⟨.int .i64, .sh, TC.i (p.1)⟩, ⟨.int .i64, .sh, TC.i (p.2.1)⟩, ⟨.bool, .sh, TC.b (p.2.2.1)⟩, ⟨.bool, .sh, TC.b (p.2.2.2.1)⟩, ⟨.slice 9, .sh, TC.l (p.2.2.2.2.1)⟩, ⟨.slice 2, .sh, TC.l (p.2.2.2.2.2.1)⟩, ⟨.slice 71, .sh, TC.l (p.2.2.2.2.2.2.1)⟩, ⟨.slice 32, .sh, TC.l (p.2.2.2.2.2.2.2.1)⟩, ⟨.int .i64, .sh, TC.i (p.2.2.2.2.2.2.2.2)⟩])]
noncomputable def qbm_c (a0 a1 : Int) (a2 a3 : Bool) (a4 a5 a6 a7 : LL) (a8 : Int) : Bool := true
noncomputable def qbm_v (a0 a1 : Int) (a2 a3 : Bool) (a4 a5 a6 a7 : LL) (a8 : Int) : Int × Int × Bool × Bool × LL × LL × LL × LL × Int := (bif (a0 == (1 : Int)) then (a0, a1, a2, a3, [], [], [], [], (0 : Int)) else (bif (a0 == (2 : Int)) then (a0, a1, false, false, [], [], [], [], (0 : Int)) else (bif (a0 == (6 : Int)) then (a0, a1, false, false, [], [], [], [], (0 : Int)) else (bif (a0 == (3 : Int)) then (a0, (0 : Int), false, false, a4, a5, [], a7, (0 : Int)) else (bif (a0 == (4 : Int)) then (a0, a1, false, false, [], [], a6, [], (0 : Int)) else (bif (a0 == (5 : Int)) then (a0, (0 : Int), false, false, [], [], [], a7, a8) else (a0, (0 : Int), false, false, [], [], [], [], (0 : Int))))))))
theorem qbm_l (a0 a1 : Int) (a2 a3 : Bool) (a4 a5 a6 a7 : LL) (a8 : Int) : (qbm_c a0 a1 a2 a3 a4 a5 a6 a7 a8) = true → (qbm_t a0 a1 a2 a3 a4 a5 a6 a7 a8).val = some (qbm_v a0 a1 a2 a3 a4 a5 a6 a7 a8) := by
  intro h
  skip
  unfold qbm_t qbm_v
  exact (Tr.s rfl (Tr.s rfl (Tr.s rfl (Tr.s rfl (Tr.s rfl (Tr.s rfl rfl))))))
noncomputable def qbm_S : List Arg → Option (Bool × Res) := fun xs => match xs with
  | [(true, [(.int .i64, TC.i a0), (.int .i64, TC.i a1), (.bool, TC.b a2), (.bool, TC.b a3), (.slice 9, TC.l a4), (.slice 2, TC.l a5), (.slice 71, TC.l a6), (.slice 32, TC.l a7), (.int .i64, TC.i a8)])] => some (true, qbm_mk (qbm_v a0 a1 a2 a3 a4 a5 a6 a7 a8))
  | _ => .none
theorem qbm_e (a0 a1 : Int) (a2 a3 : Bool) (a4 a5 a6 a7 : LL) (a8 : Int) : runF tab FT D31 live 103 noLoops [(true, [(.int .i64, TC.i a0), (.int .i64, TC.i a1), (.bool, TC.b a2), (.bool, TC.b a3), (.slice 9, TC.l a4), (.slice 2, TC.l a5), (.slice 71, TC.l a6), (.slice 32, TC.l a7), (.int .i64, TC.i a8)])] = (qbm_t a0 a1 a2 a3 a4 a5 a6 a7 a8).run fun p => some (qbm_mk p) := by kernel_rfl
theorem qbm_s : ∀ xs r, qbm_S xs = some (true, r) → runF tab FT D31 live 103 noLoops xs = some r := by
  intro xs r h
  unfold qbm_S at h
  split at h
  · simp only [Option.some.injEq, Prod.mk.injEq] at h
    obtain ⟨h1, rfl⟩ := h
    exact fun_told (qbm_e _ _ _ _ _ _ _ _ _) (qbm_l _ _ _ _ _ _ _ _ _) rfl
  · cases h
noncomputable def D32 : Dt := also D31 103 qbm_S
theorem d32 : DOk Go.Proofs.Try.prog tab D32 := d31.also mixed_ok tab_ok names_ok noLoops_ok qbm_s
def E_9 (x y : List TC) : Bool := ((nth x 0).str == (nth y 0).str)
abbrev qn_4_σ := LL × LL × Int × Int
abbrev qn_4_ω := (Unit) ⊕ (Unit)
noncomputable def qn_4_step (A C : LL) (m i : Int) : Tr (qn_4_σ ⊕ qn_4_ω) := (.ite ((decide (i < m)) = true) (.ite ((0 : Int) ≤ i ∧ i < (A.length : Int)) (.ite ((0 : Int) ≤ i ∧ i < (C.length : Int)) (.ite ((!((nth (row A i) 0).str == (nth (row C i) 0).str)) = true) (.ok (.inr (.inl ())))
     (.ok (.inl (A, C, m, (IntKind.wrap .i64 (i + (1 : Int)))))))
    .no)
   .no)
  (.ok (.inr (.inr ()))))
noncomputable def qn_4_st : qn_4_σ → Tr (qn_4_σ ⊕ qn_4_ω) := fun x => (qn_4_step (x.1) (x.2.1) (x.2.2.1) (x.2.2.2))
noncomputable def qn_k4_1 (A C : LL) (m i : Int) : Bool := allEq E_9 A C
noncomputable def qn_o4_2 (A C : LL) (m i : Int) : Bool := is (A.length = C.length ∧ i = 0 ∧ Typed tab (.slice 9) (.l A) ∧ m = (A.length : Int))
noncomputable def qn_o4_3 (A C : LL) (m i : Int) : Bool := is (A.length = C.length ∧ i = 0 ∧ Typed tab (.slice 9) (.l A) ∧ m = (A.length : Int))
noncomputable def qn_4_fin (A C : LL) (m i : Int) : Told qn_4_ω := (.br (qn_k4_1 A C m i) (.leaf (qn_o4_2 A C m i) (.inr ())) (.leaf (qn_o4_3 A C m i) (.inl ())))
def qn_4_sl (x : qn_4_σ) : List Slot := [⟨.val false [⟨.slice 9, .sh, TC.l (x.1)⟩], ⟨0, 0⟩⟩, ⟨.val false [⟨.slice 9, .sh, TC.l (x.2.1)⟩], ⟨0, 0⟩⟩, ⟨.val false [⟨.int .i64, .sh, TC.i (x.2.2.1)⟩], ⟨0, 0⟩⟩, ⟨.val false [⟨.int .i64, .sh, TC.i (x.2.2.2)⟩], ⟨0, 0⟩⟩]
def qn_4_out : qn_4_ω → Ex × List Slot := (Sum.elim (fun x => (.ret, [⟨.val false [⟨.bool, .sh, TC.b false⟩], ⟨0, 0⟩⟩])) (fun x => (.exit 0, [Slot.none])))
noncomputable def qn_lo4 : List Slot → Option (Told (Ex × List Slot)) := fun s => match s with
  | [⟨.val false [⟨.slice 9, .sh, TC.l A⟩], ⟨0, 0⟩⟩, ⟨.val false [⟨.slice 9, .sh, TC.l C⟩], ⟨0, 0⟩⟩, ⟨.val false [⟨.int .i64, .sh, TC.i m⟩], ⟨0, 0⟩⟩, ⟨.val false [⟨.int .i64, .sh, TC.i i⟩], ⟨0, 0⟩⟩] => some (((qn_4_fin A C m i)).map qn_4_out)
  | _ => .none
noncomputable def qn_lo : LoopTeller := fun r s => bif Nat.beq r 4 then qn_lo4 s else .none
theorem qn_4_r (A C : LL) (m i : Int) (fuel : Nat) : rounds (rnd tab FT D32 live 131 qn_lo 0 4) leave (fuel + 1) (qn_4_sl (A, C, m, i)) = ((qn_4_step A C m i)).run (goOn (fun s => rounds (rnd tab FT D32 live 131 qn_lo 0 4) leave fuel (qn_4_sl s)) fun w => some (qn_4_out w)) := by kernel_rfl
theorem qn_4_h (A C : LL) (m i : Int) (ow : qn_4_ω) : ((qn_4_fin A C m i)).val = some ow → ∃ fuel, loopN qn_4_st fuel (A, C, m, i) = some ow := by
  intro h
  have key : A.length = C.length → Typed tab (.slice 9) (.l A) → loopN qn_4_st (A.length + 1) (A, C, (A.length : Int), 0) = some (if allEq E_9 A C = true then .inr () else .inl ()) := by
    intro hl ht
    have hlen : A.length ≤ 140737488351232 := by have := typed_room ht; simp only [show (tab 9).bytes = 16 from rfl] at this; omega
    refine loopN_allEq A C E_9 (fun i => (A, C, (A.length : Int), (i : Int))) _ _ hl (fun i hi => ?_) ?_ A.length 0 (by omega)
    · show (qn_4_step A C (A.length : Int) (i : Int)).val = _
      unfold qn_4_step
      refine Tr.t (by simp; omega) ?_
      refine Tr.t (by constructor <;> omega) ?_
      refine Tr.t (by constructor <;> omega) ?_
      rw [wrap64 (i := (i : Int) + 1) (by omega) (by omega)]
      rw [Tr.val_br]
      show (if (!(E_9 (A.getD i []) (C.getD i []))) = true then _ else _) = _
      cases E_9 (A.getD i []) (C.getD i []) <;> rfl
    · show (qn_4_step A C (A.length : Int) (A.length : Int)).val = _
      refine Tr.n (by simp) ?_
      rfl
  simp only [qn_4_fin, Told.val] at h
  cases hk : allEq E_9 A C with
  | true =>
    rw [if_pos (show qn_k4_1 A C m i = true from hk)] at h
    split at h
    · rename_i ho
      obtain ⟨hl, rfl, ht, rfl⟩ := is_iff.1 ho
      cases h
      refine ⟨_, (key hl ht).trans ?_⟩
      rw [hk]; rfl
    · cases h
  | false =>
    rw [if_neg (show ¬qn_k4_1 A C m i = true from by rw [show qn_k4_1 A C m i = allEq E_9 A C from rfl, hk]; simp)] at h
    split at h
    · rename_i ho
      obtain ⟨hl, rfl, ht, rfl⟩ := is_iff.1 ho
      cases h
      refine ⟨_, (key hl ht).trans ?_⟩
      rw [hk]; rfl
    · cases h
theorem qn_is4 : LoopIs tab FT D32 live 131 qn_lo 0 4 := by
  refine loop_told (sl := qn_4_sl) (step := qn_4_st) (out := qn_4_out) (lor := qn_lo4) (fin := fun x => (qn_4_fin (x.1) (x.2.1) (x.2.2.1) (x.2.2.2))) (fun _ => rfl) ?_ (fun x n => qn_4_r x.1 x.2.1 x.2.2.1 x.2.2.2 n) (fun x ow => qn_4_h x.1 x.2.1 x.2.2.1 x.2.2.2 ow)
  intro s t h
  unfold qn_lo4 at h
  split at h
  · cases h; exact ⟨(_, _, _, _), rfl, rfl⟩
  · cases h
noncomputable def qn_t (A C : LL) : Tr (Bool) := (.ite ((!((A.length : Int) == (C.length : Int))) = true) (.ok false)
  (.ite ((qn_k4_1 A C (A.length : Int) (0 : Int)) = true) (.ite ((qn_o4_2 A C (A.length : Int) (0 : Int)) = true) (.ok true)
    .no)
   (.ite ((qn_o4_3 A C (A.length : Int) (0 : Int)) = true) (.ok false)
    .no)))
def qn_mk (p : Bool) : Res := [(false, [⟨.bool, .sh, TC.b p⟩])]
noncomputable def qn_c (A C : LL) : Bool := is (Typed tab (.slice 9) (.l A))
noncomputable def qn_v (A C : LL) : Bool := allEq E_9 A C
theorem qn_l (A C : LL) : (qn_c A C) = true → (qn_t A C).val = some (qn_v A C) := by
  intro h
  have ht := is_iff.1 h
  unfold qn_t
  by_cases hl : A.length = C.length
  · refine Tr.n (by simp [hl]) ?_
    cases hk : allEq E_9 A C with
    | true =>
      refine Tr.t (show allEq E_9 A C = true from hk) ?_
      refine Tr.t (is_true ⟨hl, rfl, ht, rfl⟩) ?_
      show _ = some (allEq E_9 A C); rw [hk]; rfl
    | false =>
      refine Tr.n (show ¬allEq E_9 A C = true from by rw [hk]; simp) ?_
      refine Tr.t (is_true ⟨hl, rfl, ht, rfl⟩) ?_
      show _ = some (allEq E_9 A C); rw [hk]; rfl
  · refine Tr.t (by simp; omega) ?_
    show _ = some (allEq E_9 A C)
    rw [allEq_ne hl]
    rfl
noncomputable def qn_S : List Arg → Option (Bool × Res) := fun xs => match xs with
  | [(false, [(.slice 9, TC.l A)]), (false, [(.slice 9, TC.l C)])] => some ((qn_c A C), qn_mk (qn_v A C))
  | _ => .none
theorem qn_e (A C : LL) : runF tab FT D32 live 131 qn_lo [(false, [(.slice 9, TC.l A)]), (false, [(.slice 9, TC.l C)])] = (qn_t A C).run fun p => some (qn_mk p) := by kernel_rfl
theorem qn_s : ∀ xs r, qn_S xs = some (true, r) → runF tab FT D32 live 131 qn_lo xs = some r := by
  intro xs r h
  unfold qn_S at h
  split at h
  · simp only [Option.some.injEq, Prod.mk.injEq] at h
    obtain ⟨h1, rfl⟩ := h
    exact fun_told (qn_e _ _) (qn_l _ _) h1
  · cases h
noncomputable def D33 : Dt := also D32 131 qn_S
theorem d33 : DOk Go.Proofs.Try.prog tab D33 := d32.also mixed_ok tab_ok names_ok (fnLoops_one (by kernel_rfl) qn_is4) qn_s
def E_2 (x y : List TC) : Bool := ((nth x 0).int == (nth y 0).int)
abbrev qr_4_σ := LL × LL × Int × Int
abbrev qr_4_ω := (Unit) ⊕ (Unit)
noncomputable def qr_4_step (A C : LL) (m i : Int) : Tr (qr_4_σ ⊕ qr_4_ω) := (.ite ((decide (i < m)) = true) (.ite ((0 : Int) ≤ i ∧ i < (A.length : Int)) (.ite ((0 : Int) ≤ i ∧ i < (C.length : Int)) (.ite ((!((nth (row A i) 0).int == (nth (row C i) 0).int)) = true) (.ok (.inr (.inl ())))
     (.ok (.inl (A, C, m, (IntKind.wrap .i64 (i + (1 : Int)))))))
    .no)
   .no)
  (.ok (.inr (.inr ()))))
noncomputable def qr_4_st : qr_4_σ → Tr (qr_4_σ ⊕ qr_4_ω) := fun x => (qr_4_step (x.1) (x.2.1) (x.2.2.1) (x.2.2.2))
noncomputable def qr_k4_1 (A C : LL) (m i : Int) : Bool := allEq E_2 A C
noncomputable def qr_o4_2 (A C : LL) (m i : Int) : Bool := is (A.length = C.length ∧ i = 0 ∧ Typed tab (.slice 2) (.l A) ∧ m = (A.length : Int))
noncomputable def qr_o4_3 (A C : LL) (m i : Int) : Bool := is (A.length = C.length ∧ i = 0 ∧ Typed tab (.slice 2) (.l A) ∧ m = (A.length : Int))
noncomputable def qr_4_fin (A C : LL) (m i : Int) : Told qr_4_ω := (.br (qr_k4_1 A C m i) (.leaf (qr_o4_2 A C m i) (.inr ())) (.leaf (qr_o4_3 A C m i) (.inl ())))
def qr_4_sl (x : qr_4_σ) : List Slot := [⟨.val false [⟨.slice 2, .sh, TC.l (x.1)⟩], ⟨0, 0⟩⟩, ⟨.val false [⟨.slice 2, .sh, TC.l (x.2.1)⟩], ⟨0, 0⟩⟩, ⟨.val false [⟨.int .i64, .sh, TC.i (x.2.2.1)⟩], ⟨0, 0⟩⟩, ⟨.val false [⟨.int .i64, .sh, TC.i (x.2.2.2)⟩], ⟨0, 0⟩⟩]
def qr_4_out : qr_4_ω → Ex × List Slot := (Sum.elim (fun x => (.ret, [⟨.val false [⟨.bool, .sh, TC.b false⟩], ⟨0, 0⟩⟩])) (fun x => (.exit 0, [Slot.none])))
noncomputable def qr_lo4 : List Slot → Option (Told (Ex × List Slot)) := fun s => match s with
  | [⟨.val false [⟨.slice 2, .sh, TC.l A⟩], ⟨0, 0⟩⟩, ⟨.val false [⟨.slice 2, .sh, TC.l C⟩], ⟨0, 0⟩⟩, ⟨.val false [⟨.int .i64, .sh, TC.i m⟩], ⟨0, 0⟩⟩, ⟨.val false [⟨.int .i64, .sh, TC.i i⟩], ⟨0, 0⟩⟩] => some (((qr_4_fin A C m i)).map qr_4_out)
  | _ => .none
noncomputable def qr_lo : LoopTeller := fun r s => bif Nat.beq r 4 then qr_lo4 s else .none
theorem qr_4_r (A C : LL) (m i : Int) (fuel : Nat) : rounds (rnd tab FT D33 live 132 qr_lo 0 4) leave (fuel + 1) (qr_4_sl (A, C, m, i)) = ((qr_4_step A C m i)).run (goOn (fun s => rounds (rnd tab FT D33 live 132 qr_lo 0 4) leave fuel (qr_4_sl s)) fun w => some (qr_4_out w)) := by kernel_rfl
theorem qr_4_h (A C : LL) (m i : Int) (ow : qr_4_ω) : ((qr_4_fin A C m i)).val = some ow → ∃ fuel, loopN qr_4_st fuel (A, C, m, i) = some ow := by
  intro h
  have key : A.length = C.length → Typed tab (.slice 2) (.l A) → loopN qr_4_st (A.length + 1) (A, C, (A.length : Int), 0) = some (if allEq E_2 A C = true then .inr () else .inl ()) := by
    intro hl ht
    have hlen : A.length ≤ 140737488351232 := by have := typed_room ht; simp only [show (tab 2).bytes = 8 from rfl] at this; omega
    refine loopN_allEq A C E_2 (fun i => (A, C, (A.length : Int), (i : Int))) _ _ hl (fun i hi => ?_) ?_ A.length 0 (by omega)
    · show (qr_4_step A C (A.length : Int) (i : Int)).val = _
      unfold qr_4_step
      refine Tr.t (by simp; omega) ?_
      refine Tr.t (by constructor <;> omega) ?_
      refine Tr.t (by constructor <;> omega) ?_
      rw [wrap64 (i := (i : Int) + 1) (by omega) (by omega)]
      rw [Tr.val_br]
      show (if (!(E_2 (A.getD i []) (C.getD i []))) = true then _ else _) = _
      cases E_2 (A.getD i []) (C.getD i []) <;> rfl
    · show (qr_4_step A C (A.length : Int) (A.length : Int)).val = _
      refine Tr.n (by simp) ?_
      rfl
  simp only [qr_4_fin, Told.val] at h
  cases hk : allEq E_2 A C with
  | true =>
    rw [if_pos (show qr_k4_1 A C m i = true from hk)] at h
    split at h
    · rename_i ho
      obtain ⟨hl, rfl, ht, rfl⟩ := is_iff.1 ho
      cases h
      refine ⟨_, (key hl ht).trans ?_⟩
      rw [hk]; rfl
    · cases h
  | false =>
    rw [if_neg (show ¬qr_k4_1 A C m i = true from by rw [show qr_k4_1 A C m i = allEq E_2 A C from rfl, hk]; simp)] at h
    split at h
    · rename_i ho
      obtain ⟨hl, rfl, ht, rfl⟩ := is_iff.1 ho
      cases h
      refine ⟨_, (key hl ht).trans ?_⟩
      rw [hk]; rfl
    · cases h
theorem qr_is4 : LoopIs tab FT D33 live 132 qr_lo 0 4 := by
  refine loop_told (sl := qr_4_sl) (step := qr_4_st) (out := qr_4_out) (lor := qr_lo4) (fin := fun x => (qr_4_fin (x.1) (x.2.1) (x.2.2.1) (x.2.2.2))) (fun _ => rfl) ?_ (fun x n => qr_4_r x.1 x.2.1 x.2.2.1 x.2.2.2 n) (fun x ow => qr_4_h x.1 x.2.1 x.2.2.1 x.2.2.2 ow)
  intro s t h
  unfold qr_lo4 at h
  split at h
  · cases h; exact ⟨(_, _, _, _), rfl, rfl⟩
  · cases h
noncomputable def qr_t (A C : LL) : Tr (Bool) := (.ite ((!((A.length : Int) == (C.length : Int))) = true) (.ok false)
  (.ite ((qr_k4_1 A C (A.length : Int) (0 : Int)) = true) (.ite ((qr_o4_2 A C (A.length : Int) (0 : Int)) = true) (.ok true)
    .no)
   (.ite ((qr_o4_3 A C (A.length : Int) (0 : Int)) = true) (.ok false)
    .no)))
def qr_mk (p : Bool) : Res := [(false, [⟨.bool, .sh, TC.b p⟩])]
noncomputable def qr_c (A C : LL) : Bool := is (Typed tab (.slice 2) (.l A))
noncomputable def qr_v (A C : LL) : Bool := allEq E_2 A C
theorem qr_l (A C : LL) : (qr_c A C) = true → (qr_t A C).val = some (qr_v A C) := by
  intro h
  have ht := is_iff.1 h
  unfold qr_t
  by_cases hl : A.length = C.length
  · refine Tr.n (by simp [hl]) ?_
    cases hk : allEq E_2 A C with
    | true =>
      refine Tr.t (show allEq E_2 A C = true from hk) ?_
      refine Tr.t (is_true ⟨hl, rfl, ht, rfl⟩) ?_
      show _ = some (allEq E_2 A C); rw [hk]; rfl
    | false =>
      refine Tr.n (show ¬allEq E_2 A C = true from by rw [hk]; simp) ?_
      refine Tr.t (is_true ⟨hl, rfl, ht, rfl⟩) ?_
      show _ = some (allEq E_2 A C); rw [hk]; rfl
  · refine Tr.t (by simp; omega) ?_
    show _ = some (allEq E_2 A C)
    rw [allEq_ne hl]
    rfl
noncomputable def qr_S : List Arg → Option (Bool × Res) := fun xs => match xs with
  | [(false, [(.slice 2, TC.l A)]), (false, [(.slice 2, TC.l C)])] => some ((qr_c A C), qr_mk (qr_v A C))
  | _ => .none
theorem qr_e (A C : LL) : runF tab FT D33 live 132 qr_lo [(false, [(.slice 2, TC.l A)]), (false, [(.slice 2, TC.l C)])] = (qr_t A C).run fun p => some (qr_mk p) := by kernel_rfl
theorem qr_s : ∀ xs r, qr_S xs = some (true, r) → runF tab FT D33 live 132 qr_lo xs = some r := by
  intro xs r h
  unfold qr_S at h
  split at h
  · simp only [Option.some.injEq, Prod.mk.injEq] at h
    obtain ⟨h1, rfl⟩ := h
    exact fun_told (qr_e _ _) (qr_l _ _) h1
  · cases h
noncomputable def D34 : Dt := also D33 132 qr_S
theorem d34 : DOk Go.Proofs.Try.prog tab D34 := d33.also mixed_ok tab_ok names_ok (fnLoops_one (by kernel_rfl) qr_is4) qr_s
theorem form_9 {A : LL} (h : Typed tab (.slice 9) (.l A)) {x : List TC} (hx : x ∈ A) : x = [TC.s (nth x 0).str] := by
  obtain ⟨hl, hk⟩ := typed_elem h hx
  have e0 : TC.s (nth x 0).str = nth x 0 := typed_str_eq (hk 0 (by decide))
  rw [e0]
  exact row_eta hl
theorem form_2 {A : LL} (h : Typed tab (.slice 2) (.l A)) {x : List TC} (hx : x ∈ A) : x = [TC.i (nth x 0).int] := by
  obtain ⟨hl, hk⟩ := typed_elem h hx
  have e0 : TC.i (nth x 0).int = nth x 0 := typed_int_eq (hk 0 (by decide))
  rw [e0]
  exact row_eta hl
theorem form_71 {A : LL} (h : Typed tab (.slice 71) (.l A)) {x : List TC} (hx : x ∈ A) : x = [TC.s (nth x 0).str, TC.i (nth x 1).int, TC.i (nth x 2).int, TC.i (nth x 3).int, TC.b (nth x 4).bool, TC.b (nth x 5).bool, TC.l (nth x 6).list, TC.l (nth x 7).list, TC.l (nth x 8).list, TC.l (nth x 9).list, TC.i (nth x 10).int] := by
  obtain ⟨hl, hk⟩ := typed_elem h hx
  have e0 : TC.s (nth x 0).str = nth x 0 := typed_str_eq (hk 0 (by decide))
  have e1 : TC.i (nth x 1).int = nth x 1 := typed_int_eq (hk 1 (by decide))
  have e2 : TC.i (nth x 2).int = nth x 2 := typed_int_eq (hk 2 (by decide))
  have e3 : TC.i (nth x 3).int = nth x 3 := typed_int_eq (hk 3 (by decide))
  have e4 : TC.b (nth x 4).bool = nth x 4 := typed_bool_eq (hk 4 (by decide))
  have e5 : TC.b (nth x 5).bool = nth x 5 := typed_bool_eq (hk 5 (by decide))
  have e6 : TC.l (nth x 6).list = nth x 6 := typed_list_eq (hk 6 (by decide))
  have e7 : TC.l (nth x 7).list = nth x 7 := typed_list_eq (hk 7 (by decide))
  have e8 : TC.l (nth x 8).list = nth x 8 := typed_list_eq (hk 8 (by decide))
  have e9 : TC.l (nth x 9).list = nth x 9 := typed_list_eq (hk 9 (by decide))
  have e10 : TC.i (nth x 10).int = nth x 10 := typed_int_eq (hk 10 (by decide))
  rw [e0, e1, e2, e3, e4, e5, e6, e7, e8, e9, e10]
  exact row_eta hl
theorem form_32 {A : LL} (h : Typed tab (.slice 32) (.l A)) {x : List TC} (hx : x ∈ A) : x = [TC.i (nth x 0).int, TC.i (nth x 1).int, TC.b (nth x 2).bool, TC.b (nth x 3).bool, TC.l (nth x 4).list, TC.l (nth x 5).list, TC.l (nth x 6).list, TC.l (nth x 7).list, TC.i (nth x 8).int] := by
  obtain ⟨hl, hk⟩ := typed_elem h hx
  have e0 : TC.i (nth x 0).int = nth x 0 := typed_int_eq (hk 0 (by decide))
  have e1 : TC.i (nth x 1).int = nth x 1 := typed_int_eq (hk 1 (by decide))
  have e2 : TC.b (nth x 2).bool = nth x 2 := typed_bool_eq (hk 2 (by decide))
  have e3 : TC.b (nth x 3).bool = nth x 3 := typed_bool_eq (hk 3 (by decide))
  have e4 : TC.l (nth x 4).list = nth x 4 := typed_list_eq (hk 4 (by decide))
  have e5 : TC.l (nth x 5).list = nth x 5 := typed_list_eq (hk 5 (by decide))
  have e6 : TC.l (nth x 6).list = nth x 6 := typed_list_eq (hk 6 (by decide))
  have e7 : TC.l (nth x 7).list = nth x 7 := typed_list_eq (hk 7 (by decide))
  have e8 : TC.i (nth x 8).int = nth x 8 := typed_int_eq (hk 8 (by decide))
  rw [e0, e1, e2, e3, e4, e5, e6, e7, e8]
  exact row_eta hl
section
class qba_O where n : Nat
variable [i_impl_SameType : qba_O]
noncomputable def qba_rc (k s : Int) (sg bg : Bool) (NA NU ME BA : LL) (ct k2 s2 : Int) (sg2 bg2 : Bool) (NA2 NU2 ME2 BA2 : LL) (ct2 : Int) : Bool := is (max (rowsDep ME) (rowsDep BA) < qba_O.n ∧ Typed tab (.slice 9) (.l NA) ∧ Typed tab (.slice 2) (.l NU) ∧ Typed tab (.slice 71) (.l ME) ∧ Typed tab (.slice 32) (.l BA) ∧ Typed tab (.slice 9) (.l NA2) ∧ Typed tab (.slice 2) (.l NU2) ∧ Typed tab (.slice 71) (.l ME2) ∧ Typed tab (.slice 32) (.l BA2))
noncomputable def qba_rv (k s : Int) (sg bg : Bool) (NA NU ME BA : LL) (ct k2 s2 : Int) (sg2 bg2 : Bool) (NA2 NU2 ME2 BA2 : LL) (ct2 : Int) : Bool := sameV k s sg bg NA NU ME BA ct k2 s2 sg2 bg2 NA2 NU2 ME2 BA2 ct2
def qba_rmk (p : Bool) : Res := [(false, [⟨.bool, .sh, TC.b p⟩])]
noncomputable def qba_rS : List Arg → Option (Bool × Res) := fun xs => match xs with
  | [(true, [(.int .i64, TC.i k), (.int .i64, TC.i s), (.bool, TC.b sg), (.bool, TC.b bg), (.slice 9, TC.l NA), (.slice 2, TC.l NU), (.slice 71, TC.l ME), (.slice 32, TC.l BA), (.int .i64, TC.i ct)]), (true, [(.int .i64, TC.i k2), (.int .i64, TC.i s2), (.bool, TC.b sg2), (.bool, TC.b bg2), (.slice 9, TC.l NA2), (.slice 2, TC.l NU2), (.slice 71, TC.l ME2), (.slice 32, TC.l BA2), (.int .i64, TC.i ct2)])] => some ((qba_rc k s sg bg NA NU ME BA ct k2 s2 sg2 bg2 NA2 NU2 ME2 BA2 ct2), qba_rmk (qba_rv k s sg bg NA NU ME BA ct k2 s2 sg2 bg2 NA2 NU2 ME2 BA2 ct2))
  | _ => .none
noncomputable def D35 : Dt := also D34 102 qba_rS
class qba_G : Prop where ok : DOk Go.Proofs.Try.prog tab D35
variable [g_impl_SameType : qba_G]
theorem d35 : DOk Go.Proofs.Try.prog tab D35 := qba_G.ok
noncomputable def qca_t (a0 : BS) (a1 a2 a3 : Int) (a4 a5 : Bool) (a6 a7 a8 a9 : LL) (a10 : Int) (a11 : BS) (a12 a13 a14 : Int) (a15 a16 : Bool) (a17 a18 a19 a20 : LL) (a21 : Int) : Tr (Bool) := (.ite ((a0 == a11) = true) (.ite ((a1 == a12) = true) (.ite ((qba_rc a2 a3 a4 a5 a6 a7 a8 a9 a10 a13 a14 a15 a16 a17 a18 a19 a20 a21) = true) (.ok (qba_rv a2 a3 a4 a5 a6 a7 a8 a9 a10 a13 a14 a15 a16 a17 a18 a19 a20 a21))
    .no)
   (.ok false))
  (.ok false))
def qca_mk (p : Bool) : Res := [(false, [⟨.bool, .sh, TC.b p⟩])]
noncomputable def qca_c (a0 : BS) (a1 a2 a3 : Int) (a4 a5 : Bool) (a6 a7 a8 a9 : LL) (a10 : Int) (a11 : BS) (a12 a13 a14 : Int) (a15 a16 : Bool) (a17 a18 a19 a20 : LL) (a21 : Int) : Bool := (bif (a0 == a11) then (bif (a1 == a12) then ((qba_rc a2 a3 a4 a5 a6 a7 a8 a9 a10 a13 a14 a15 a16 a17 a18 a19 a20 a21) && true) else true) else true)
noncomputable def qca_v (a0 : BS) (a1 a2 a3 : Int) (a4 a5 : Bool) (a6 a7 a8 a9 : LL) (a10 : Int) (a11 : BS) (a12 a13 a14 : Int) (a15 a16 : Bool) (a17 a18 a19 a20 : LL) (a21 : Int) : Bool := (bif (a0 == a11) then (bif (a1 == a12) then (qba_rv a2 a3 a4 a5 a6 a7 a8 a9 a10 a13 a14 a15 a16 a17 a18 a19 a20 a21) else false) else false)
theorem qca_l (a0 : BS) (a1 a2 a3 : Int) (a4 a5 : Bool) (a6 a7 a8 a9 : LL) (a10 : Int) (a11 : BS) (a12 a13 a14 : Int) (a15 a16 : Bool) (a17 a18 a19 a20 : LL) (a21 : Int) : (qca_c a0 a1 a2 a3 a4 a5 a6 a7 a8 a9 a10 a11 a12 a13 a14 a15 a16 a17 a18 a19 a20 a21) = true → (qca_t a0 a1 a2 a3 a4 a5 a6 a7 a8 a9 a10 a11 a12 a13 a14 a15 a16 a17 a18 a19 a20 a21).val = some (qca_v a0 a1 a2 a3 a4 a5 a6 a7 a8 a9 a10 a11 a12 a13 a14 a15 a16 a17 a18 a19 a20 a21) := by
  unfold qca_t qca_v qca_c
  exact fun h => (Tr.ss h (fun h => (Tr.ss h (fun h => (Tr.gb h fun h => rfl)) (fun h => rfl))) (fun h => rfl))
noncomputable def qca_S : List Arg → Option (Bool × Res) := fun xs => match xs with
  | [(true, [(.str, TC.s a0), (.int .i64, TC.i a1), (.int .i64, TC.i a2), (.int .i64, TC.i a3), (.bool, TC.b a4), (.bool, TC.b a5), (.slice 9, TC.l a6), (.slice 2, TC.l a7), (.slice 71, TC.l a8), (.slice 32, TC.l a9), (.int .i64, TC.i a10)]), (true, [(.str, TC.s a11), (.int .i64, TC.i a12), (.int .i64, TC.i a13), (.int .i64, TC.i a14), (.bool, TC.b a15), (.bool, TC.b a16), (.slice 9, TC.l a17), (.slice 2, TC.l a18), (.slice 71, TC.l a19), (.slice 32, TC.l a20), (.int .i64, TC.i a21)])] => some ((qca_c a0 a1 a2 a3 a4 a5 a6 a7 a8 a9 a10 a11 a12 a13 a14 a15 a16 a17 a18 a19 a20 a21), qca_mk (qca_v a0 a1 a2 a3 a4 a5 a6 a7 a8 a9 a10 a11 a12 a13 a14 a15 a16 a17 a18 a19 a20 a21))
  | _ => .none
theorem qca_e (a0 : BS) (a1 a2 a3 : Int) (a4 a5 : Bool) (a6 a7 a8 a9 : LL) (a10 : Int) (a11 : BS) (a12 a13 a14 : Int) (a15 a16 : Bool) (a17 a18 a19 a20 : LL) (a21 : Int) : runF tab FT D35 live 134 noLoops [(true, [(.str, TC.s a0), (.int .i64, TC.i a1), (.int .i64, TC.i a2), (.int .i64, TC.i a3), (.bool, TC.b a4), (.bool, TC.b a5), (.slice 9, TC.l a6), (.slice 2, TC.l a7), (.slice 71, TC.l a8), (.slice 32, TC.l a9), (.int .i64, TC.i a10)]), (true, [(.str, TC.s a11), (.int .i64, TC.i a12), (.int .i64, TC.i a13), (.int .i64, TC.i a14), (.bool, TC.b a15), (.bool, TC.b a16), (.slice 9, TC.l a17), (.slice 2, TC.l a18), (.slice 71, TC.l a19), (.slice 32, TC.l a20), (.int .i64, TC.i a21)])] = (qca_t a0 a1 a2 a3 a4 a5 a6 a7 a8 a9 a10 a11 a12 a13 a14 a15 a16 a17 a18 a19 a20 a21).run fun p => some (qca_mk p) := by kernel_rfl
theorem qca_s : ∀ xs r, qca_S xs = some (true, r) → runF tab FT D35 live 134 noLoops xs = some r := by
  intro xs r h
  unfold qca_S at h
  split at h
  · simp only [Option.some.injEq, Prod.mk.injEq] at h
    obtain ⟨h1, rfl⟩ := h
    exact fun_told (qca_e _ _ _ _ _ _ _ _ _ _ _ _ _ _ _ _ _ _ _ _ _ _) (qca_l _ _ _ _ _ _ _ _ _ _ _ _ _ _ _ _ _ _ _ _ _ _) h1
  · cases h
noncomputable def D36 : Dt := also D35 134 qca_S
theorem d36 : DOk Go.Proofs.Try.prog tab D36 := d35.also mixed_ok tab_ok names_ok noLoops_ok qca_s
noncomputable def qa_E (x y : List TC) : Bool := qca_v ((nth x 0).str) ((nth x 1).int) ((nth x 2).int) ((nth x 3).int) ((nth x 4).bool) ((nth x 5).bool) ((nth x 6).list) ((nth x 7).list) ((nth x 8).list) ((nth x 9).list) ((nth x 10).int) ((nth y 0).str) ((nth y 1).int) ((nth y 2).int) ((nth y 3).int) ((nth y 4).bool) ((nth y 5).bool) ((nth y 6).list) ((nth y 7).list) ((nth y 8).list) ((nth y 9).list) ((nth y 10).int)
abbrev qa_4_σ := LL × LL × Int × Int
abbrev qa_4_ω := (Unit) ⊕ (Unit)
noncomputable def qa_4_step (C A : LL) (m i : Int) : Tr (qa_4_σ ⊕ qa_4_ω) := (.ite ((decide (i < m)) = true) (.ite ((0 : Int) ≤ i ∧ i < (A.length : Int)) (.ite ((0 : Int) ≤ i ∧ i < (C.length : Int)) (.ite ((qca_c ((nth (row A i) 0).str) ((nth (row A i) 1).int) ((nth (row A i) 2).int) ((nth (row A i) 3).int) ((nth (row A i) 4).bool) ((nth (row A i) 5).bool) ((nth (row A i) 6).list) ((nth (row A i) 7).list) ((nth (row A i) 8).list) ((nth (row A i) 9).list) ((nth (row A i) 10).int) ((nth (row C i) 0).str) ((nth (row C i) 1).int) ((nth (row C i) 2).int) ((nth (row C i) 3).int) ((nth (row C i) 4).bool) ((nth (row C i) 5).bool) ((nth (row C i) 6).list) ((nth (row C i) 7).list) ((nth (row C i) 8).list) ((nth (row C i) 9).list) ((nth (row C i) 10).int)) = true) (.ite ((!(qca_v ((nth (row A i) 0).str) ((nth (row A i) 1).int) ((nth (row A i) 2).int) ((nth (row A i) 3).int) ((nth (row A i) 4).bool) ((nth (row A i) 5).bool) ((nth (row A i) 6).list) ((nth (row A i) 7).list) ((nth (row A i) 8).list) ((nth (row A i) 9).list) ((nth (row A i) 10).int) ((nth (row C i) 0).str) ((nth (row C i) 1).int) ((nth (row C i) 2).int) ((nth (row C i) 3).int) ((nth (row C i) 4).bool) ((nth (row C i) 5).bool) ((nth (row C i) 6).list) ((nth (row C i) 7).list) ((nth (row C i) 8).list) ((nth (row C i) 9).list) ((nth (row C i) 10).int))) = true) (.ok (.inr (.inl ())))
      (.ok (.inl (C, A, m, (IntKind.wrap .i64 (i + (1 : Int)))))))
     .no)
    .no)
   .no)
  (.ok (.inr (.inr ()))))
noncomputable def qa_4_st : qa_4_σ → Tr (qa_4_σ ⊕ qa_4_ω) := fun x => (qa_4_step (x.1) (x.2.1) (x.2.2.1) (x.2.2.2))
noncomputable def qa_k4_1 (C A : LL) (m i : Int) : Bool := allEq qa_E A C
noncomputable def qa_o4_2 (C A : LL) (m i : Int) : Bool := is (A.length = C.length ∧ i = 0 ∧ Typed tab (.slice 71) (.l A) ∧ m = (A.length : Int) ∧ (∀ x y : List TC, x ∈ A → y ∈ C → qca_c ((nth x 0).str) ((nth x 1).int) ((nth x 2).int) ((nth x 3).int) ((nth x 4).bool) ((nth x 5).bool) ((nth x 6).list) ((nth x 7).list) ((nth x 8).list) ((nth x 9).list) ((nth x 10).int) ((nth y 0).str) ((nth y 1).int) ((nth y 2).int) ((nth y 3).int) ((nth y 4).bool) ((nth y 5).bool) ((nth y 6).list) ((nth y 7).list) ((nth y 8).list) ((nth y 9).list) ((nth y 10).int) = true))
noncomputable def qa_o4_3 (C A : LL) (m i : Int) : Bool := is (A.length = C.length ∧ i = 0 ∧ Typed tab (.slice 71) (.l A) ∧ m = (A.length : Int) ∧ (∀ x y : List TC, x ∈ A → y ∈ C → qca_c ((nth x 0).str) ((nth x 1).int) ((nth x 2).int) ((nth x 3).int) ((nth x 4).bool) ((nth x 5).bool) ((nth x 6).list) ((nth x 7).list) ((nth x 8).list) ((nth x 9).list) ((nth x 10).int) ((nth y 0).str) ((nth y 1).int) ((nth y 2).int) ((nth y 3).int) ((nth y 4).bool) ((nth y 5).bool) ((nth y 6).list) ((nth y 7).list) ((nth y 8).list) ((nth y 9).list) ((nth y 10).int) = true))
noncomputable def qa_4_fin (C A : LL) (m i : Int) : Told qa_4_ω := (.br (qa_k4_1 C A m i) (.leaf (qa_o4_2 C A m i) (.inr ())) (.leaf (qa_o4_3 C A m i) (.inl ())))
def qa_4_sl (x : qa_4_σ) : List Slot := [⟨.val false [⟨.slice 71, .sh, TC.l (x.1)⟩], ⟨0, 0⟩⟩, ⟨.val false [⟨.func, .sh, TC.f 134 []⟩], ⟨0, 0⟩⟩, ⟨.val false [⟨.slice 71, .sh, TC.l (x.2.1)⟩], ⟨0, 0⟩⟩, ⟨.val false [⟨.int .i64, .sh, TC.i (x.2.2.1)⟩], ⟨0, 0⟩⟩, ⟨.val false [⟨.int .i64, .sh, TC.i (x.2.2.2)⟩], ⟨0, 0⟩⟩]
def qa_4_out : qa_4_ω → Ex × List Slot := (Sum.elim (fun x => (.ret, [⟨.val false [⟨.bool, .sh, TC.b false⟩], ⟨0, 0⟩⟩])) (fun x => (.exit 0, [Slot.none])))
noncomputable def qa_lo4 : List Slot → Option (Told (Ex × List Slot)) := fun s => match s with
  | [⟨.val false [⟨.slice 71, .sh, TC.l C⟩], ⟨0, 0⟩⟩, ⟨.val false [⟨.func, .sh, TC.f 134 []⟩], ⟨0, 0⟩⟩, ⟨.val false [⟨.slice 71, .sh, TC.l A⟩], ⟨0, 0⟩⟩, ⟨.val false [⟨.int .i64, .sh, TC.i m⟩], ⟨0, 0⟩⟩, ⟨.val false [⟨.int .i64, .sh, TC.i i⟩], ⟨0, 0⟩⟩] => some (((qa_4_fin C A m i)).map qa_4_out)
  | _ => .none
noncomputable def qa_lo : LoopTeller := fun r s => bif Nat.beq r 4 then qa_lo4 s else .none
theorem qa_4_r (C A : LL) (m i : Int) (fuel : Nat) : rounds (rnd tab FT D36 live 133 qa_lo 0 4) leave (fuel + 1) (qa_4_sl (C, A, m, i)) = ((qa_4_step C A m i)).run (goOn (fun s => rounds (rnd tab FT D36 live 133 qa_lo 0 4) leave fuel (qa_4_sl s)) fun w => some (qa_4_out w)) := by kernel_rfl
theorem qa_4_h (C A : LL) (m i : Int) (ow : qa_4_ω) : ((qa_4_fin C A m i)).val = some ow → ∃ fuel, loopN qa_4_st fuel (C, A, m, i) = some ow := by
  intro h
  have key : A.length = C.length → Typed tab (.slice 71) (.l A) → (∀ x y : List TC, x ∈ A → y ∈ C → qca_c ((nth x 0).str) ((nth x 1).int) ((nth x 2).int) ((nth x 3).int) ((nth x 4).bool) ((nth x 5).bool) ((nth x 6).list) ((nth x 7).list) ((nth x 8).list) ((nth x 9).list) ((nth x 10).int) ((nth y 0).str) ((nth y 1).int) ((nth y 2).int) ((nth y 3).int) ((nth y 4).bool) ((nth y 5).bool) ((nth y 6).list) ((nth y 7).list) ((nth y 8).list) ((nth y 9).list) ((nth y 10).int) = true) → loopN qa_4_st (A.length + 1) (C, A, (A.length : Int), 0) = some (if allEq qa_E A C = true then .inr () else .inl ()) := by
    intro hl ht hr
    have hlen : A.length ≤ 140737488351232 := by have := typed_room ht; simp only [show (tab 71).bytes = 152 from rfl] at this; omega
    refine loopN_allEq A C qa_E (fun i => (C, A, (A.length : Int), (i : Int))) _ _ hl (fun i hi => ?_) ?_ A.length 0 (by omega)
    · show (qa_4_step C A (A.length : Int) (i : Int)).val = _
      unfold qa_4_step
      refine Tr.t (by simp; omega) ?_
      refine Tr.t (by constructor <;> omega) ?_
      refine Tr.t (by constructor <;> omega) ?_
      refine Tr.t (hr _ _ (mem_getD hi) (mem_getD (by omega))) ?_
      rw [wrap64 (i := (i : Int) + 1) (by omega) (by omega)]
      rw [Tr.val_br]
      show (if (!(qa_E (A.getD i []) (C.getD i []))) = true then _ else _) = _
      cases qa_E (A.getD i []) (C.getD i []) <;> rfl
    · show (qa_4_step C A (A.length : Int) (A.length : Int)).val = _
      refine Tr.n (by simp) ?_
      rfl
  simp only [qa_4_fin, Told.val] at h
  cases hk : allEq qa_E A C with
  | true =>
    rw [if_pos (show qa_k4_1 C A m i = true from hk)] at h
    split at h
    · rename_i ho
      obtain ⟨hl, rfl, ht, rfl, hr⟩ := is_iff.1 ho
      cases h
      refine ⟨_, (key hl ht hr).trans ?_⟩
      rw [hk]; rfl
    · cases h
  | false =>
    rw [if_neg (show ¬qa_k4_1 C A m i = true from by rw [show qa_k4_1 C A m i = allEq qa_E A C from rfl, hk]; simp)] at h
    split at h
    · rename_i ho
      obtain ⟨hl, rfl, ht, rfl, hr⟩ := is_iff.1 ho
      cases h
      refine ⟨_, (key hl ht hr).trans ?_⟩
      rw [hk]; rfl
    · cases h
theorem qa_is4 : LoopIs tab FT D36 live 133 qa_lo 0 4 := by
  refine loop_told (sl := qa_4_sl) (step := qa_4_st) (out := qa_4_out) (lor := qa_lo4) (fin := fun x => (qa_4_fin (x.1) (x.2.1) (x.2.2.1) (x.2.2.2))) (fun _ => rfl) ?_ (fun x n => qa_4_r x.1 x.2.1 x.2.2.1 x.2.2.2 n) (fun x ow => qa_4_h x.1 x.2.1 x.2.2.1 x.2.2.2 ow)
  intro s t h
  unfold qa_lo4 at h
  split at h
  · cases h; exact ⟨(_, _, _, _), rfl, rfl⟩
  · cases h
noncomputable def qa_t (A C : LL) : Tr (Bool) := (.ite ((!((A.length : Int) == (C.length : Int))) = true) (.ok false)
  (.ite ((qa_k4_1 C A (A.length : Int) (0 : Int)) = true) (.ite ((qa_o4_2 C A (A.length : Int) (0 : Int)) = true) (.ok true)
    .no)
   (.ite ((qa_o4_3 C A (A.length : Int) (0 : Int)) = true) (.ok false)
    .no)))
def qa_mk (p : Bool) : Res := [(false, [⟨.bool, .sh, TC.b p⟩])]
noncomputable def qa_c (A C : LL) : Bool := is (Typed tab (.slice 71) (.l A) ∧ (∀ x y : List TC, x ∈ A → y ∈ C → qca_c ((nth x 0).str) ((nth x 1).int) ((nth x 2).int) ((nth x 3).int) ((nth x 4).bool) ((nth x 5).bool) ((nth x 6).list) ((nth x 7).list) ((nth x 8).list) ((nth x 9).list) ((nth x 10).int) ((nth y 0).str) ((nth y 1).int) ((nth y 2).int) ((nth y 3).int) ((nth y 4).bool) ((nth y 5).bool) ((nth y 6).list) ((nth y 7).list) ((nth y 8).list) ((nth y 9).list) ((nth y 10).int) = true))
noncomputable def qa_v (A C : LL) : Bool := allEq qa_E A C
theorem qa_l (A C : LL) : (qa_c A C) = true → (qa_t A C).val = some (qa_v A C) := by
  intro h
  obtain ⟨ht, hr⟩ := is_iff.1 h
  unfold qa_t
  by_cases hl : A.length = C.length
  · refine Tr.n (by simp [hl]) ?_
    cases hk : allEq qa_E A C with
    | true =>
      refine Tr.t (show allEq qa_E A C = true from hk) ?_
      refine Tr.t (is_true ⟨hl, rfl, ht, rfl, hr⟩) ?_
      show _ = some (allEq qa_E A C); rw [hk]; rfl
    | false =>
      refine Tr.n (show ¬allEq qa_E A C = true from by rw [hk]; simp) ?_
      refine Tr.t (is_true ⟨hl, rfl, ht, rfl, hr⟩) ?_
      show _ = some (allEq qa_E A C); rw [hk]; rfl
  · refine Tr.t (by simp; omega) ?_
    show _ = some (allEq qa_E A C)
    rw [allEq_ne hl]; rfl
noncomputable def qa_S : List Arg → Option (Bool × Res) := fun xs => match xs with
  | [(false, [(.slice 71, TC.l A)]), (false, [(.slice 71, TC.l C)]), (false, [(.func, TC.f 134 [])])] => some ((qa_c A C), qa_mk (qa_v A C))
  | _ => .none
theorem qa_e (A C : LL) : runF tab FT D36 live 133 qa_lo [(false, [(.slice 71, TC.l A)]), (false, [(.slice 71, TC.l C)]), (false, [(.func, TC.f 134 [])])] = (qa_t A C).run fun p => some (qa_mk p) := by kernel_rfl
theorem qa_s : ∀ xs r, qa_S xs = some (true, r) → runF tab FT D36 live 133 qa_lo xs = some r := by
  intro xs r h
  unfold qa_S at h
  split at h
  · simp only [Option.some.injEq, Prod.mk.injEq] at h
    obtain ⟨h1, rfl⟩ := h
    exact fun_told (qa_e _ _) (qa_l _ _) h1
  · cases h
noncomputable def D37 : Dt := also D36 133 qa_S
theorem d37 : DOk Go.Proofs.Try.prog tab D37 := d36.also mixed_ok tab_ok names_ok (fnLoops_one (by kernel_rfl) qa_is4) qa_s
noncomputable def qb_E (x y : List TC) : Bool := qba_rv ((nth x 0).int) ((nth x 1).int) ((nth x 2).bool) ((nth x 3).bool) ((nth x 4).list) ((nth x 5).list) ((nth x 6).list) ((nth x 7).list) ((nth x 8).int) ((nth y 0).int) ((nth y 1).int) ((nth y 2).bool) ((nth y 3).bool) ((nth y 4).list) ((nth y 5).list) ((nth y 6).list) ((nth y 7).list) ((nth y 8).int)
abbrev qb_4_σ := LL × LL × Int × Int
abbrev qb_4_ω := (Unit) ⊕ (Unit)
noncomputable def qb_4_step (C A : LL) (m i : Int) : Tr (qb_4_σ ⊕ qb_4_ω) := (.ite ((decide (i < m)) = true) (.ite ((0 : Int) ≤ i ∧ i < (A.length : Int)) (.ite ((0 : Int) ≤ i ∧ i < (C.length : Int)) (.ite ((qba_rc ((nth (row A i) 0).int) ((nth (row A i) 1).int) ((nth (row A i) 2).bool) ((nth (row A i) 3).bool) ((nth (row A i) 4).list) ((nth (row A i) 5).list) ((nth (row A i) 6).list) ((nth (row A i) 7).list) ((nth (row A i) 8).int) ((nth (row C i) 0).int) ((nth (row C i) 1).int) ((nth (row C i) 2).bool) ((nth (row C i) 3).bool) ((nth (row C i) 4).list) ((nth (row C i) 5).list) ((nth (row C i) 6).list) ((nth (row C i) 7).list) ((nth (row C i) 8).int)) = true) (.ite ((!(qba_rv ((nth (row A i) 0).int) ((nth (row A i) 1).int) ((nth (row A i) 2).bool) ((nth (row A i) 3).bool) ((nth (row A i) 4).list) ((nth (row A i) 5).list) ((nth (row A i) 6).list) ((nth (row A i) 7).list) ((nth (row A i) 8).int) ((nth (row C i) 0).int) ((nth (row C i) 1).int) ((nth (row C i) 2).bool) ((nth (row C i) 3).bool) ((nth (row C i) 4).list) ((nth (row C i) 5).list) ((nth (row C i) 6).list) ((nth (row C i) 7).list) ((nth (row C i) 8).int))) = true) (.ok (.inr (.inl ())))
      (.ok (.inl (C, A, m, (IntKind.wrap .i64 (i + (1 : Int)))))))
     .no)
    .no)
   .no)
  (.ok (.inr (.inr ()))))
noncomputable def qb_4_st : qb_4_σ → Tr (qb_4_σ ⊕ qb_4_ω) := fun x => (qb_4_step (x.1) (x.2.1) (x.2.2.1) (x.2.2.2))
noncomputable def qb_k4_1 (C A : LL) (m i : Int) : Bool := allEq qb_E A C
noncomputable def qb_o4_2 (C A : LL) (m i : Int) : Bool := is (A.length = C.length ∧ i = 0 ∧ Typed tab (.slice 32) (.l A) ∧ m = (A.length : Int) ∧ (∀ x y : List TC, x ∈ A → y ∈ C → qba_rc ((nth x 0).int) ((nth x 1).int) ((nth x 2).bool) ((nth x 3).bool) ((nth x 4).list) ((nth x 5).list) ((nth x 6).list) ((nth x 7).list) ((nth x 8).int) ((nth y 0).int) ((nth y 1).int) ((nth y 2).bool) ((nth y 3).bool) ((nth y 4).list) ((nth y 5).list) ((nth y 6).list) ((nth y 7).list) ((nth y 8).int) = true))
noncomputable def qb_o4_3 (C A : LL) (m i : Int) : Bool := is (A.length = C.length ∧ i = 0 ∧ Typed tab (.slice 32) (.l A) ∧ m = (A.length : Int) ∧ (∀ x y : List TC, x ∈ A → y ∈ C → qba_rc ((nth x 0).int) ((nth x 1).int) ((nth x 2).bool) ((nth x 3).bool) ((nth x 4).list) ((nth x 5).list) ((nth x 6).list) ((nth x 7).list) ((nth x 8).int) ((nth y 0).int) ((nth y 1).int) ((nth y 2).bool) ((nth y 3).bool) ((nth y 4).list) ((nth y 5).list) ((nth y 6).list) ((nth y 7).list) ((nth y 8).int) = true))
noncomputable def qb_4_fin (C A : LL) (m i : Int) : Told qb_4_ω := (.br (qb_k4_1 C A m i) (.leaf (qb_o4_2 C A m i) (.inr ())) (.leaf (qb_o4_3 C A m i) (.inl ())))
def qb_4_sl (x : qb_4_σ) : List Slot := [⟨.val false [⟨.slice 32, .sh, TC.l (x.1)⟩], ⟨0, 0⟩⟩, ⟨.val false [⟨.func, .sh, TC.f 102 []⟩], ⟨0, 0⟩⟩, ⟨.val false [⟨.slice 32, .sh, TC.l (x.2.1)⟩], ⟨0, 0⟩⟩, ⟨.val false [⟨.int .i64, .sh, TC.i (x.2.2.1)⟩], ⟨0, 0⟩⟩, ⟨.val false [⟨.int .i64, .sh, TC.i (x.2.2.2)⟩], ⟨0, 0⟩⟩]
def qb_4_out : qb_4_ω → Ex × List Slot := (Sum.elim (fun x => (.ret, [⟨.val false [⟨.bool, .sh, TC.b false⟩], ⟨0, 0⟩⟩])) (fun x => (.exit 0, [Slot.none])))
noncomputable def qb_lo4 : List Slot → Option (Told (Ex × List Slot)) := fun s => match s with
  | [⟨.val false [⟨.slice 32, .sh, TC.l C⟩], ⟨0, 0⟩⟩, ⟨.val false [⟨.func, .sh, TC.f 102 []⟩], ⟨0, 0⟩⟩, ⟨.val false [⟨.slice 32, .sh, TC.l A⟩], ⟨0, 0⟩⟩, ⟨.val false [⟨.int .i64, .sh, TC.i m⟩], ⟨0, 0⟩⟩, ⟨.val false [⟨.int .i64, .sh, TC.i i⟩], ⟨0, 0⟩⟩] => some (((qb_4_fin C A m i)).map qb_4_out)
  | _ => .none
noncomputable def qb_lo : LoopTeller := fun r s => bif Nat.beq r 4 then qb_lo4 s else .none
theorem qb_4_r (C A : LL) (m i : Int) (fuel : Nat) : rounds (rnd tab FT D37 live 135 qb_lo 0 4) leave (fuel + 1) (qb_4_sl (C, A, m, i)) = ((qb_4_step C A m i)).run (goOn (fun s => rounds (rnd tab FT D37 live 135 qb_lo 0 4) leave fuel (qb_4_sl s)) fun w => some (qb_4_out w)) := by kernel_rfl
theorem qb_4_h (C A : LL) (m i : Int) (ow : qb_4_ω) : ((qb_4_fin C A m i)).val = some ow → ∃ fuel, loopN qb_4_st fuel (C, A, m, i) = some ow := by
  intro h
  have key : A.length = C.length → Typed tab (.slice 32) (.l A) → (∀ x y : List TC, x ∈ A → y ∈ C → qba_rc ((nth x 0).int) ((nth x 1).int) ((nth x 2).bool) ((nth x 3).bool) ((nth x 4).list) ((nth x 5).list) ((nth x 6).list) ((nth x 7).list) ((nth x 8).int) ((nth y 0).int) ((nth y 1).int) ((nth y 2).bool) ((nth y 3).bool) ((nth y 4).list) ((nth y 5).list) ((nth y 6).list) ((nth y 7).list) ((nth y 8).int) = true) → loopN qb_4_st (A.length + 1) (C, A, (A.length : Int), 0) = some (if allEq qb_E A C = true then .inr () else .inl ()) := by
    intro hl ht hr
    have hlen : A.length ≤ 140737488351232 := by have := typed_room ht; simp only [show (tab 32).bytes = 128 from rfl] at this; omega
    refine loopN_allEq A C qb_E (fun i => (C, A, (A.length : Int), (i : Int))) _ _ hl (fun i hi => ?_) ?_ A.length 0 (by omega)
    · show (qb_4_step C A (A.length : Int) (i : Int)).val = _
      unfold qb_4_step
      refine Tr.t (by simp; omega) ?_
      refine Tr.t (by constructor <;> omega) ?_
      refine Tr.t (by constructor <;> omega) ?_
      refine Tr.t (hr _ _ (mem_getD hi) (mem_getD (by omega))) ?_
      rw [wrap64 (i := (i : Int) + 1) (by omega) (by omega)]
      rw [Tr.val_br]
      show (if (!(qb_E (A.getD i []) (C.getD i []))) = true then _ else _) = _
      cases qb_E (A.getD i []) (C.getD i []) <;> rfl
    · show (qb_4_step C A (A.length : Int) (A.length : Int)).val = _
      refine Tr.n (by simp) ?_
      rfl
  simp only [qb_4_fin, Told.val] at h
  cases hk : allEq qb_E A C with
  | true =>
    rw [if_pos (show qb_k4_1 C A m i = true from hk)] at h
    split at h
    · rename_i ho
      obtain ⟨hl, rfl, ht, rfl, hr⟩ := is_iff.1 ho
      cases h
      refine ⟨_, (key hl ht hr).trans ?_⟩
      rw [hk]; rfl
    · cases h
  | false =>
    rw [if_neg (show ¬qb_k4_1 C A m i = true from by rw [show qb_k4_1 C A m i = allEq qb_E A C from rfl, hk]; simp)] at h
    split at h
    · rename_i ho
      obtain ⟨hl, rfl, ht, rfl, hr⟩ := is_iff.1 ho
      cases h
      refine ⟨_, (key hl ht hr).trans ?_⟩
      rw [hk]; rfl
    · cases h
theorem qb_is4 : LoopIs tab FT D37 live 135 qb_lo 0 4 := by
  refine loop_told (sl := qb_4_sl) (step := qb_4_st) (out := qb_4_out) (lor := qb_lo4) (fin := fun x => (qb_4_fin (x.1) (x.2.1) (x.2.2.1) (x.2.2.2))) (fun _ => rfl) ?_ (fun x n => qb_4_r x.1 x.2.1 x.2.2.1 x.2.2.2 n) (fun x ow => qb_4_h x.1 x.2.1 x.2.2.1 x.2.2.2 ow)
  intro s t h
  unfold qb_lo4 at h
  split at h
  · cases h; exact ⟨(_, _, _, _), rfl, rfl⟩
  · cases h
noncomputable def qb_t (A C : LL) : Tr (Bool) := (.ite ((!((A.length : Int) == (C.length : Int))) = true) (.ok false)
  (.ite ((qb_k4_1 C A (A.length : Int) (0 : Int)) = true) (.ite ((qb_o4_2 C A (A.length : Int) (0 : Int)) = true) (.ok true)
    .no)
   (.ite ((qb_o4_3 C A (A.length : Int) (0 : Int)) = true) (.ok false)
    .no)))
def qb_mk (p : Bool) : Res := [(false, [⟨.bool, .sh, TC.b p⟩])]
noncomputable def qb_c (A C : LL) : Bool := is (Typed tab (.slice 32) (.l A) ∧ (∀ x y : List TC, x ∈ A → y ∈ C → qba_rc ((nth x 0).int) ((nth x 1).int) ((nth x 2).bool) ((nth x 3).bool) ((nth x 4).list) ((nth x 5).list) ((nth x 6).list) ((nth x 7).list) ((nth x 8).int) ((nth y 0).int) ((nth y 1).int) ((nth y 2).bool) ((nth y 3).bool) ((nth y 4).list) ((nth y 5).list) ((nth y 6).list) ((nth y 7).list) ((nth y 8).int) = true))
noncomputable def qb_v (A C : LL) : Bool := allEq qb_E A C
theorem qb_l (A C : LL) : (qb_c A C) = true → (qb_t A C).val = some (qb_v A C) := by
  intro h
  obtain ⟨ht, hr⟩ := is_iff.1 h
  unfold qb_t
  by_cases hl : A.length = C.length
  · refine Tr.n (by simp [hl]) ?_
    cases hk : allEq qb_E A C with
    | true =>
      refine Tr.t (show allEq qb_E A C = true from hk) ?_
      refine Tr.t (is_true ⟨hl, rfl, ht, rfl, hr⟩) ?_
      show _ = some (allEq qb_E A C); rw [hk]; rfl
    | false =>
      refine Tr.n (show ¬allEq qb_E A C = true from by rw [hk]; simp) ?_
      refine Tr.t (is_true ⟨hl, rfl, ht, rfl, hr⟩) ?_
      show _ = some (allEq qb_E A C); rw [hk]; rfl
  · refine Tr.t (by simp; omega) ?_
    show _ = some (allEq qb_E A C)
    rw [allEq_ne hl]; rfl
noncomputable def qb_S : List Arg → Option (Bool × Res) := fun xs => match xs with
  | [(false, [(.slice 32, TC.l A)]), (false, [(.slice 32, TC.l C)]), (false, [(.func, TC.f 102 [])])] => some ((qb_c A C), qb_mk (qb_v A C))
  | _ => .none
theorem qb_e (A C : LL) : runF tab FT D37 live 135 qb_lo [(false, [(.slice 32, TC.l A)]), (false, [(.slice 32, TC.l C)]), (false, [(.func, TC.f 102 [])])] = (qb_t A C).run fun p => some (qb_mk p) := by kernel_rfl
theorem qb_s : ∀ xs r, qb_S xs = some (true, r) → runF tab FT D37 live 135 qb_lo xs = some r := by
  intro xs r h
  unfold qb_S at h
  split at h
  · simp only [Option.some.injEq, Prod.mk.injEq] at h
    obtain ⟨h1, rfl⟩ := h
    exact fun_told (qb_e _ _) (qb_l _ _) h1
  · cases h
noncomputable def D38 : Dt := also D37 135 qb_S
theorem d38 : DOk Go.Proofs.Try.prog tab D38 := d37.also mixed_ok tab_ok names_ok (fnLoops_one (by kernel_rfl) qb_is4) qb_s
noncomputable def qba_t (k s : Int) (sg bg : Bool) (NA NU ME BA : LL) (ct k2 s2 : Int) (sg2 bg2 : Bool) (NA2 NU2 ME2 BA2 : LL) (ct2 : Int) : Tr (Bool) := (.ite ((k == k2) = true) (.ite ((s == s2) = true) (.ite ((sg == sg2) = true) (.ite ((bg == bg2) = true) (.ite ((ct == ct2) = true) (.ite ((qn_c NA NA2) = true) (.ite ((qn_v NA NA2) = true) (.ite ((qr_c NU NU2) = true) (.ite ((qr_v NU NU2) = true) (.ite ((qa_c ME ME2) = true) (.ite ((qa_v ME ME2) = true) (.ite ((qb_c BA BA2) = true) (.ok (qb_v BA BA2))
             .no)
            (.ok false))
           .no)
          (.ok false))
         .no)
        (.ok false))
       .no)
      (.ok false))
     (.ok false))
    (.ok false))
   (.ok false))
  (.ok false))
def qba_mk (p : Bool) : Res := [(false, [⟨.bool, .sh, TC.b p⟩])]
noncomputable def qba_c (k s : Int) (sg bg : Bool) (NA NU ME BA : LL) (ct k2 s2 : Int) (sg2 bg2 : Bool) (NA2 NU2 ME2 BA2 : LL) (ct2 : Int) : Bool := (bif (k == k2) then (bif (s == s2) then (bif (sg == sg2) then (bif (bg == bg2) then (bif (ct == ct2) then ((qn_c NA NA2) && (bif (qn_v NA NA2) then ((qr_c NU NU2) && (bif (qr_v NU NU2) then ((qa_c ME ME2) && (bif (qa_v ME ME2) then ((qb_c BA BA2) && true) else true)) else true)) else true)) else true) else true) else true) else true) else true)
noncomputable def qba_v (k s : Int) (sg bg : Bool) (NA NU ME BA : LL) (ct k2 s2 : Int) (sg2 bg2 : Bool) (NA2 NU2 ME2 BA2 : LL) (ct2 : Int) : Bool := (bif (k == k2) then (bif (s == s2) then (bif (sg == sg2) then (bif (bg == bg2) then (bif (ct == ct2) then (bif (qn_v NA NA2) then (bif (qr_v NU NU2) then (bif (qa_v ME ME2) then (qb_v BA BA2) else false) else false) else false) else false) else false) else false) else false) else false)
theorem qba_l (k s : Int) (sg bg : Bool) (NA NU ME BA : LL) (ct k2 s2 : Int) (sg2 bg2 : Bool) (NA2 NU2 ME2 BA2 : LL) (ct2 : Int) : (qba_c k s sg bg NA NU ME BA ct k2 s2 sg2 bg2 NA2 NU2 ME2 BA2 ct2) = true → (qba_t k s sg bg NA NU ME BA ct k2 s2 sg2 bg2 NA2 NU2 ME2 BA2 ct2).val = some (qba_v k s sg bg NA NU ME BA ct k2 s2 sg2 bg2 NA2 NU2 ME2 BA2 ct2) := by
  unfold qba_t qba_v qba_c
  exact fun h => (Tr.ss h (fun h => (Tr.ss h (fun h => (Tr.ss h (fun h => (Tr.ss h (fun h => (Tr.ss h (fun h => (Tr.gb h fun h => (Tr.ss h (fun h => (Tr.gb h fun h => (Tr.ss h (fun h => (Tr.gb h fun h => (Tr.ss h (fun h => (Tr.gb h fun h => rfl)) (fun h => rfl)))) (fun h => rfl)))) (fun h => rfl)))) (fun h => rfl))) (fun h => rfl))) (fun h => rfl))) (fun h => rfl))) (fun h => rfl))
noncomputable def qba_S : List Arg → Option (Bool × Res) := fun xs => match xs with
  | [(true, [(.int .i64, TC.i k), (.int .i64, TC.i s), (.bool, TC.b sg), (.bool, TC.b bg), (.slice 9, TC.l NA), (.slice 2, TC.l NU), (.slice 71, TC.l ME), (.slice 32, TC.l BA), (.int .i64, TC.i ct)]), (true, [(.int .i64, TC.i k2), (.int .i64, TC.i s2), (.bool, TC.b sg2), (.bool, TC.b bg2), (.slice 9, TC.l NA2), (.slice 2, TC.l NU2), (.slice 71, TC.l ME2), (.slice 32, TC.l BA2), (.int .i64, TC.i ct2)])] => some ((qba_c k s sg bg NA NU ME BA ct k2 s2 sg2 bg2 NA2 NU2 ME2 BA2 ct2), qba_mk (qba_v k s sg bg NA NU ME BA ct k2 s2 sg2 bg2 NA2 NU2 ME2 BA2 ct2))
  | _ => .none
theorem qba_e (k s : Int) (sg bg : Bool) (NA NU ME BA : LL) (ct k2 s2 : Int) (sg2 bg2 : Bool) (NA2 NU2 ME2 BA2 : LL) (ct2 : Int) : runF tab FT D38 live 102 noLoops [(true, [(.int .i64, TC.i k), (.int .i64, TC.i s), (.bool, TC.b sg), (.bool, TC.b bg), (.slice 9, TC.l NA), (.slice 2, TC.l NU), (.slice 71, TC.l ME), (.slice 32, TC.l BA), (.int .i64, TC.i ct)]), (true, [(.int .i64, TC.i k2), (.int .i64, TC.i s2), (.bool, TC.b sg2), (.bool, TC.b bg2), (.slice 9, TC.l NA2), (.slice 2, TC.l NU2), (.slice 71, TC.l ME2), (.slice 32, TC.l BA2), (.int .i64, TC.i ct2)])] = (qba_t k s sg bg NA NU ME BA ct k2 s2 sg2 bg2 NA2 NU2 ME2 BA2 ct2).run fun p => some (qba_mk p) := by kernel_rfl
theorem qba_s : ∀ xs r, qba_S xs = some (true, r) → runF tab FT D38 live 102 noLoops xs = some r := by
  intro xs r h
  unfold qba_S at h
  split at h
  · simp only [Option.some.injEq, Prod.mk.injEq] at h
    obtain ⟨h1, rfl⟩ := h
    exact fun_told (qba_e _ _ _ _ _ _ _ _ _ _ _ _ _ _ _ _ _ _) (qba_l _ _ _ _ _ _ _ _ _ _ _ _ _ _ _ _ _ _) h1
  · cases h
theorem qba_nx (k s : Int) (sg bg : Bool) (NA NU ME BA : LL) (ct k2 s2 : Int) (sg2 bg2 : Bool) (NA2 NU2 ME2 BA2 : LL) (ct2 : Int) : is (max (rowsDep ME) (rowsDep BA) < qba_O.n + 1 ∧ Typed tab (.slice 9) (.l NA) ∧ Typed tab (.slice 2) (.l NU) ∧ Typed tab (.slice 71) (.l ME) ∧ Typed tab (.slice 32) (.l BA) ∧ Typed tab (.slice 9) (.l NA2) ∧ Typed tab (.slice 2) (.l NU2) ∧ Typed tab (.slice 71) (.l ME2) ∧ Typed tab (.slice 32) (.l BA2)) = true → (qba_c k s sg bg NA NU ME BA ct k2 s2 sg2 bg2 NA2 NU2 ME2 BA2 ct2) = true ∧ (qba_v k s sg bg NA NU ME BA ct k2 s2 sg2 bg2 NA2 NU2 ME2 BA2 ct2) = sameV k s sg bg NA NU ME BA ct k2 s2 sg2 bg2 NA2 NU2 ME2 BA2 ct2 := by
  intro h
  obtain ⟨hM, a4, a5, a6, a7, b4, b5, b6, b7⟩ := is_iff.1 h
  have q6 : ∀ x y, x ∈ ME → y ∈ ME2 → qba_rc (nth x 2).int (nth x 3).int (nth x 4).bool (nth x 5).bool (nth x 6).list (nth x 7).list (nth x 8).list (nth x 9).list (nth x 10).int (nth y 2).int (nth y 3).int (nth y 4).bool (nth y 5).bool (nth y 6).list (nth y 7).list (nth y 8).list (nth y 9).list (nth y 10).int = true := fun x y hx hy => is_true ⟨by have a := dep_cell hx 8; have b := dep_cell hx 9; omega, typed_list ((typed_elem a6 hx).2 6 (by decide)), typed_list ((typed_elem a6 hx).2 7 (by decide)), typed_list ((typed_elem a6 hx).2 8 (by decide)), typed_list ((typed_elem a6 hx).2 9 (by decide)), typed_list ((typed_elem b6 hy).2 6 (by decide)), typed_list ((typed_elem b6 hy).2 7 (by decide)), typed_list ((typed_elem b6 hy).2 8 (by decide)), typed_list ((typed_elem b6 hy).2 9 (by decide))⟩
  have q7 : ∀ x y, x ∈ BA → y ∈ BA2 → qba_rc (nth x 0).int (nth x 1).int (nth x 2).bool (nth x 3).bool (nth x 4).list (nth x 5).list (nth x 6).list (nth x 7).list (nth x 8).int (nth y 0).int (nth y 1).int (nth y 2).bool (nth y 3).bool (nth y 4).list (nth y 5).list (nth y 6).list (nth y 7).list (nth y 8).int = true := fun x y hx hy => is_true ⟨by have a := dep_cell hx 6; have b := dep_cell hx 7; omega, typed_list ((typed_elem a7 hx).2 4 (by decide)), typed_list ((typed_elem a7 hx).2 5 (by decide)), typed_list ((typed_elem a7 hx).2 6 (by decide)), typed_list ((typed_elem a7 hx).2 7 (by decide)), typed_list ((typed_elem b7 hy).2 4 (by decide)), typed_list ((typed_elem b7 hy).2 5 (by decide)), typed_list ((typed_elem b7 hy).2 6 (by decide)), typed_list ((typed_elem b7 hy).2 7 (by decide))⟩
  have c4 : qn_c NA NA2 = true := is_true a4
  have c5 : qr_c NU NU2 = true := is_true a5
  have c6 : qa_c ME ME2 = true := is_true ⟨a6, fun x y hx hy => by simp only [qca_c, q6 x y hx hy, Bool.and_true, bif_same]⟩
  have c7 : qb_c BA BA2 = true := is_true ⟨a7, q7⟩
  have v4 : qn_v NA NA2 = eqL NA NA2 := allEq_eqL (E := E_9) (fun x y hx hy => by
    constructor
    · intro h
      have hh : (nth x 0).str = (nth y 0).str := by
        simpa [E_9] using h
      have e0 := hh
      have hx' := form_9 a4 hx
      have hy' := form_9 b4 hy
      rw [hx', hy', e0]
    · rintro rfl
      simp [E_9])
  have v5 : qr_v NU NU2 = eqL NU NU2 := allEq_eqL (E := E_2) (fun x y hx hy => by
    constructor
    · intro h
      have hh : (nth x 0).int = (nth y 0).int := by
        simpa [E_2] using h
      have e0 := hh
      have hx' := form_2 a5 hx
      have hy' := form_2 b5 hy
      rw [hx', hy', e0]
    · rintro rfl
      simp [E_2])
  have v6 : qa_v ME ME2 = eqL ME ME2 := allEq_eqL (E := qa_E) (fun x y hx hy => by
    constructor
    · intro h
      have hh : (nth x 0).str = (nth y 0).str ∧ (nth x 1).int = (nth y 1).int ∧ (nth x 2).int = (nth y 2).int ∧ (nth x 3).int = (nth y 3).int ∧ (nth x 4).bool = (nth y 4).bool ∧ (nth x 5).bool = (nth y 5).bool ∧ (nth x 6).list = (nth y 6).list ∧ (nth x 7).list = (nth y 7).list ∧ (nth x 8).list = (nth y 8).list ∧ (nth x 9).list = (nth y 9).list ∧ (nth x 10).int = (nth y 10).int := by
        have h : (bif ((nth x 0).str == (nth y 0).str) then (bif ((nth x 1).int == (nth y 1).int) then sameV (nth x 2).int (nth x 3).int (nth x 4).bool (nth x 5).bool (nth x 6).list (nth x 7).list (nth x 8).list (nth x 9).list (nth x 10).int (nth y 2).int (nth y 3).int (nth y 4).bool (nth y 5).bool (nth y 6).list (nth y 7).list (nth y 8).list (nth y 9).list (nth y 10).int else false) else false) = true := h
        simp only [bif_ft, sameV, Bool.and_eq_true, beq_iff_eq, eqL_iff] at h
        obtain ⟨n, o, h⟩ := h
        exact ⟨n, o, h.1, h.2.1, h.2.2.1, h.2.2.2.1, h.2.2.2.2.2.1, h.2.2.2.2.2.2.1, h.2.2.2.2.2.2.2.1, h.2.2.2.2.2.2.2.2, h.2.2.2.2.1⟩
      obtain ⟨e0, e1, e2, e3, e4, e5, e6, e7, e8, e9, e10⟩ := hh
      have hx' := form_71 a6 hx
      have hy' := form_71 b6 hy
      rw [hx', hy', e0, e1, e2, e3, e4, e5, e6, e7, e8, e9, e10]
    · rintro rfl
      show (bif ((nth x 0).str == (nth x 0).str) then (bif ((nth x 1).int == (nth x 1).int) then sameV (nth x 2).int (nth x 3).int (nth x 4).bool (nth x 5).bool (nth x 6).list (nth x 7).list (nth x 8).list (nth x 9).list (nth x 10).int (nth x 2).int (nth x 3).int (nth x 4).bool (nth x 5).bool (nth x 6).list (nth x 7).list (nth x 8).list (nth x 9).list (nth x 10).int else false) else false) = true
      simp [sameV, eqL_refl])
  have v7 : qb_v BA BA2 = eqL BA BA2 := allEq_eqL (E := qb_E) (fun x y hx hy => by
    constructor
    · intro h
      have hh : (nth x 0).int = (nth y 0).int ∧ (nth x 1).int = (nth y 1).int ∧ (nth x 2).bool = (nth y 2).bool ∧ (nth x 3).bool = (nth y 3).bool ∧ (nth x 4).list = (nth y 4).list ∧ (nth x 5).list = (nth y 5).list ∧ (nth x 6).list = (nth y 6).list ∧ (nth x 7).list = (nth y 7).list ∧ (nth x 8).int = (nth y 8).int := by
        have h : sameV (nth x 0).int (nth x 1).int (nth x 2).bool (nth x 3).bool (nth x 4).list (nth x 5).list (nth x 6).list (nth x 7).list (nth x 8).int (nth y 0).int (nth y 1).int (nth y 2).bool (nth y 3).bool (nth y 4).list (nth y 5).list (nth y 6).list (nth y 7).list (nth y 8).int = true := h
        simp only [sameV, Bool.and_eq_true, beq_iff_eq, eqL_iff] at h
        exact ⟨h.1, h.2.1, h.2.2.1, h.2.2.2.1, h.2.2.2.2.2.1, h.2.2.2.2.2.2.1, h.2.2.2.2.2.2.2.1, h.2.2.2.2.2.2.2.2, h.2.2.2.2.1⟩
      obtain ⟨e0, e1, e2, e3, e4, e5, e6, e7, e8⟩ := hh
      have hx' := form_32 a7 hx
      have hy' := form_32 b7 hy
      rw [hx', hy', e0, e1, e2, e3, e4, e5, e6, e7, e8]
    · rintro rfl
      show sameV (nth x 0).int (nth x 1).int (nth x 2).bool (nth x 3).bool (nth x 4).list (nth x 5).list (nth x 6).list (nth x 7).list (nth x 8).int (nth x 0).int (nth x 1).int (nth x 2).bool (nth x 3).bool (nth x 4).list (nth x 5).list (nth x 6).list (nth x 7).list (nth x 8).int = true
      simp [sameV, eqL_refl])
  constructor
  · unfold qba_c
    simp only [c4, c5, c6, c7, Bool.true_and, Bool.and_true, bif_same]
  · unfold qba_v sameV
    rw [v4, v5, v6, v7]
    simp only [bif_ft]
theorem qba_nxr (k s : Int) (sg bg : Bool) (NA NU ME BA : LL) (ct k2 s2 : Int) (sg2 bg2 : Bool) (NA2 NU2 ME2 BA2 : LL) (ct2 : Int) : qba_rc (i_impl_SameType := ⟨qba_O.n + 1⟩) k s sg bg NA NU ME BA ct k2 s2 sg2 bg2 NA2 NU2 ME2 BA2 ct2 = true → (qba_c k s sg bg NA NU ME BA ct k2 s2 sg2 bg2 NA2 NU2 ME2 BA2 ct2) = true ∧ (qba_v k s sg bg NA NU ME BA ct k2 s2 sg2 bg2 NA2 NU2 ME2 BA2 ct2) = (qba_rv k s sg bg NA NU ME BA ct k2 s2 sg2 bg2 NA2 NU2 ME2 BA2 ct2) := fun h => qba_nx k s sg bg NA NU ME BA ct k2 s2 sg2 bg2 NA2 NU2 ME2 BA2 ct2 h
theorem qba_rs : ∀ xs r, qba_rS (i_impl_SameType := ⟨qba_O.n + 1⟩) xs = some (true, r) → runF tab FT D38 live 102 noLoops xs = some r := by
  intro xs r h
  unfold qba_rS at h
  split at h
  · simp only [Option.some.injEq, Prod.mk.injEq] at h
    obtain ⟨h1, rfl⟩ := h
    have hx := qba_nxr _ _ _ _ _ _ _ _ _ _ _ _ _ _ _ _ _ _ h1
    have ht := fun_told (qba_e _ _ _ _ _ _ _ _ _ _ _ _ _ _ _ _ _ _) (qba_l _ _ _ _ _ _ _ _ _ _ _ _ _ _ _ _ _ _) hx.1
    rw [hx.2] at ht
    exact ht
  · cases h
theorem qba_step : qba_G (i_impl_SameType := ⟨qba_O.n + 1⟩) := by
  have h := DOk.also2 (S := qba_rS (i_impl_SameType := ⟨qba_O.n + 1⟩)) mixed_ok tab_ok names_ok d34 d38 noLoops_ok qba_rs
  refine qba_G.mk (i_impl_SameType := ⟨qba_O.n + 1⟩) ?_
  exact h
abbrev qi_2_σ := LL × Int × Int × Int
abbrev qi_2_ω := (Int) ⊕ (Unit)
noncomputable def qi_2_step (A : LL) (v m i : Int) : Tr (qi_2_σ ⊕ qi_2_ω) := (.ite ((decide (i < m)) = true) (.ite ((0 : Int) ≤ i ∧ i < (A.length : Int)) (.ite ((v == (nth (row A i) 0).int) = true) (.ok (.inr (.inl i)))
    (.ok (.inl (A, v, m, (IntKind.wrap .i64 (i + (1 : Int)))))))
   .no)
  (.ok (.inr (.inr ()))))
noncomputable def qi_2_st : qi_2_σ → Tr (qi_2_σ ⊕ qi_2_ω) := fun x => (qi_2_step (x.1) (x.2.1) (x.2.2.1) (x.2.2.2))
noncomputable def qi_k2_1 (A : LL) (v m i : Int) : Bool := A.all (fun x => !(v == (nth x 0).int))
noncomputable def qi_o2_2 (A : LL) (v m i : Int) : Bool := is (i = 0 ∧ A.length ≤ 140737488351232 ∧ m = (A.length : Int))
noncomputable def qi_o2_3 (A : LL) (v m i : Int) : Bool := is (i = 0 ∧ A.length ≤ 140737488351232 ∧ m = (A.length : Int))
noncomputable def qi_u2_3 (A : LL) (v m i : Int) : Int := (Int.ofNat (A.findIdx fun x => !(fun x => !(v == (nth x 0).int)) x))
noncomputable def qi_2_fin (A : LL) (v m i : Int) : Told qi_2_ω := (.br (qi_k2_1 A v m i) (.leaf (qi_o2_2 A v m i) (.inr ())) (.leaf (qi_o2_3 A v m i) (.inl (qi_u2_3 A v m i))))
def qi_2_sl (x : qi_2_σ) : List Slot := [⟨.val false [⟨.slice 2, .sh, TC.l (x.1)⟩], ⟨0, 0⟩⟩, ⟨.val false [⟨.int .i64, .sh, TC.i (x.2.1)⟩], ⟨0, 0⟩⟩, ⟨.val false [⟨.int .i64, .sh, TC.i (x.2.2.1)⟩], ⟨0, 0⟩⟩, ⟨.val false [⟨.int .i64, .sh, TC.i (x.2.2.2)⟩], ⟨0, 0⟩⟩]
def qi_2_out : qi_2_ω → Ex × List Slot := (Sum.elim (fun x => (.ret, [⟨.val false [⟨.int .i64, .sh, TC.i x⟩], ⟨0, 0⟩⟩])) (fun x => (.exit 0, [Slot.none])))
noncomputable def qi_lo2 : List Slot → Option (Told (Ex × List Slot)) := fun s => match s with
  | [⟨.val false [⟨.slice 2, .sh, TC.l A⟩], ⟨0, 0⟩⟩, ⟨.val false [⟨.int .i64, .sh, TC.i v⟩], ⟨0, 0⟩⟩, ⟨.val false [⟨.int .i64, .sh, TC.i m⟩], ⟨0, 0⟩⟩, ⟨.val false [⟨.int .i64, .sh, TC.i i⟩], ⟨0, 0⟩⟩] => some (((qi_2_fin A v m i)).map qi_2_out)
  | _ => .none
noncomputable def qi_lo : LoopTeller := fun r s => bif Nat.beq r 2 then qi_lo2 s else .none
theorem qi_2_r (A : LL) (v m i : Int) (fuel : Nat) : rounds (rnd tab FT D38 live 150 qi_lo 0 2) leave (fuel + 1) (qi_2_sl (A, v, m, i)) = ((qi_2_step A v m i)).run (goOn (fun s => rounds (rnd tab FT D38 live 150 qi_lo 0 2) leave fuel (qi_2_sl s)) fun w => some (qi_2_out w)) := by kernel_rfl
theorem qi_2_h (A : LL) (v m i : Int) (ow : qi_2_ω) : ((qi_2_fin A v m i)).val = some ow → ∃ fuel, loopN qi_2_st fuel (A, v, m, i) = some ow := by
  intro h
  have key : A.length ≤ 140737488351232 → loopN qi_2_st (A.length + 1) (A, v, (A.length : Int), (0 : Int)) = some (if A.all (fun x => !(v == (nth x 0).int)) = true then (.inr ()) else (.inl (Int.ofNat (A.findIdx fun x => !(fun x => !(v == (nth x 0).int)) x)))) := by
    intro ht
    have hlen : A.length ≤ 140737488351232 := ht
    have key := loopN_scan (step := qi_2_st) A [] (fun x => !(v == (nth x 0).int)) (fun a _ => a) (fun i a => (A, v, (A.length : Int), (i : Int))) (fun a => (.inr ())) (fun i a => (.inl (i : Int))) (fun i a hi => ?_) (fun a => ?_) A.length 0 () (by omega)
    · first | (rw [Nat.zero_add] at key; exact key) | exact key
    · skip
      show (qi_2_step A v (A.length : Int) (i : Int)).val = _
      unfold qi_2_step
      refine Tr.t (by simp; omega) ?_
      skip
      refine Tr.t (by first | omega | (constructor <;> omega)) ?_
      refine Tr.b2 (fun hP => ?_) (fun _ => rfl)
      rw [Tr.val_ok, wrap64 (i := (i : Int) + 1) (by omega) (by omega)]; rfl
    · show (qi_2_step A v (A.length : Int) (A.length : Int)).val = _
      refine Tr.n (by simp) ?_
      rfl
  simp only [qi_2_fin, Told.val] at h
  cases hk : A.all (fun x => !(v == (nth x 0).int)) with
  | true =>
    rw [if_pos (show qi_k2_1 A v m i = true from hk)] at h
    split at h
    · rename_i ho
      obtain ⟨rfl, ht, rfl⟩ := is_iff.1 ho
      cases h
      refine ⟨_, (key ht).trans ?_⟩
      rw [hk]; rfl
    · cases h
  | false =>
    rw [if_neg (show ¬qi_k2_1 A v m i = true from by rw [show qi_k2_1 A v m i = (A.all (fun x => !(v == (nth x 0).int))) from rfl, hk]; simp)] at h
    split at h
    · rename_i ho
      obtain ⟨rfl, ht, rfl⟩ := is_iff.1 ho
      cases h
      refine ⟨_, (key ht).trans ?_⟩
      rw [hk]; rfl
    · cases h
theorem qi_is2 : LoopIs tab FT D38 live 150 qi_lo 0 2 := by
  refine loop_told (sl := qi_2_sl) (step := qi_2_st) (out := qi_2_out) (lor := qi_lo2) (fin := fun x => (qi_2_fin (x.1) (x.2.1) (x.2.2.1) (x.2.2.2))) (fun _ => rfl) ?_ (fun x n => qi_2_r x.1 x.2.1 x.2.2.1 x.2.2.2 n) (fun x ow => qi_2_h x.1 x.2.1 x.2.2.1 x.2.2.2 ow)
  intro s t h
  unfold qi_lo2 at h
  split at h
  · cases h; exact ⟨(_, _, _, _), rfl, rfl⟩
  · cases h
noncomputable def qi_t (A : LL) (v : Int) : Tr (Int) := (.ite ((qi_k2_1 A v (A.length : Int) (0 : Int)) = true) (.ite ((qi_o2_2 A v (A.length : Int) (0 : Int)) = true) (.ok (-1 : Int))
   .no)
  (.ite ((qi_o2_3 A v (A.length : Int) (0 : Int)) = true) (.ok (qi_u2_3 A v (A.length : Int) (0 : Int)))
   .no))
def qi_mk (p : Int) : Res := [(false, [⟨.int .i64, .sh, TC.i p⟩])]
noncomputable def qi_c (A : LL) (v : Int) : Bool := (bif (qi_k2_1 A v (A.length : Int) (0 : Int)) then ((qi_o2_2 A v (A.length : Int) (0 : Int)) && true) else ((qi_o2_3 A v (A.length : Int) (0 : Int)) && true))
noncomputable def qi_v (A : LL) (v : Int) : Int := (bif (qi_k2_1 A v (A.length : Int) (0 : Int)) then (-1 : Int) else (qi_u2_3 A v (A.length : Int) (0 : Int)))
theorem qi_l (A : LL) (v : Int) : (qi_c A v) = true → (qi_t A v).val = some (qi_v A v) := by
  unfold qi_t qi_v qi_c
  exact fun h => (Tr.ss h (fun h => (Tr.gb h fun h => rfl)) (fun h => (Tr.gb h fun h => rfl)))
noncomputable def qi_S : List Arg → Option (Bool × Res) := fun xs => match xs with
  | [(false, [(.slice 2, TC.l A)]), (false, [(.int .i64, TC.i v)])] => some ((qi_c A v), qi_mk (qi_v A v))
  | _ => .none
theorem qi_e (A : LL) (v : Int) : runF tab FT D38 live 150 qi_lo [(false, [(.slice 2, TC.l A)]), (false, [(.int .i64, TC.i v)])] = (qi_t A v).run fun p => some (qi_mk p) := by kernel_rfl
theorem qi_s : ∀ xs r, qi_S xs = some (true, r) → runF tab FT D38 live 150 qi_lo xs = some r := by
  intro xs r h
  unfold qi_S at h
  split at h
  · simp only [Option.some.injEq, Prod.mk.injEq] at h
    obtain ⟨h1, rfl⟩ := h
    exact fun_told (qi_e _ _) (qi_l _ _) h1
  · cases h
noncomputable def D39 : Dt := also D38 150 qi_S
theorem d39 : DOk Go.Proofs.Try.prog tab D39 := d38.also mixed_ok tab_ok names_ok (fnLoops_one (by kernel_rfl) qi_is2) qi_s
theorem qi_cc {A : LL} {v : Int} (hl : A.length ≤ 140737488351232) : (qi_c A v) = true := by
  unfold qi_c
  refine bifT (fun b1 => ?_) (fun b1 => ?_)
  · skip
    refine andT (by exact is_true ⟨rfl, hl, rfl⟩) ?_
    rfl
  · skip
    refine andT (by exact is_true ⟨rfl, hl, rfl⟩) ?_
    rfl
noncomputable def qbt_t (a0 : LL) (a1 : Int) : Tr (Bool) := (.ite ((qi_c a0 a1) = true) (.ok (decide ((qi_v a0 a1) ≥ (0 : Int))))
  .no)
def qbt_mk (p : Bool) : Res := [(false, [⟨.bool, .sh, TC.b p⟩])]
noncomputable def qbt_c (a0 : LL) (a1 : Int) : Bool := (qi_c a0 a1)
noncomputable def qbt_v (a0 : LL) (a1 : Int) : Bool := (decide ((qi_v a0 a1) ≥ (0 : Int)))
theorem qbt_l (a0 : LL) (a1 : Int) : (qbt_c a0 a1) = true → (qbt_t a0 a1).val = some (qbt_v a0 a1) := by
  intro h
  have hc0 : (qi_c a0 a1) = true := h
  unfold qbt_t
  exact (Tr.t hc0 rfl)
noncomputable def qbt_S : List Arg → Option (Bool × Res) := fun xs => match xs with
  | [(false, [(.slice 2, TC.l a0)]), (false, [(.int .i64, TC.i a1)])] => some ((qbt_c a0 a1), qbt_mk (qbt_v a0 a1))
  | _ => .none
theorem qbt_e (a0 : LL) (a1 : Int) : runF tab FT D39 live 136 noLoops [(false, [(.slice 2, TC.l a0)]), (false, [(.int .i64, TC.i a1)])] = (qbt_t a0 a1).run fun p => some (qbt_mk p) := by kernel_rfl
theorem qbt_s : ∀ xs r, qbt_S xs = some (true, r) → runF tab FT D39 live 136 noLoops xs = some r := by
  intro xs r h
  unfold qbt_S at h
  split at h
  · simp only [Option.some.injEq, Prod.mk.injEq] at h
    obtain ⟨h1, rfl⟩ := h
    exact fun_told (qbt_e _ _) (qbt_l _ _) h1
  · cases h
noncomputable def D40 : Dt := also D39 136 qbt_S
theorem d40 : DOk Go.Proofs.Try.prog tab D40 := d39.also mixed_ok tab_ok names_ok noLoops_ok qbt_s
noncomputable def qbx_t (k s : Int) (sg bg : Bool) (NA NU ME BA : LL) (ct : Int) : Tr (Bool) := (.ite ((qbt_c [[TC.i (1 : Int)], [TC.i (2 : Int)], [TC.i (4 : Int)], [TC.i (8 : Int)]] s) = true) (.ite ((qbt_v [[TC.i (1 : Int)], [TC.i (2 : Int)], [TC.i (4 : Int)], [TC.i (8 : Int)]] s) = true) (.ite (sg = true) (.ite (bg = true) (.ok (!(s == (1 : Int))))
     (.ok true))
    (.ite ((decide (s < (8 : Int))) = true) (.ite (bg = true) (.ok (!(s == (1 : Int))))
      (.ok true))
     (.ok false)))
   (.ok false))
  .no)
def qbx_mk (p : Bool) : Res := [(false, [⟨.bool, .sh, TC.b p⟩])]
noncomputable def qbx_c (k s : Int) (sg bg : Bool) (NA NU ME BA : LL) (ct : Int) : Bool := ((qbt_c [[TC.i (1 : Int)], [TC.i (2 : Int)], [TC.i (4 : Int)], [TC.i (8 : Int)]] s) && (bif (qbt_v [[TC.i (1 : Int)], [TC.i (2 : Int)], [TC.i (4 : Int)], [TC.i (8 : Int)]] s) then (bif sg then (bif bg then true else true) else (bif (decide (s < (8 : Int))) then (bif bg then true else true) else true)) else true))
noncomputable def qbx_v (k s : Int) (sg bg : Bool) (NA NU ME BA : LL) (ct : Int) : Bool := (bif (qbt_v [[TC.i (1 : Int)], [TC.i (2 : Int)], [TC.i (4 : Int)], [TC.i (8 : Int)]] s) then (bif sg then (bif bg then (!(s == (1 : Int))) else true) else (bif (decide (s < (8 : Int))) then (bif bg then (!(s == (1 : Int))) else true) else false)) else false)
theorem qbx_l (k s : Int) (sg bg : Bool) (NA NU ME BA : LL) (ct : Int) : (qbx_c k s sg bg NA NU ME BA ct) = true → (qbx_t k s sg bg NA NU ME BA ct).val = some (qbx_v k s sg bg NA NU ME BA ct) := by
  unfold qbx_t qbx_v qbx_c
  exact fun h => (Tr.gb h fun h => (Tr.ss h (fun h => (Tr.ss h (fun h => (Tr.ss h (fun h => rfl) (fun h => rfl))) (fun h => (Tr.ss h (fun h => (Tr.ss h (fun h => rfl) (fun h => rfl))) (fun h => rfl))))) (fun h => rfl)))
noncomputable def qbx_S : List Arg → Option (Bool × Res) := fun xs => match xs with
  | [(true, [(.int .i64, TC.i k), (.int .i64, TC.i s), (.bool, TC.b sg), (.bool, TC.b bg), (.slice 9, TC.l NA), (.slice 2, TC.l NU), (.slice 71, TC.l ME), (.slice 32, TC.l BA), (.int .i64, TC.i ct)])] => some ((qbx_c k s sg bg NA NU ME BA ct), qbx_mk (qbx_v k s sg bg NA NU ME BA ct))
  | _ => .none
theorem qbx_e (k s : Int) (sg bg : Bool) (NA NU ME BA : LL) (ct : Int) : runF tab FT D40 live 104 noLoops [(true, [(.int .i64, TC.i k), (.int .i64, TC.i s), (.bool, TC.b sg), (.bool, TC.b bg), (.slice 9, TC.l NA), (.slice 2, TC.l NU), (.slice 71, TC.l ME), (.slice 32, TC.l BA), (.int .i64, TC.i ct)])] = (qbx_t k s sg bg NA NU ME BA ct).run fun p => some (qbx_mk p) := by kernel_rfl
theorem qbx_s : ∀ xs r, qbx_S xs = some (true, r) → runF tab FT D40 live 104 noLoops xs = some r := by
  intro xs r h
  unfold qbx_S at h
  split at h
  · simp only [Option.some.injEq, Prod.mk.injEq] at h
    obtain ⟨h1, rfl⟩ := h
    exact fun_told (qbx_e _ _ _ _ _ _ _ _ _) (qbx_l _ _ _ _ _ _ _ _ _) h1
  · cases h
noncomputable def D41 : Dt := also D40 104 qbx_S
theorem d41 : DOk Go.Proofs.Try.prog tab D41 := d40.also mixed_ok tab_ok names_ok noLoops_ok qbx_s
theorem qbx_cc1 (k s : Int) (sg bg : Bool) (NA NU ME BA : LL) (ct : Int) : qbx_c k s sg bg NA NU ME BA ct = true := by
  unfold qbx_c
  rw [show qbt_c [[TC.i (1 : Int)], [TC.i (2 : Int)], [TC.i (4 : Int)], [TC.i (8 : Int)]] s = true from qi_cc (by show 4 ≤ 140737488351232; omega)]
  simp only [bif_same, Bool.and_self]
theorem qbx_vv (k s : Int) (sg bg : Bool) (NA NU ME BA : LL) (ct : Int) : qbx_v k s sg bg NA NU ME BA ct = (has4 s && (!((s == 8) && !sg) && !((s == 1) && bg))) := by
  unfold qbx_v
  rw [show qbt_v [[TC.i (1 : Int)], [TC.i (2 : Int)], [TC.i (4 : Int)], [TC.i (8 : Int)]] s = has4 s from by
    show decide ((bif [[TC.i (1 : Int)], [TC.i (2 : Int)], [TC.i (4 : Int)], [TC.i (8 : Int)]].all (fun x => !(s == (nth x 0).int)) then -1 else Int.ofNat _) ≥ 0) = _
    rw [show [[TC.i (1 : Int)], [TC.i (2 : Int)], [TC.i (4 : Int)], [TC.i (8 : Int)]].all (fun x => !(s == (nth x 0).int)) = !(has4 s) from by
      show (!(s == (1 : Int)) && (!(s == (2 : Int)) && (!(s == (4 : Int)) && (!(s == (8 : Int)) && true)))) = _
      unfold has4
      cases (s == 1) <;> cases (s == 2) <;> cases (s == 4) <;> cases (s == 8) <;> rfl]
    cases has4 s <;> simp]
  cases h4 : has4 s with
  | false => rfl
  | true =>
    rw [show decide (s < 8) = !(s == 8) from by
      unfold has4 at h4
      simp only [Bool.or_eq_true, beq_iff_eq] at h4
      rcases h4 with ((rfl | rfl) | rfl) | rfl <;> decide]
    cases sg <;> cases (s == 8) <;> cases bg <;> cases (s == 1) <;> rfl
noncomputable def qcd_t (a0 a1 a2 : Int) : Tr (Bool) := (.ite ((decide (a0 ≥ a1)) = true) (.ok (decide (a0 ≤ a2)))
  (.ok false))
def qcd_mk (p : Bool) : Res := [(false, [⟨.bool, .sh, TC.b p⟩])]
noncomputable def qcd_c (a0 a1 a2 : Int) : Bool := true
noncomputable def qcd_v (a0 a1 a2 : Int) : Bool := (bif (decide (a0 ≥ a1)) then (decide (a0 ≤ a2)) else false)
theorem qcd_l (a0 a1 a2 : Int) : (qcd_c a0 a1 a2) = true → (qcd_t a0 a1 a2).val = some (qcd_v a0 a1 a2) := by
  intro h
  skip
  unfold qcd_t qcd_v
  exact (Tr.s rfl rfl)
noncomputable def qcd_S : List Arg → Option (Bool × Res) := fun xs => match xs with
  | [(false, [(.int .i64, TC.i a0)]), (false, [(.int .i64, TC.i a1)]), (false, [(.int .i64, TC.i a2)])] => some (true, qcd_mk (qcd_v a0 a1 a2))
  | _ => .none
theorem qcd_e (a0 a1 a2 : Int) : runF tab FT D41 live 105 noLoops [(false, [(.int .i64, TC.i a0)]), (false, [(.int .i64, TC.i a1)]), (false, [(.int .i64, TC.i a2)])] = (qcd_t a0 a1 a2).run fun p => some (qcd_mk p) := by kernel_rfl
theorem qcd_s : ∀ xs r, qcd_S xs = some (true, r) → runF tab FT D41 live 105 noLoops xs = some r := by
  intro xs r h
  unfold qcd_S at h
  split at h
  · simp only [Option.some.injEq, Prod.mk.injEq] at h
    obtain ⟨h1, rfl⟩ := h
    exact fun_told (qcd_e _ _ _) (qcd_l _ _ _) rfl
  · cases h
noncomputable def D42 : Dt := also D41 105 qcd_S
theorem d42 : DOk Go.Proofs.Try.prog tab D42 := d41.also mixed_ok tab_ok names_ok noLoops_ok qcd_s
section
class qw_O where n : Nat
variable [i_impl_Type_valid : qw_O]
noncomputable def qw_rc (k s : Int) (sg bg : Bool) (NA NU ME BA : LL) (ct d : Int) : Bool := is (max (rowsDep ME) (rowsDep BA) < qw_O.n ∧ d ≤ 3 ∧ max (rowsDep ME) (rowsDep BA) < qba_O.n ∧ max (rowsDep ME) (rowsDep BA) < qy_O.n ∧ Typed tab (.slice 9) (.l NA) ∧ Typed tab (.slice 2) (.l NU) ∧ Typed tab (.slice 71) (.l ME) ∧ Typed tab (.slice 32) (.l BA))
noncomputable def qw_rv (k s : Int) (sg bg : Bool) (NA NU ME BA : LL) (ct d : Int) : Bool := validV k s sg bg NA NU ME BA ct d
def qw_rmk (p : Bool) : Res := [(false, [⟨.bool, .sh, TC.b p⟩])]
noncomputable def qw_rS : List Arg → Option (Bool × Res) := fun xs => match xs with
  | [(true, [(.int .i64, TC.i k), (.int .i64, TC.i s), (.bool, TC.b sg), (.bool, TC.b bg), (.slice 9, TC.l NA), (.slice 2, TC.l NU), (.slice 71, TC.l ME), (.slice 32, TC.l BA), (.int .i64, TC.i ct)]), (false, [(.int .i64, TC.i d)])] => some ((qw_rc k s sg bg NA NU ME BA ct d), qw_rmk (qw_rv k s sg bg NA NU ME BA ct d))
  | _ => .none
noncomputable def D43 : Dt := also D42 73 qw_rS
class qw_G : Prop where ok : DOk Go.Proofs.Try.prog tab D43
variable [g_impl_Type_valid : qw_G]
theorem d43 : DOk Go.Proofs.Try.prog tab D43 := qw_G.ok
noncomputable def qbr_t (k s : Int) (sg bg : Bool) (NA NU ME BA : LL) (ct : Int) : Tr (Int × Int) := (.ite (sg = true) (.ite (0 ≤ (IntKind.wrap .i64 ((IntKind.wrap .i64 ((8 : Int) * s)) - (1 : Int)))) (.ite (0 ≤ (IntKind.wrap .i64 ((IntKind.wrap .i64 ((8 : Int) * s)) - (1 : Int)))) (.ok ((IntKind.wrap .i64 ((-1 : Int) * (2 ^ (min ((IntKind.wrap .i64 ((IntKind.wrap .i64 ((8 : Int) * s)) - (1 : Int)))).toNat 64)))), (IntKind.wrap .i64 ((IntKind.wrap .i64 ((1 : Int) * (2 ^ (min ((IntKind.wrap .i64 ((IntKind.wrap .i64 ((8 : Int) * s)) - (1 : Int)))).toNat 64)))) - (1 : Int)))))
    .no)
   .no)
  (.ite (0 ≤ (IntKind.wrap .i64 ((8 : Int) * s))) (.ok ((0 : Int), (IntKind.wrap .i64 ((IntKind.wrap .i64 ((1 : Int) * (2 ^ (min ((IntKind.wrap .i64 ((8 : Int) * s))).toNat 64)))) - (1 : Int)))))
   .no))
def qbr_mk (p : Int × Int) : Res := [(false, [⟨.int .i64, .sh, TC.i (p.1)⟩]), (false, [⟨.int .i64, .sh, TC.i (p.2)⟩])]
noncomputable def qbr_c (k s : Int) (sg bg : Bool) (NA NU ME BA : LL) (ct : Int) : Bool := (bif sg then (is (0 ≤ (IntKind.wrap .i64 ((IntKind.wrap .i64 ((8 : Int) * s)) - (1 : Int)))) && (is (0 ≤ (IntKind.wrap .i64 ((IntKind.wrap .i64 ((8 : Int) * s)) - (1 : Int)))) && true)) else (is (0 ≤ (IntKind.wrap .i64 ((8 : Int) * s))) && true))
noncomputable def qbr_v (k s : Int) (sg bg : Bool) (NA NU ME BA : LL) (ct : Int) : Int × Int := (bif sg then ((IntKind.wrap .i64 ((-1 : Int) * (2 ^ (min ((IntKind.wrap .i64 ((IntKind.wrap .i64 ((8 : Int) * s)) - (1 : Int)))).toNat 64)))), (IntKind.wrap .i64 ((IntKind.wrap .i64 ((1 : Int) * (2 ^ (min ((IntKind.wrap .i64 ((IntKind.wrap .i64 ((8 : Int) * s)) - (1 : Int)))).toNat 64)))) - (1 : Int)))) else ((0 : Int), (IntKind.wrap .i64 ((IntKind.wrap .i64 ((1 : Int) * (2 ^ (min ((IntKind.wrap .i64 ((8 : Int) * s))).toNat 64)))) - (1 : Int)))))
theorem qbr_l (k s : Int) (sg bg : Bool) (NA NU ME BA : LL) (ct : Int) : (qbr_c k s sg bg NA NU ME BA ct) = true → (qbr_t k s sg bg NA NU ME BA ct).val = some (qbr_v k s sg bg NA NU ME BA ct) := by
  unfold qbr_t qbr_v qbr_c
  exact fun h => (Tr.ss h (fun h => (Tr.gs h fun h => (Tr.gs h fun h => rfl))) (fun h => (Tr.gs h fun h => rfl)))
noncomputable def qbr_S : List Arg → Option (Bool × Res) := fun xs => match xs with
  | [(true, [(.int .i64, TC.i k), (.int .i64, TC.i s), (.bool, TC.b sg), (.bool, TC.b bg), (.slice 9, TC.l NA), (.slice 2, TC.l NU), (.slice 71, TC.l ME), (.slice 32, TC.l BA), (.int .i64, TC.i ct)])] => some ((qbr_c k s sg bg NA NU ME BA ct), qbr_mk (qbr_v k s sg bg NA NU ME BA ct))
  | _ => .none
theorem qbr_e (k s : Int) (sg bg : Bool) (NA NU ME BA : LL) (ct : Int) : runF tab FT D43 live 113 noLoops [(true, [(.int .i64, TC.i k), (.int .i64, TC.i s), (.bool, TC.b sg), (.bool, TC.b bg), (.slice 9, TC.l NA), (.slice 2, TC.l NU), (.slice 71, TC.l ME), (.slice 32, TC.l BA), (.int .i64, TC.i ct)])] = (qbr_t k s sg bg NA NU ME BA ct).run fun p => some (qbr_mk p) := by kernel_rfl
theorem qbr_s : ∀ xs r, qbr_S xs = some (true, r) → runF tab FT D43 live 113 noLoops xs = some r := by
  intro xs r h
  unfold qbr_S at h
  split at h
  · simp only [Option.some.injEq, Prod.mk.injEq] at h
    obtain ⟨h1, rfl⟩ := h
    exact fun_told (qbr_e _ _ _ _ _ _ _ _ _) (qbr_l _ _ _ _ _ _ _ _ _) h1
  · cases h
noncomputable def D44 : Dt := also D43 113 qbr_S
theorem d44 : DOk Go.Proofs.Try.prog tab D44 := d43.also mixed_ok tab_ok names_ok noLoops_ok qbr_s
theorem irange {k s : Int} {sg bg : Bool} {NA NU ME BA : LL} {ct : Int} (h : intV s sg bg NA NU ME BA ct = true) : qbr_c k s sg bg NA NU ME BA ct = true ∧ (qbr_v k s sg bg NA NU ME BA ct).1 = loV s sg ∧ (qbr_v k s sg bg NA NU ME BA ct).2 = hiV s sg := by
  unfold intV has4 at h
  simp only [Bool.and_eq_true, Bool.or_eq_true, beq_iff_eq] at h
  have hs := h.1.1.1
  have h8 := h.1.1.2
  rcases hs with ((rfl | rfl) | rfl) | rfl <;> cases sg <;> first | (exact ⟨by unfold qbr_c; first | exact andT (is_true (by decide)) (andT (is_true (by decide)) rfl) | exact andT (is_true (by decide)) rfl, by unfold qbr_v loV; decide, by unfold qbr_v hiV; decide⟩) | (exact absurd h8 (by decide))
noncomputable def qz_f2 (s : BS) (m i : Int) : (Unit) ⊕ ((BS) ⊕ (BS)) := (bif (decide (((s.getD (i).toNat 0).toNat : Int) ≥ (65 : Int))) then (bif (decide (((s.getD (i).toNat 0).toNat : Int) ≤ (90 : Int))) then (.inl ()) else (bif (decide (((s.getD (i).toNat 0).toNat : Int) ≥ (97 : Int))) then (bif (!(decide (((s.getD (i).toNat 0).toNat : Int) ≤ (122 : Int)))) then (bif (i == (0 : Int)) then (.inr (.inl s)) else (bif (decide (((s.getD (i).toNat 0).toNat : Int) < (48 : Int))) then (bif (!(((s.getD (i).toNat 0).toNat : Int) == (95 : Int))) then (.inr (.inl s)) else (.inl ())) else (bif (decide (((s.getD (i).toNat 0).toNat : Int) > (57 : Int))) then (bif (!(((s.getD (i).toNat 0).toNat : Int) == (95 : Int))) then (.inr (.inl s)) else (.inl ())) else (.inl ())))) else (.inl ())) else (bif (i == (0 : Int)) then (.inr (.inl s)) else (bif (decide (((s.getD (i).toNat 0).toNat : Int) < (48 : Int))) then (bif (!(((s.getD (i).toNat 0).toNat : Int) == (95 : Int))) then (.inr (.inl s)) else (.inl ())) else (bif (decide (((s.getD (i).toNat 0).toNat : Int) > (57 : Int))) then (bif (!(((s.getD (i).toNat 0).toNat : Int) == (95 : Int))) then (.inr (.inl s)) else (.inl ())) else (.inl ())))))) else (bif (decide (((s.getD (i).toNat 0).toNat : Int) ≥ (97 : Int))) then (bif (!(decide (((s.getD (i).toNat 0).toNat : Int) ≤ (122 : Int)))) then (bif (i == (0 : Int)) then (.inr (.inl s)) else (bif (decide (((s.getD (i).toNat 0).toNat : Int) < (48 : Int))) then (bif (!(((s.getD (i).toNat 0).toNat : Int) == (95 : Int))) then (.inr (.inl s)) else (.inl ())) else (bif (decide (((s.getD (i).toNat 0).toNat : Int) > (57 : Int))) then (bif (!(((s.getD (i).toNat 0).toNat : Int) == (95 : Int))) then (.inr (.inl s)) else (.inl ())) else (.inl ())))) else (.inl ())) else (bif (i == (0 : Int)) then (.inr (.inl s)) else (bif (decide (((s.getD (i).toNat 0).toNat : Int) < (48 : Int))) then (bif (!(((s.getD (i).toNat 0).toNat : Int) == (95 : Int))) then (.inr (.inl s)) else (.inl ())) else (bif (decide (((s.getD (i).toNat 0).toNat : Int) > (57 : Int))) then (bif (!(((s.getD (i).toNat 0).toNat : Int) == (95 : Int))) then (.inr (.inl s)) else (.inl ())) else (.inl ()))))))
noncomputable def qz_e2 (s : BS) (m : Int) : (BS) ⊕ (BS) := .inr s
noncomputable def qz_R2 (s : BS) (m i : Int) : (BS) ⊕ (BS) := iter (fun i a => (qz_f2 s m (i : Int))) (fun a => (qz_e2 s m)) (s.length) 0 ()
abbrev qz_2_σ := BS × Int × Int
abbrev qz_2_ω := (BS) ⊕ (BS)
noncomputable def qz_2_step (s : BS) (m i : Int) : Tr (qz_2_σ ⊕ qz_2_ω) := (.ite ((decide (i < m)) = true) (.ite ((0 : Int) ≤ i ∧ i < (s.length : Int)) (.ite ((decide (((s.getD (i).toNat 0).toNat : Int) ≥ (65 : Int))) = true) (.ite ((decide (((s.getD (i).toNat 0).toNat : Int) ≤ (90 : Int))) = true) (.ok (.inl (s, m, (IntKind.wrap .i64 (i + (1 : Int))))))
     (.ite ((decide (((s.getD (i).toNat 0).toNat : Int) ≥ (97 : Int))) = true) (.ite ((!(decide (((s.getD (i).toNat 0).toNat : Int) ≤ (122 : Int)))) = true) (.ite ((i == (0 : Int)) = true) (.ok (.inr (.inl s)))
        (.ite ((decide (((s.getD (i).toNat 0).toNat : Int) < (48 : Int))) = true) (.ite ((!(((s.getD (i).toNat 0).toNat : Int) == (95 : Int))) = true) (.ok (.inr (.inl s)))
          (.ok (.inl (s, m, (IntKind.wrap .i64 (i + (1 : Int)))))))
         (.ite ((decide (((s.getD (i).toNat 0).toNat : Int) > (57 : Int))) = true) (.ite ((!(((s.getD (i).toNat 0).toNat : Int) == (95 : Int))) = true) (.ok (.inr (.inl s)))
           (.ok (.inl (s, m, (IntKind.wrap .i64 (i + (1 : Int)))))))
          (.ok (.inl (s, m, (IntKind.wrap .i64 (i + (1 : Int)))))))))
       (.ok (.inl (s, m, (IntKind.wrap .i64 (i + (1 : Int)))))))
      (.ite ((i == (0 : Int)) = true) (.ok (.inr (.inl s)))
       (.ite ((decide (((s.getD (i).toNat 0).toNat : Int) < (48 : Int))) = true) (.ite ((!(((s.getD (i).toNat 0).toNat : Int) == (95 : Int))) = true) (.ok (.inr (.inl s)))
         (.ok (.inl (s, m, (IntKind.wrap .i64 (i + (1 : Int)))))))
        (.ite ((decide (((s.getD (i).toNat 0).toNat : Int) > (57 : Int))) = true) (.ite ((!(((s.getD (i).toNat 0).toNat : Int) == (95 : Int))) = true) (.ok (.inr (.inl s)))
          (.ok (.inl (s, m, (IntKind.wrap .i64 (i + (1 : Int)))))))
         (.ok (.inl (s, m, (IntKind.wrap .i64 (i + (1 : Int)))))))))))
    (.ite ((decide (((s.getD (i).toNat 0).toNat : Int) ≥ (97 : Int))) = true) (.ite ((!(decide (((s.getD (i).toNat 0).toNat : Int) ≤ (122 : Int)))) = true) (.ite ((i == (0 : Int)) = true) (.ok (.inr (.inl s)))
       (.ite ((decide (((s.getD (i).toNat 0).toNat : Int) < (48 : Int))) = true) (.ite ((!(((s.getD (i).toNat 0).toNat : Int) == (95 : Int))) = true) (.ok (.inr (.inl s)))
         (.ok (.inl (s, m, (IntKind.wrap .i64 (i + (1 : Int)))))))
        (.ite ((decide (((s.getD (i).toNat 0).toNat : Int) > (57 : Int))) = true) (.ite ((!(((s.getD (i).toNat 0).toNat : Int) == (95 : Int))) = true) (.ok (.inr (.inl s)))
          (.ok (.inl (s, m, (IntKind.wrap .i64 (i + (1 : Int)))))))
         (.ok (.inl (s, m, (IntKind.wrap .i64 (i + (1 : Int)))))))))
      (.ok (.inl (s, m, (IntKind.wrap .i64 (i + (1 : Int)))))))
     (.ite ((i == (0 : Int)) = true) (.ok (.inr (.inl s)))
      (.ite ((decide (((s.getD (i).toNat 0).toNat : Int) < (48 : Int))) = true) (.ite ((!(((s.getD (i).toNat 0).toNat : Int) == (95 : Int))) = true) (.ok (.inr (.inl s)))
        (.ok (.inl (s, m, (IntKind.wrap .i64 (i + (1 : Int)))))))
       (.ite ((decide (((s.getD (i).toNat 0).toNat : Int) > (57 : Int))) = true) (.ite ((!(((s.getD (i).toNat 0).toNat : Int) == (95 : Int))) = true) (.ok (.inr (.inl s)))
         (.ok (.inl (s, m, (IntKind.wrap .i64 (i + (1 : Int)))))))
        (.ok (.inl (s, m, (IntKind.wrap .i64 (i + (1 : Int)))))))))))
   .no)
  (.ok (.inr (.inr s))))
noncomputable def qz_2_st : qz_2_σ → Tr (qz_2_σ ⊕ qz_2_ω) := fun x => (qz_2_step (x.1) (x.2.1) (x.2.2))
noncomputable def qz_k2_1 (s : BS) (m i : Int) : Bool := sumIs (qz_R2 s m i)
noncomputable def qz_o2_2 (s : BS) (m i : Int) : Bool := is (i = 0 ∧ s.length ≤ 140737488355328 ∧ m = (s.length : Int))
noncomputable def qz_o2_3 (s : BS) (m i : Int) : Bool := is (i = 0 ∧ s.length ≤ 140737488355328 ∧ m = (s.length : Int))
noncomputable def qz_2_fin (s : BS) (m i : Int) : Told qz_2_ω := (.br (qz_k2_1 s m i) (.leaf (qz_o2_2 s m i) (.inl s)) (.leaf (qz_o2_3 s m i) (.inr s)))
def qz_2_sl (x : qz_2_σ) : List Slot := [⟨.val false [⟨.str, .sh, TC.s (x.1)⟩], ⟨0, 0⟩⟩, ⟨.val false [⟨.int .i64, .sh, TC.i (x.2.1)⟩], ⟨0, 0⟩⟩, ⟨.val false [⟨.int .i64, .sh, TC.i (x.2.2)⟩], ⟨0, 0⟩⟩]
def qz_2_out : qz_2_ω → Ex × List Slot := (Sum.elim (fun x => (.ret, [⟨.val false [⟨.str, .sh, TC.s x⟩], ⟨0, 0⟩⟩, ⟨.val false [⟨.bool, .sh, TC.b false⟩], ⟨0, 0⟩⟩])) (fun x => (.exit 0, [⟨.val false [⟨.str, .sh, TC.s x⟩], ⟨0, 0⟩⟩, Slot.none])))
noncomputable def qz_lo2 : List Slot → Option (Told (Ex × List Slot)) := fun s => match s with
  | [⟨.val false [⟨.str, .sh, TC.s s⟩], ⟨0, 0⟩⟩, ⟨.val false [⟨.int .i64, .sh, TC.i m⟩], ⟨0, 0⟩⟩, ⟨.val false [⟨.int .i64, .sh, TC.i i⟩], ⟨0, 0⟩⟩] => some (((qz_2_fin s m i)).map qz_2_out)
  | _ => .none
noncomputable def qz_lo : LoopTeller := fun r s => bif Nat.beq r 2 then qz_lo2 s else .none
theorem qz_2_r (s : BS) (m i : Int) (fuel : Nat) : rounds (rnd tab FT D44 live 151 qz_lo 0 2) leave (fuel + 1) (qz_2_sl (s, m, i)) = ((qz_2_step s m i)).run (goOn (fun s => rounds (rnd tab FT D44 live 151 qz_lo 0 2) leave fuel (qz_2_sl s)) fun w => some (qz_2_out w)) := by kernel_rfl
theorem qz_f2_eq (s : BS) (m i : Int) : qz_f2 s m i = bif nameB i ((s.getD (i).toNat 0).toNat : Int) then Sum.inl () else Sum.inr (Sum.inl s) := by
  unfold qz_f2 nameB letterB
  simp only [dlt, dgt]
  generalize ((s.getD i.toNat 0).toNat : Int) = c
  generalize decide (c ≥ 65) = p0, decide (c ≤ 90) = p1, decide (c ≥ 97) = p2, decide (c ≤ 122) = p3, decide (c ≥ 48) = p4, decide (c ≤ 57) = p5, (c == 95) = p6, (i == 0) = p7
  cases p0 <;> cases p1 <;> cases p2 <;> cases p3 <;> cases p4 <;> cases p5 <;> cases p6 <;> cases p7 <;> rfl
theorem qz_R2_eq (s : BS) (m : Int)  : qz_R2 s m 0 = bif allI (fun i : Nat => nameB (i : Int) ((s.getD ((i : Int)).toNat 0).toNat : Int)) (s.length) then Sum.inr s else (Sum.inl s) := by
  unfold qz_R2
  exact (iter_all (P := (fun i : Nat => nameB (i : Int) ((s.getD ((i : Int)).toNat 0).toNat : Int))) (g := fun _ a => a) (w := Sum.inl s) fun j a _ => qz_f2_eq s m _)
theorem qz_2_h (s : BS) (m i : Int) (ow : qz_2_ω) : ((qz_2_fin s m i)).val = some ow → ∃ fuel, loopN qz_2_st fuel (s, m, i) = some ow := by
  refine auto_const (R := (qz_R2 s m i)) rfl (iter_onR (f := (fun i a => (qz_f2 s m (i : Int)))) (fin := (fun a => (qz_e2 s m))) (Q := endsAs s s) (fun i a => by unfold qz_f2; exact (onR_bif (onR_bif trivial (onR_bif (onR_bif (onR_bif rfl (onR_bif (onR_bif rfl trivial) (onR_bif (onR_bif rfl trivial) trivial))) trivial) (onR_bif rfl (onR_bif (onR_bif rfl trivial) (onR_bif (onR_bif rfl trivial) trivial))))) (onR_bif (onR_bif (onR_bif rfl (onR_bif (onR_bif rfl trivial) (onR_bif (onR_bif rfl trivial) trivial))) trivial) (onR_bif rfl (onR_bif (onR_bif rfl trivial) (onR_bif (onR_bif rfl trivial) trivial)))))) (fun _ => rfl) _ _ _) ?_
  intro ho
  have ho : is (i = 0 ∧ s.length ≤ 140737488355328 ∧ m = (s.length : Int)) = true := ho.elim id id
  obtain ⟨rfl, hs, rfl⟩ := is_iff.1 ho
  skip
  refine ⟨(s.length) + 1, ?_⟩
  refine iter_loop (step := qz_2_st) (s.length) (fun i a => (qz_f2 s (s.length : Int) (i : Int))) (fun a => (qz_e2 s (s.length : Int))) (fun i a => (s, (s.length : Int), (i : Int))) (fun _ _ => True) trivial (fun i a hi hI => ⟨?_, fun _ _ => trivial⟩) (fun a hI => ?_)
  · show (qz_2_step s (s.length : Int) (i : Int)).val = _
    unfold qz_2_step qz_f2
    skip
    refine Tr.t (by simp; omega) ?_
    exact (Tr.t (by first | omega | (constructor <;> omega)) (Tr.bf (Tr.bf (by rw [Tr.val_ok, wrap64 (i := (i : Int) + 1) (by omega) (by omega)]; rfl) (Tr.bf (Tr.bf (Tr.bf rfl (Tr.bf (Tr.bf rfl (by rw [Tr.val_ok, wrap64 (i := (i : Int) + 1) (by omega) (by omega)]; rfl)) (Tr.bf (Tr.bf rfl (by rw [Tr.val_ok, wrap64 (i := (i : Int) + 1) (by omega) (by omega)]; rfl)) (by rw [Tr.val_ok, wrap64 (i := (i : Int) + 1) (by omega) (by omega)]; rfl)))) (by rw [Tr.val_ok, wrap64 (i := (i : Int) + 1) (by omega) (by omega)]; rfl)) (Tr.bf rfl (Tr.bf (Tr.bf rfl (by rw [Tr.val_ok, wrap64 (i := (i : Int) + 1) (by omega) (by omega)]; rfl)) (Tr.bf (Tr.bf rfl (by rw [Tr.val_ok, wrap64 (i := (i : Int) + 1) (by omega) (by omega)]; rfl)) (by rw [Tr.val_ok, wrap64 (i := (i : Int) + 1) (by omega) (by omega)]; rfl)))))) (Tr.bf (Tr.bf (Tr.bf rfl (Tr.bf (Tr.bf rfl (by rw [Tr.val_ok, wrap64 (i := (i : Int) + 1) (by omega) (by omega)]; rfl)) (Tr.bf (Tr.bf rfl (by rw [Tr.val_ok, wrap64 (i := (i : Int) + 1) (by omega) (by omega)]; rfl)) (by rw [Tr.val_ok, wrap64 (i := (i : Int) + 1) (by omega) (by omega)]; rfl)))) (by rw [Tr.val_ok, wrap64 (i := (i : Int) + 1) (by omega) (by omega)]; rfl)) (Tr.bf rfl (Tr.bf (Tr.bf rfl (by rw [Tr.val_ok, wrap64 (i := (i : Int) + 1) (by omega) (by omega)]; rfl)) (Tr.bf (Tr.bf rfl (by rw [Tr.val_ok, wrap64 (i := (i : Int) + 1) (by omega) (by omega)]; rfl)) (by rw [Tr.val_ok, wrap64 (i := (i : Int) + 1) (by omega) (by omega)]; rfl)))))))
  · show (qz_2_step s (s.length : Int) (s.length : Int)).val = _
    refine Tr.n (by first | (simp; done) | (simp; omega) | omega) ?_
    rfl
theorem qz_is2 : LoopIs tab FT D44 live 151 qz_lo 0 2 := by
  refine loop_told (sl := qz_2_sl) (step := qz_2_st) (out := qz_2_out) (lor := qz_lo2) (fin := fun x => (qz_2_fin (x.1) (x.2.1) (x.2.2))) (fun _ => rfl) ?_ (fun x n => qz_2_r x.1 x.2.1 x.2.2 n) (fun x ow => qz_2_h x.1 x.2.1 x.2.2 ow)
  intro s t h
  unfold qz_lo2 at h
  split at h
  · cases h; exact ⟨(_, _, _), rfl, rfl⟩
  · cases h
noncomputable def qz_t (s : BS) : Tr (Bool) := (.ite ((qz_k2_1 s (s.length : Int) (0 : Int)) = true) (.ite ((qz_o2_2 s (s.length : Int) (0 : Int)) = true) (.ok false)
   .no)
  (.ite ((qz_o2_3 s (s.length : Int) (0 : Int)) = true) (.ite ((decide ((s.length : Int) ≥ (1 : Int))) = true) (.ok (decide ((s.length : Int) ≤ (12 : Int))))
    (.ok false))
   .no))
def qz_mk (p : Bool) : Res := [(false, [⟨.bool, .sh, TC.b p⟩])]
noncomputable def qz_c (s : BS) : Bool := (bif (qz_k2_1 s (s.length : Int) (0 : Int)) then ((qz_o2_2 s (s.length : Int) (0 : Int)) && true) else ((qz_o2_3 s (s.length : Int) (0 : Int)) && (bif (decide ((s.length : Int) ≥ (1 : Int))) then true else true)))
noncomputable def qz_v (s : BS) : Bool := (bif (qz_k2_1 s (s.length : Int) (0 : Int)) then false else (bif (decide ((s.length : Int) ≥ (1 : Int))) then (decide ((s.length : Int) ≤ (12 : Int))) else false))
theorem qz_l (s : BS) : (qz_c s) = true → (qz_t s).val = some (qz_v s) := by
  unfold qz_t qz_v qz_c
  exact fun h => (Tr.ss h (fun h => (Tr.gb h fun h => rfl)) (fun h => (Tr.gb h fun h => (Tr.ss h (fun h => rfl) (fun h => rfl)))))
noncomputable def qz_S : List Arg → Option (Bool × Res) := fun xs => match xs with
  | [(false, [(.str, TC.s s)])] => some ((qz_c s), qz_mk (qz_v s))
  | _ => .none
theorem qz_e (s : BS) : runF tab FT D44 live 151 qz_lo [(false, [(.str, TC.s s)])] = (qz_t s).run fun p => some (qz_mk p) := by kernel_rfl
theorem qz_s : ∀ xs r, qz_S xs = some (true, r) → runF tab FT D44 live 151 qz_lo xs = some r := by
  intro xs r h
  unfold qz_S at h
  split at h
  · simp only [Option.some.injEq, Prod.mk.injEq] at h
    obtain ⟨h1, rfl⟩ := h
    exact fun_told (qz_e _) (qz_l _) h1
  · cases h
noncomputable def D45 : Dt := also D44 151 qz_S
theorem d45 : DOk Go.Proofs.Try.prog tab D45 := d44.also mixed_ok tab_ok names_ok (fnLoops_one (by kernel_rfl) qz_is2) qz_s
theorem qz_cc {s : BS} (hs : Typed tab (.str) (.s s)) : (qz_c s) = true := by
  unfold qz_c
  refine bifT (fun b1 => ?_) (fun b1 => ?_)
  · skip
    refine andT (by exact is_true ⟨rfl, by have := typed_str_len hs; omega, rfl⟩) ?_
    rfl
  · skip
    refine andT (by exact is_true ⟨rfl, by have := typed_str_len hs; omega, rfl⟩) ?_
    refine bifT (fun b2 => ?_) (fun b2 => ?_)
    · skip
      rfl
    · skip
      rfl
theorem qz_vv (s : BS) : qz_v s = nameOk s := by
  unfold qz_v qz_k2_1 nameOk
  rw [qz_R2_eq]
  generalize allI (fun i : Nat => nameB (i : Int) ((s.getD ((i : Int)).toNat 0).toNat : Int)) s.length = q
  cases q
  · simp [sumIs]
  · show (bif decide ((s.length : Int) ≥ 1) then decide ((s.length : Int) ≤ 12) else false) = (decide ((s.length : Int) ≥ 1) && decide ((s.length : Int) ≤ 12) && true)
    generalize decide ((s.length : Int) ≥ 1) = q1, decide ((s.length : Int) ≤ 12) = q2
    cases q1 <;> cases q2 <;> rfl
abbrev qj_2_σ := LL × BS × Int × Int
abbrev qj_2_ω := (Int) ⊕ (Unit)
noncomputable def qj_2_step (A : LL) (s : BS) (m i : Int) : Tr (qj_2_σ ⊕ qj_2_ω) := (.ite ((decide (i < m)) = true) (.ite ((0 : Int) ≤ i ∧ i < (A.length : Int)) (.ite ((s == (nth (row A i) 0).str) = true) (.ok (.inr (.inl i)))
    (.ok (.inl (A, s, m, (IntKind.wrap .i64 (i + (1 : Int)))))))
   .no)
  (.ok (.inr (.inr ()))))
noncomputable def qj_2_st : qj_2_σ → Tr (qj_2_σ ⊕ qj_2_ω) := fun x => (qj_2_step (x.1) (x.2.1) (x.2.2.1) (x.2.2.2))
noncomputable def qj_k2_1 (A : LL) (s : BS) (m i : Int) : Bool := A.all (fun x => !(s == (nth x 0).str))
noncomputable def qj_o2_2 (A : LL) (s : BS) (m i : Int) : Bool := is (i = 0 ∧ Typed tab (.slice 9) (.l A) ∧ m = (A.length : Int))
noncomputable def qj_o2_3 (A : LL) (s : BS) (m i : Int) : Bool := is (i = 0 ∧ Typed tab (.slice 9) (.l A) ∧ m = (A.length : Int))
noncomputable def qj_u2_3 (A : LL) (s : BS) (m i : Int) : Int := (Int.ofNat (A.findIdx fun x => !(fun x => !(s == (nth x 0).str)) x))
noncomputable def qj_2_fin (A : LL) (s : BS) (m i : Int) : Told qj_2_ω := (.br (qj_k2_1 A s m i) (.leaf (qj_o2_2 A s m i) (.inr ())) (.leaf (qj_o2_3 A s m i) (.inl (qj_u2_3 A s m i))))
def qj_2_sl (x : qj_2_σ) : List Slot := [⟨.val false [⟨.slice 9, .sh, TC.l (x.1)⟩], ⟨0, 0⟩⟩, ⟨.val false [⟨.str, .sh, TC.s (x.2.1)⟩], ⟨0, 0⟩⟩, ⟨.val false [⟨.int .i64, .sh, TC.i (x.2.2.1)⟩], ⟨0, 0⟩⟩, ⟨.val false [⟨.int .i64, .sh, TC.i (x.2.2.2)⟩], ⟨0, 0⟩⟩]
def qj_2_out : qj_2_ω → Ex × List Slot := (Sum.elim (fun x => (.ret, [⟨.val false [⟨.int .i64, .sh, TC.i x⟩], ⟨0, 0⟩⟩])) (fun x => (.exit 0, [Slot.none])))
noncomputable def qj_lo2 : List Slot → Option (Told (Ex × List Slot)) := fun s => match s with
  | [⟨.val false [⟨.slice 9, .sh, TC.l A⟩], ⟨0, 0⟩⟩, ⟨.val false [⟨.str, .sh, TC.s s⟩], ⟨0, 0⟩⟩, ⟨.val false [⟨.int .i64, .sh, TC.i m⟩], ⟨0, 0⟩⟩, ⟨.val false [⟨.int .i64, .sh, TC.i i⟩], ⟨0, 0⟩⟩] => some (((qj_2_fin A s m i)).map qj_2_out)
  | _ => .none
noncomputable def qj_lo : LoopTeller := fun r s => bif Nat.beq r 2 then qj_lo2 s else .none
theorem qj_2_r (A : LL) (s : BS) (m i : Int) (fuel : Nat) : rounds (rnd tab FT D45 live 142 qj_lo 0 2) leave (fuel + 1) (qj_2_sl (A, s, m, i)) = ((qj_2_step A s m i)).run (goOn (fun s => rounds (rnd tab FT D45 live 142 qj_lo 0 2) leave fuel (qj_2_sl s)) fun w => some (qj_2_out w)) := by kernel_rfl
theorem qj_2_h (A : LL) (s : BS) (m i : Int) (ow : qj_2_ω) : ((qj_2_fin A s m i)).val = some ow → ∃ fuel, loopN qj_2_st fuel (A, s, m, i) = some ow := by
  intro h
  have key : Typed tab (.slice 9) (.l A) → loopN qj_2_st (A.length + 1) (A, s, (A.length : Int), (0 : Int)) = some (if A.all (fun x => !(s == (nth x 0).str)) = true then (.inr ()) else (.inl (Int.ofNat (A.findIdx fun x => !(fun x => !(s == (nth x 0).str)) x)))) := by
    intro ht
    have hlen : A.length ≤ 140737488351232 := by have := typed_room ht; simp only [show (tab 9).bytes = 16 from rfl] at this; omega
    have key := loopN_scan (step := qj_2_st) A [] (fun x => !(s == (nth x 0).str)) (fun a _ => a) (fun i a => (A, s, (A.length : Int), (i : Int))) (fun a => (.inr ())) (fun i a => (.inl (i : Int))) (fun i a hi => ?_) (fun a => ?_) A.length 0 () (by omega)
    · first | (rw [Nat.zero_add] at key; exact key) | exact key
    · have c0 : Typed tab (.str) (.s (nth (A.getD i []) 0).str) := typed_s (typed_cell ht (A.getD i []) (mem_getD hi) 0 (by decide))
      show (qj_2_step A s (A.length : Int) (i : Int)).val = _
      unfold qj_2_step
      refine Tr.t (by simp; omega) ?_
      skip
      refine Tr.t (by first | omega | (constructor <;> omega)) ?_
      refine Tr.b2 (fun hP => ?_) (fun _ => rfl)
      rw [Tr.val_ok, wrap64 (i := (i : Int) + 1) (by omega) (by omega)]; rfl
    · show (qj_2_step A s (A.length : Int) (A.length : Int)).val = _
      refine Tr.n (by simp) ?_
      rfl
  simp only [qj_2_fin, Told.val] at h
  cases hk : A.all (fun x => !(s == (nth x 0).str)) with
  | true =>
    rw [if_pos (show qj_k2_1 A s m i = true from hk)] at h
    split at h
    · rename_i ho
      obtain ⟨rfl, ht, rfl⟩ := is_iff.1 ho
      cases h
      refine ⟨_, (key ht).trans ?_⟩
      rw [hk]; rfl
    · cases h
  | false =>
    rw [if_neg (show ¬qj_k2_1 A s m i = true from by rw [show qj_k2_1 A s m i = (A.all (fun x => !(s == (nth x 0).str))) from rfl, hk]; simp)] at h
    split at h
    · rename_i ho
      obtain ⟨rfl, ht, rfl⟩ := is_iff.1 ho
      cases h
      refine ⟨_, (key ht).trans ?_⟩
      rw [hk]; rfl
    · cases h
theorem qj_is2 : LoopIs tab FT D45 live 142 qj_lo 0 2 := by
  refine loop_told (sl := qj_2_sl) (step := qj_2_st) (out := qj_2_out) (lor := qj_lo2) (fin := fun x => (qj_2_fin (x.1) (x.2.1) (x.2.2.1) (x.2.2.2))) (fun _ => rfl) ?_ (fun x n => qj_2_r x.1 x.2.1 x.2.2.1 x.2.2.2 n) (fun x ow => qj_2_h x.1 x.2.1 x.2.2.1 x.2.2.2 ow)
  intro s t h
  unfold qj_lo2 at h
  split at h
  · cases h; exact ⟨(_, _, _, _), rfl, rfl⟩
  · cases h
noncomputable def qj_t (A : LL) (s : BS) : Tr (Int) := (.ite ((qj_k2_1 A s (A.length : Int) (0 : Int)) = true) (.ite ((qj_o2_2 A s (A.length : Int) (0 : Int)) = true) (.ok (-1 : Int))
   .no)
  (.ite ((qj_o2_3 A s (A.length : Int) (0 : Int)) = true) (.ok (qj_u2_3 A s (A.length : Int) (0 : Int)))
   .no))
def qj_mk (p : Int) : Res := [(false, [⟨.int .i64, .sh, TC.i p⟩])]
noncomputable def qj_c (A : LL) (s : BS) : Bool := is (((qj_o2_2 A s (A.length : Int) (0 : Int)) = true) ∧ ((qj_o2_3 A s (A.length : Int) (0 : Int)) = true))
noncomputable def qj_v (A : LL) (s : BS) : Int := (bif (qj_k2_1 A s (A.length : Int) (0 : Int)) then (-1 : Int) else (qj_u2_3 A s (A.length : Int) (0 : Int)))
theorem qj_l (A : LL) (s : BS) : (qj_c A s) = true → (qj_t A s).val = some (qj_v A s) := by
  intro h
  obtain ⟨g0, g1⟩ := is_iff.1 h
  unfold qj_t qj_v
  exact (Tr.s (Tr.t g0 rfl) (Tr.t g1 rfl))
noncomputable def qj_S : List Arg → Option (Bool × Res) := fun xs => match xs with
  | [(false, [(.slice 9, TC.l A)]), (false, [(.str, TC.s s)])] => some ((qj_c A s), qj_mk (qj_v A s))
  | _ => .none
theorem qj_e (A : LL) (s : BS) : runF tab FT D45 live 142 qj_lo [(false, [(.slice 9, TC.l A)]), (false, [(.str, TC.s s)])] = (qj_t A s).run fun p => some (qj_mk p) := by kernel_rfl
theorem qj_s : ∀ xs r, qj_S xs = some (true, r) → runF tab FT D45 live 142 qj_lo xs = some r := by
  intro xs r h
  unfold qj_S at h
  split at h
  · simp only [Option.some.injEq, Prod.mk.injEq] at h
    obtain ⟨h1, rfl⟩ := h
    exact fun_told (qj_e _ _) (qj_l _ _) h1
  · cases h
noncomputable def D46 : Dt := also D45 142 qj_S
theorem d46 : DOk Go.Proofs.Try.prog tab D46 := d45.also mixed_ok tab_ok names_ok (fnLoops_one (by kernel_rfl) qj_is2) qj_s
theorem qj_vv (A : LL) (s : BS) : qj_v A s = slotIdx A s := by
  show (bif A.all (fun x => !(s == (nth x 0).str)) then -1 else Int.ofNat (A.findIdx fun x => !(!(s == (nth x 0).str)))) = slotIdx A s
  unfold slotIdx
  have e : ∀ x : List TC, (s == (nth x 0).str) = ((nth x 0).str == s) := fun x => Bool.beq_comm
  simp only [e]
noncomputable def qbs_t (a0 : LL) (a1 : BS) : Tr (Bool) := (.ite ((qj_c a0 a1) = true) (.ok (decide ((qj_v a0 a1) ≥ (0 : Int))))
  .no)
def qbs_mk (p : Bool) : Res := [(false, [⟨.bool, .sh, TC.b p⟩])]
noncomputable def qbs_c (a0 : LL) (a1 : BS) : Bool := (qj_c a0 a1)
noncomputable def qbs_v (a0 : LL) (a1 : BS) : Bool := (decide ((qj_v a0 a1) ≥ (0 : Int)))
theorem qbs_l (a0 : LL) (a1 : BS) : (qbs_c a0 a1) = true → (qbs_t a0 a1).val = some (qbs_v a0 a1) := by
  intro h
  have hc0 : (qj_c a0 a1) = true := h
  unfold qbs_t
  exact (Tr.t hc0 rfl)
noncomputable def qbs_S : List Arg → Option (Bool × Res) := fun xs => match xs with
  | [(false, [(.slice 9, TC.l a0)]), (false, [(.str, TC.s a1)])] => some ((qbs_c a0 a1), qbs_mk (qbs_v a0 a1))
  | _ => .none
theorem qbs_e (a0 : LL) (a1 : BS) : runF tab FT D46 live 119 noLoops [(false, [(.slice 9, TC.l a0)]), (false, [(.str, TC.s a1)])] = (qbs_t a0 a1).run fun p => some (qbs_mk p) := by kernel_rfl
theorem qbs_s : ∀ xs r, qbs_S xs = some (true, r) → runF tab FT D46 live 119 noLoops xs = some r := by
  intro xs r h
  unfold qbs_S at h
  split at h
  · simp only [Option.some.injEq, Prod.mk.injEq] at h
    obtain ⟨h1, rfl⟩ := h
    exact fun_told (qbs_e _ _) (qbs_l _ _) h1
  · cases h
noncomputable def D47 : Dt := also D46 119 qbs_S
theorem d47 : DOk Go.Proofs.Try.prog tab D47 := d46.also mixed_ok tab_ok names_ok noLoops_ok qbs_s
noncomputable def qm_f2 (A X : LL) (m i : Int) : (Unit) ⊕ ((Unit) ⊕ (Unit)) := (bif (!(qz_v ((nth (row X i) 0).str))) then (.inr (.inl ())) else (bif (qbs_v ((A.take (i).toNat).drop ((0 : Int)).toNat) ((nth (row X i) 0).str)) then (.inr (.inl ())) else (.inl ())))
noncomputable def qm_e2 (A X : LL) (m : Int) : (Unit) ⊕ (Unit) := .inr ()
noncomputable def qm_R2 (A X : LL) (m i : Int) : (Unit) ⊕ (Unit) := iter (fun i a => (qm_f2 A X m (i : Int))) (fun a => (qm_e2 A X m)) (A.length) 0 ()
abbrev qm_2_σ := LL × LL × Int × Int
abbrev qm_2_ω := (Unit) ⊕ (Unit)
noncomputable def qm_2_step (A X : LL) (m i : Int) : Tr (qm_2_σ ⊕ qm_2_ω) := (.ite ((decide (i < m)) = true) (.ite ((0 : Int) ≤ i ∧ i < (X.length : Int)) (.ite ((qz_c ((nth (row X i) 0).str)) = true) (.ite ((!(qz_v ((nth (row X i) 0).str))) = true) (.ok (.inr (.inl ())))
     (.ite ((0 : Int) ≤ (0 : Int) ∧ (0 : Int) ≤ i ∧ i ≤ (A.length : Int)) (.ite ((qbs_c ((A.take (i).toNat).drop ((0 : Int)).toNat) ((nth (row X i) 0).str)) = true) (.ite ((qbs_v ((A.take (i).toNat).drop ((0 : Int)).toNat) ((nth (row X i) 0).str)) = true) (.ok (.inr (.inl ())))
        (.ok (.inl (A, X, m, (IntKind.wrap .i64 (i + (1 : Int)))))))
       .no)
      .no))
    .no)
   .no)
  (.ok (.inr (.inr ()))))
noncomputable def qm_2_st : qm_2_σ → Tr (qm_2_σ ⊕ qm_2_ω) := fun x => (qm_2_step (x.1) (x.2.1) (x.2.2.1) (x.2.2.2))
noncomputable def qm_k2_1 (A X : LL) (m i : Int) : Bool := sumIs (qm_R2 A X m i)
noncomputable def qm_o2_2 (A X : LL) (m i : Int) : Bool := is (i = 0 ∧ A = X ∧ m = (A.length : Int) ∧ Typed tab (.slice 9) (.l A))
noncomputable def qm_o2_3 (A X : LL) (m i : Int) : Bool := is (i = 0 ∧ A = X ∧ m = (A.length : Int) ∧ Typed tab (.slice 9) (.l A))
noncomputable def qm_2_fin (A X : LL) (m i : Int) : Told qm_2_ω := (.br (qm_k2_1 A X m i) (.leaf (qm_o2_2 A X m i) (.inl ())) (.leaf (qm_o2_3 A X m i) (.inr ())))
def qm_2_sl (x : qm_2_σ) : List Slot := [⟨.val false [⟨.slice 9, .sh, TC.l (x.1)⟩], ⟨0, 0⟩⟩, ⟨.val false [⟨.slice 9, .sh, TC.l (x.2.1)⟩], ⟨0, 0⟩⟩, ⟨.val false [⟨.int .i64, .sh, TC.i (x.2.2.1)⟩], ⟨0, 0⟩⟩, ⟨.val false [⟨.int .i64, .sh, TC.i (x.2.2.2)⟩], ⟨0, 0⟩⟩]
def qm_2_out : qm_2_ω → Ex × List Slot := (Sum.elim (fun x => (.ret, [⟨.val false [⟨.bool, .sh, TC.b false⟩], ⟨0, 0⟩⟩])) (fun x => (.exit 0, [Slot.none])))
noncomputable def qm_lo2 : List Slot → Option (Told (Ex × List Slot)) := fun s => match s with
  | [⟨.val false [⟨.slice 9, .sh, TC.l A⟩], ⟨0, 0⟩⟩, ⟨.val false [⟨.slice 9, .sh, TC.l X⟩], ⟨0, 0⟩⟩, ⟨.val false [⟨.int .i64, .sh, TC.i m⟩], ⟨0, 0⟩⟩, ⟨.val false [⟨.int .i64, .sh, TC.i i⟩], ⟨0, 0⟩⟩] => some (((qm_2_fin A X m i)).map qm_2_out)
  | _ => .none
end
end
end
end
end
end
end
end
end
end Go.Proofs.Ytdcafhfnkblfkaa.V
