/- What the functions of FnExactZeroElement answer. No condition. -/
import Derived.Test.YtdcafhfnkblfkaaVFnExactZeroElementP2
namespace Go.Proofs.Ytdcafhfnkblfkaa.V
open Go
set_option maxRecDepth 100000
set_option linter.unusedVariables false
set_option linter.unusedSectionVars false
set_option linter.unusedSimpArgs false
set_option maxHeartbeats 2000000
noncomputable section
section
variable [i_laws_szType : qbc_O]
variable [g_laws_szType : qbc_G]
section
variable [i_laws_toType : qp_O]
variable [g_laws_toType : qp_G]
section
variable [i_spec_l02Size : qn_O]
variable [g_spec_l02Size : qn_G]
section
variable [i_spec_l02Depth : qe_O]
variable [g_spec_l02Depth : qe_G]
section
variable [i_spec_l02Ok : qbi_O]
variable [g_spec_l02Ok : qbi_G]
theorem qbi_nxr (k s : Int) (sg bg : Bool) (NA NU ME BA : LL) (ct : Int) : qbi_rc (i_spec_l02Ok := ⟨qbi_O.n + 1⟩) k s sg bg NA NU ME BA ct = true → (qbi_c k s sg bg NA NU ME BA ct) = true ∧ (qbi_v k s sg bg NA NU ME BA ct) = (qbi_rv k s sg bg NA NU ME BA ct) := fun h => qbi_nx k s sg bg NA NU ME BA ct h
theorem qbi_rs : ∀ xs r, qbi_rS (i_spec_l02Ok := ⟨qbi_O.n + 1⟩) xs = some (true, r) → runF tab FT D26 live 30 noLoops xs = some r := by
  intro xs r h
  unfold qbi_rS at h
  split at h
  · obtain ⟨h1, rfl⟩ := sp h
    have hx := qbi_nxr _ _ _ _ _ _ _ _ _ h1
    have ht := fun_told (qbi_e ..) (qbi_l _ _ _ _ _ _ _ _ _) hx.1
    rw [hx.2] at ht
    exact ht
  · cases h
theorem qbi_step : qbi_G (i_spec_l02Ok := ⟨qbi_O.n + 1⟩) := by
  have h := DOk.also2 (S := qbi_rS (i_spec_l02Ok := ⟨qbi_O.n + 1⟩)) mixed_ok tab_ok names_ok d23 d26 noLoops_ok qbi_rs
  refine qbi_G.mk (i_spec_l02Ok := ⟨qbi_O.n + 1⟩) ?_
  exact h
def qcj_t (n : Int) : Tr (BS) := .ok ([[TC.i (IntKind.wrap .u8 n)]].map byteOf)
def qcj_mk (p : BS) : Res := [(false, [⟨.str, .sh, TC.s p⟩])]
def qcj_c (n : Int) : Bool := true
def qcj_v (n : Int) : BS := hid (bytesL n 1)
theorem qcj_l (n : Int) : (qcj_c n) = true → (qcj_t n).val = some (qcj_v n) := by
  intro _
  unfold qcj_t qcj_v
  rw [hid_eq, ← byte1]
  rfl
def qcj_S : List Arg → Option (Bool × Res) := fun xs => match xs with
  | [(false, [(.int .i64, TC.i n)])] => some (true, qcj_mk (qcj_v n))
  | _ => .none
theorem qcj_e (n : Int) : runF tab FT D26 live 81 noLoops [(false, [(.int .i64, TC.i n)])] = (qcj_t n).run fun p => some (qcj_mk p) := by kernel_rfl
theorem qcj_s : ∀ xs r, qcj_S xs = some (true, r) → runF tab FT D26 live 81 noLoops xs = some r := by
  intro xs r h
  unfold qcj_S at h
  split at h
  · obtain ⟨h1, rfl⟩ := sp h
    exact fun_told (qcj_e _) (qcj_l _) rfl
  · cases h
def D27 : Dt := also D26 81 qcj_S
theorem d27 : DOk Go.Proofs.Try.prog tab D27 := d26.also mixed_ok tab_ok names_ok noLoops_ok qcj_s
theorem qcj_h {n : Int} : qcj_v n = bytesL n 1 := hid_eq _
abbrev qbr_3_σ := Int × Int × Bool × BS × Int
abbrev qbr_3_ω := (BS)
def qbr_3_step (n size : Int) (bg : Bool) (out : BS) (k : Int) : Tr (qbr_3_σ ⊕ qbr_3_ω) := (.ite ((decide (k < size)) = true) (.ite (0 ≤ (IntKind.wrap .u64 (IntKind.wrap .i64 ((8 : Int) * k)))) (.ite (bg = true) (.ite ((((qcj_v (bits .i64 (fun a b => a &&& b) (Int.fdiv n (2 ^ (min ((IntKind.wrap .u64 (IntKind.wrap .i64 ((8 : Int) * k)))).toNat 64))) (255 : Int))).length + out.length : Nat) : Int) ≤ 9223372036854775807) (.ok (.inl (n, size, bg, ((qcj_v (bits .i64 (fun a b => a &&& b) (Int.fdiv n (2 ^ (min ((IntKind.wrap .u64 (IntKind.wrap .i64 ((8 : Int) * k)))).toNat 64))) (255 : Int))) ++ out), (IntKind.wrap .i64 (k + (1 : Int))))))
     .no)
    (.ite (((out.length + (qcj_v (bits .i64 (fun a b => a &&& b) (Int.fdiv n (2 ^ (min ((IntKind.wrap .u64 (IntKind.wrap .i64 ((8 : Int) * k)))).toNat 64))) (255 : Int))).length : Nat) : Int) ≤ 9223372036854775807) (.ok (.inl (n, size, bg, (out ++ (qcj_v (bits .i64 (fun a b => a &&& b) (Int.fdiv n (2 ^ (min ((IntKind.wrap .u64 (IntKind.wrap .i64 ((8 : Int) * k)))).toNat 64))) (255 : Int)))), (IntKind.wrap .i64 (k + (1 : Int))))))
     .no))
   .no)
  (.ok (.inr out)))
def qbr_3_st : qbr_3_σ → Tr (qbr_3_σ ⊕ qbr_3_ω) := fun x => (qbr_3_step (x.1) (x.2.1) (x.2.2.1) (x.2.2.2.1) (x.2.2.2.2))
def qbr_o3_1 (n size : Int) (bg : Bool) (out : BS) (k : Int) : Bool := is (∃ sz : Nat, size = (sz : Int) ∧ sz ≤ 8 ∧ out = [] ∧ k = 0)
def qbr_u3_1 (n size : Int) (bg : Bool) (out : BS) (k : Int) : BS := putB n size.toNat bg
def qbr_3_fin (n size : Int) (bg : Bool) (out : BS) (k : Int) : Told qbr_3_ω := (.leaf (qbr_o3_1 n size bg out k) (qbr_u3_1 n size bg out k))
def qbr_3_sl (x : qbr_3_σ) : List Slot := [⟨.val false [⟨.int .i64, .sh, TC.i (x.1)⟩], ⟨0, 0⟩⟩, ⟨.val false [⟨.int .i64, .sh, TC.i (x.2.1)⟩], ⟨0, 0⟩⟩, ⟨.val false [⟨.bool, .sh, TC.b (x.2.2.1)⟩], ⟨0, 0⟩⟩, ⟨.val false [⟨.str, .sh, TC.s (x.2.2.2.1)⟩], ⟨0, 0⟩⟩, ⟨.val false [⟨.int .i64, .sh, TC.i (x.2.2.2.2)⟩], ⟨0, 0⟩⟩]
def qbr_3_out : qbr_3_ω → Ex × List Slot := (fun x => (.exit 0, [Slot.none, ⟨.val false [⟨.str, .sh, TC.s x⟩], ⟨0, 0⟩⟩]))
def qbr_lo3 : List Slot → Option (Told (Ex × List Slot)) := fun s => match s with
  | [⟨.val false [⟨.int .i64, .sh, TC.i n⟩], ⟨0, 0⟩⟩, ⟨.val false [⟨.int .i64, .sh, TC.i size⟩], ⟨0, 0⟩⟩, ⟨.val false [⟨.bool, .sh, TC.b bg⟩], ⟨0, 0⟩⟩, ⟨.val false [⟨.str, .sh, TC.s out⟩], ⟨0, 0⟩⟩, ⟨.val false [⟨.int .i64, .sh, TC.i k⟩], ⟨0, 0⟩⟩] => some (((qbr_3_fin n size bg out k)).map qbr_3_out)
  | _ => .none
def qbr_lo : LoopTeller := fun r s => bif Nat.beq r 3 then qbr_lo3 s else .none
theorem qbr_3_r (n size : Int) (bg : Bool) (out : BS) (k : Int) (fuel : Nat) : rounds (rnd tab FT D27 live 82 qbr_lo 0 3) leave (fuel + 1) (qbr_3_sl (n, size, bg, out, k)) = ((qbr_3_step n size bg out k)).run (goOn (fun s => rounds (rnd tab FT D27 live 82 qbr_lo 0 3) leave fuel (qbr_3_sl s)) fun w => some (qbr_3_out w)) := by kernel_rfl
theorem qbr_3_h (n size : Int) (bg : Bool) (out : BS) (k : Int) (ow : qbr_3_ω) : ((qbr_3_fin n size bg out k)).val = some ow → ∃ fuel, loopN qbr_3_st fuel (n, size, bg, out, k) = some ow := by
  intro h
  refine auto_leaf (R := putB n size.toNat bg) (fun ho => ?_) h
  obtain ⟨sz, rfl, h8, rfl, rfl⟩ := is_iff.1 ho
  refine ⟨sz + 1, Eq.trans (congrArg (loopN qbr_3_st (sz + 1)) (by cases bg <;> rfl)) (loopN_run (step := qbr_3_st) (N := sz) (fun j => (n, (sz : Int), bg, putB n j bg, (j : Int))) (fun j hj => ?_) ?_ sz 0 (by omega))⟩
  · have e1 : IntKind.wrap .u64 (IntKind.wrap .i64 ((8 : Int) * (j : Int))) = ((8 * j : Nat) : Int) := by
      rw [wrap64 (by omega) (by omega), IntKind.wrap_u64]; omega
    have eb : qcj_v (bits .i64 (fun a b => a &&& b) (Int.fdiv n (2 ^ (8 * j))) (255 : Int)) = [byteOf (bAt n j)] := by
      rw [qcj_h]
      show [byteOf (bAt _ 0)] = _
      unfold bAt
      rw [show Int.fdiv (bits .i64 (fun a b => a &&& b) (Int.fdiv n (2 ^ (8 * j))) (255 : Int)) (2 ^ (8 * 0)) = bits .i64 (fun a b => a &&& b) (Int.fdiv n (2 ^ (8 * j))) (255 : Int) from by simp, u8_and]
    show (qbr_3_step n (sz : Int) bg (putB n j bg) (j : Int)).val = _
    unfold qbr_3_step
    rw [e1, Int.toNat_natCast, Nat.min_eq_left (by omega), eb]
    refine Tr.t (by simp; omega) ?_
    refine Tr.t (by omega) ?_
    have hl := putB_len (n := n) (sz := j) (bg := bg)
    cases bg with
    | true =>
      refine Tr.t rfl ?_
      refine Tr.t (by rw [hl, List.length_singleton]; omega) ?_
      rw [Tr.val_ok, wrap64 (i := (j : Int) + 1) (by omega) (by omega)]
      have e2 : putB n (j + 1) true = [byteOf (bAt n j)] ++ putB n j true := by
        show (bytesL n (j + 1)).reverse = _ ++ (bytesL n j).reverse
        rw [bytesL_succ, List.reverse_append]; rfl
      rw [e2]; rfl
    | false =>
      refine Tr.n (by simp) ?_
      refine Tr.t (by rw [hl, List.length_singleton]; omega) ?_
      rw [Tr.val_ok, wrap64 (i := (j : Int) + 1) (by omega) (by omega)]
      have e2 : putB n (j + 1) false = putB n j false ++ [byteOf (bAt n j)] := bytesL_succ
      rw [e2]; rfl
  · show (qbr_3_step n (sz : Int) bg (putB n sz bg) (sz : Int)).val = _
    unfold qbr_3_step
    refine Tr.n (by simp) ?_
    rfl
theorem qbr_is3 : LoopIs tab FT D27 live 82 qbr_lo 0 3 := by
  refine loop_told (sl := qbr_3_sl) (step := qbr_3_st) (out := qbr_3_out) (lor := qbr_lo3) (fin := fun x => (qbr_3_fin (x.1) (x.2.1) (x.2.2.1) (x.2.2.2.1) (x.2.2.2.2))) (fun _ => rfl) ?_ (fun x n => qbr_3_r x.1 x.2.1 x.2.2.1 x.2.2.2.1 x.2.2.2.2 n) (fun x ow => qbr_3_h x.1 x.2.1 x.2.2.1 x.2.2.2.1 x.2.2.2.2 ow)
  intro s t h
  unfold qbr_lo3 at h
  split at h
  · cases h; exact ⟨(_, _, _, _, _), rfl, rfl⟩
  · cases h
def qbr_t (n size : Int) (bg : Bool) : Tr (BS) := (.ite ((qbr_o3_1 n size bg [] (0 : Int)) = true) (.ok (qbr_u3_1 n size bg [] (0 : Int)))
  .no)
def qbr_mk (p : BS) : Res := [(false, [⟨.str, .sh, TC.s p⟩])]
def qbr_c (n size : Int) (bg : Bool) : Bool := is (∃ sz : Nat, size = (sz : Int) ∧ sz ≤ 8)
def qbr_v (n size : Int) (bg : Bool) : BS := hid (putB n size.toNat bg)
theorem qbr_l (n size : Int) (bg : Bool) : (qbr_c n size bg) = true → (qbr_t n size bg).val = some (qbr_v n size bg) := by
  intro h
  obtain ⟨sz, rfl, h8⟩ := is_iff.1 h
  unfold qbr_t qbr_v
  rw [hid_eq]
  refine Tr.t (is_true ⟨sz, rfl, h8, rfl, rfl⟩) ?_
  rfl
def qbr_S : List Arg → Option (Bool × Res) := fun xs => match xs with
  | [(false, [(.int .i64, TC.i n)]), (false, [(.int .i64, TC.i size)]), (false, [(.bool, TC.b bg)])] => some ((qbr_c n size bg), qbr_mk (qbr_v n size bg))
  | _ => .none
theorem qbr_e (n size : Int) (bg : Bool) : runF tab FT D27 live 82 qbr_lo [(false, [(.int .i64, TC.i n)]), (false, [(.int .i64, TC.i size)]), (false, [(.bool, TC.b bg)])] = (qbr_t n size bg).run fun p => some (qbr_mk p) := by kernel_rfl
theorem qbr_s : ∀ xs r, qbr_S xs = some (true, r) → runF tab FT D27 live 82 qbr_lo xs = some r := by
  intro xs r h
  unfold qbr_S at h
  split at h
  · obtain ⟨h1, rfl⟩ := sp h
    exact fun_told (qbr_e ..) (qbr_l _ _ _) h1
  · cases h
def D28 : Dt := also D27 82 qbr_S
theorem d28 : DOk Go.Proofs.Try.prog tab D28 := d27.also mixed_ok tab_ok names_ok (fnLoops_one (by kernel_rfl) qbr_is3) qbr_s
theorem qbr_h {n size : Int} {bg : Bool} : qbr_v n size bg = putB n size.toNat bg := hid_eq _
def qcb_t (n : Int) : Tr (BS) := (.ite (0 ≤ (qcm_v n (0 : Int)) ∧ (qcm_v n (0 : Int)) ≤ (qcm_v n (0 : Int)) ∧ (qcm_v n (0 : Int)) * 1 ≤ 140737488355328 ∧ (qcm_v n (0 : Int)) ≤ 140737488355328) (.ok ((List.replicate ((qcm_v n (0 : Int))).toNat [TC.i (0 : Int)]).map byteOf))
  .no)
def qcb_mk (p : BS) : Res := [(false, [⟨.str, .sh, TC.s p⟩])]
def qcb_c (n : Int) : Bool := is (n ≤ 1000)
def qcb_v (n : Int) : BS := hid (zl n)
theorem qcb_l (n : Int) : (qcb_c n) = true → (qcb_t n).val = some (qcb_v n) := by
  intro h
  have hn := is_iff.1 h
  have hm : qcm_v n 0 = if n > 0 then n else 0 := by
    unfold qcm_v
    by_cases h : n > 0
    · rw [if_pos h, decide_eq_true h]; rfl
    · rw [if_neg h, decide_eq_false h]; rfl
  unfold qcb_t qcb_v
  rw [hid_eq, hm]
  have h0 : (0 : Int) ≤ if n > 0 then n else 0 := by split <;> omega
  have h1 : (if n > 0 then n else 0) ≤ 1000 := by split <;> omega
  have h2 : (if n > 0 then n else 0).toNat = n.toNat := by split <;> omega
  refine Tr.t (by omega) ?_
  rw [Tr.val_ok, List.map_replicate, h2]
  rfl
def qcb_S : List Arg → Option (Bool × Res) := fun xs => match xs with
  | [(false, [(.int .i64, TC.i n)])] => some ((qcb_c n), qcb_mk (qcb_v n))
  | _ => .none
theorem qcb_e (n : Int) : runF tab FT D28 live 94 noLoops [(false, [(.int .i64, TC.i n)])] = (qcb_t n).run fun p => some (qcb_mk p) := by kernel_rfl
theorem qcb_s : ∀ xs r, qcb_S xs = some (true, r) → runF tab FT D28 live 94 noLoops xs = some r := by
  intro xs r h
  unfold qcb_S at h
  split at h
  · obtain ⟨h1, rfl⟩ := sp h
    exact fun_told (qcb_e _) (qcb_l _) h1
  · cases h
def D29 : Dt := also D28 94 qcb_S
theorem d29 : DOk Go.Proofs.Try.prog tab D29 := d28.also mixed_ok tab_ok names_ok noLoops_ok qcb_s
theorem qcb_h {n : Int} : qcb_v n = zl n := hid_eq _
section
class qg_O where n : Nat
variable [i_spec_l03Zero : qg_O]
def qg_rc (k s : Int) (sg bg : Bool) (NA NU ME BA : LL) (ct : Int) : Bool := is (max (rowsDep ME) (rowsDep BA) < qg_O.n ∧ okV k s sg bg NA NU ME BA ct = true)
def qg_rv (k s : Int) (sg bg : Bool) (NA NU ME BA : LL) (ct : Int) : BS := zelV k s sg bg NA NU ME BA ct
def qg_rmk (p : BS) : Res := [(false, [⟨.str, .sh, TC.s p⟩])]
def qg_rS : List Arg → Option (Bool × Res) := fun xs => match xs with
  | [(true, [(.int .i64, TC.i k), (.int .i64, TC.i s), (.bool, TC.b sg), (.bool, TC.b bg), (.slice 9, TC.l NA), (.slice 2, TC.l NU), (.slice 71, TC.l ME), (.slice 32, TC.l BA), (.int .i64, TC.i ct)])] => some ((qg_rc k s sg bg NA NU ME BA ct), qg_rmk (qg_rv k s sg bg NA NU ME BA ct))
  | _ => .none
def D30 : Dt := also D29 60 qg_rS
class qg_G : Prop where ok : DOk Go.Proofs.Try.prog tab D30
variable [g_spec_l03Zero : qg_G]
theorem d30 : DOk Go.Proofs.Try.prog tab D30 := qg_G.ok
abbrev qg_15_σ := Int × Int × Bool × Bool × LL × LL × LL × LL × Int × BS × Int
abbrev qg_15_ω := (Int × Int × Bool × Bool × LL × LL × LL × LL × Int × BS)
def qg_15_step (k s : Int) (sg bg : Bool) (NA NU ME BA : LL) (ct : Int) (o : BS) (i : Int) : Tr (qg_15_σ ⊕ qg_15_ω) := (.ite ((decide (i < ct)) = true) (.ite ((0 : Int) ≤ (0 : Int) ∧ (0 : Int) < (BA.length : Int)) (.ite ((qg_rc ((nth (row BA (0 : Int)) 0).int) ((nth (row BA (0 : Int)) 1).int) ((nth (row BA (0 : Int)) 2).bool) ((nth (row BA (0 : Int)) 3).bool) ((nth (row BA (0 : Int)) 4).list) ((nth (row BA (0 : Int)) 5).list) ((nth (row BA (0 : Int)) 6).list) ((nth (row BA (0 : Int)) 7).list) ((nth (row BA (0 : Int)) 8).int)) = true) (.ite (((o.length + (qg_rv ((nth (row BA (0 : Int)) 0).int) ((nth (row BA (0 : Int)) 1).int) ((nth (row BA (0 : Int)) 2).bool) ((nth (row BA (0 : Int)) 3).bool) ((nth (row BA (0 : Int)) 4).list) ((nth (row BA (0 : Int)) 5).list) ((nth (row BA (0 : Int)) 6).list) ((nth (row BA (0 : Int)) 7).list) ((nth (row BA (0 : Int)) 8).int)).length : Nat) : Int) ≤ 9223372036854775807) (.ok (.inl (k, s, sg, bg, NA, NU, ME, BA, ct, (o ++ (qg_rv ((nth (row BA (0 : Int)) 0).int) ((nth (row BA (0 : Int)) 1).int) ((nth (row BA (0 : Int)) 2).bool) ((nth (row BA (0 : Int)) 3).bool) ((nth (row BA (0 : Int)) 4).list) ((nth (row BA (0 : Int)) 5).list) ((nth (row BA (0 : Int)) 6).list) ((nth (row BA (0 : Int)) 7).list) ((nth (row BA (0 : Int)) 8).int))), (IntKind.wrap .i64 (i + (1 : Int))))))
     .no)
    .no)
   .no)
  (.ok (.inr (k, s, sg, bg, NA, NU, ME, BA, ct, o))))
def qg_15_st : qg_15_σ → Tr (qg_15_σ ⊕ qg_15_ω) := fun x => (qg_15_step (x.1) (x.2.1) (x.2.2.1) (x.2.2.2.1) (x.2.2.2.2.1) (x.2.2.2.2.2.1) (x.2.2.2.2.2.2.1) (x.2.2.2.2.2.2.2.1) (x.2.2.2.2.2.2.2.2.1) (x.2.2.2.2.2.2.2.2.2.1) (x.2.2.2.2.2.2.2.2.2.2))
def qg_o15_1 (k s : Int) (sg bg : Bool) (NA NU ME BA : LL) (ct : Int) (o : BS) (i : Int) : Bool := is (o = [] ∧ i = 0 ∧ okV 5 s sg bg NA NU ME BA ct = true ∧ qg_rc (nth (row BA (0 : Int)) 0).int (nth (row BA (0 : Int)) 1).int (nth (row BA (0 : Int)) 2).bool (nth (row BA (0 : Int)) 3).bool (nth (row BA (0 : Int)) 4).list (nth (row BA (0 : Int)) 5).list (nth (row BA (0 : Int)) 6).list (nth (row BA (0 : Int)) 7).list (nth (row BA (0 : Int)) 8).int = true)
def qg_u15_1_9 (k s : Int) (sg bg : Bool) (NA NU ME BA : LL) (ct : Int) (o : BS) (i : Int) : BS := Lib.repeatL (zelV (nth (row BA (0 : Int)) 0).int (nth (row BA (0 : Int)) 1).int (nth (row BA (0 : Int)) 2).bool (nth (row BA (0 : Int)) 3).bool (nth (row BA (0 : Int)) 4).list (nth (row BA (0 : Int)) 5).list (nth (row BA (0 : Int)) 6).list (nth (row BA (0 : Int)) 7).list (nth (row BA (0 : Int)) 8).int) ct.toNat
def qg_15_fin (k s : Int) (sg bg : Bool) (NA NU ME BA : LL) (ct : Int) (o : BS) (i : Int) : Told qg_15_ω := (.leaf (qg_o15_1 k s sg bg NA NU ME BA ct o i) (k, s, sg, bg, NA, NU, ME, BA, ct, (qg_u15_1_9 k s sg bg NA NU ME BA ct o i)))
def qg_15_sl (x : qg_15_σ) : List Slot := [⟨.bx 32 [⟨.int .i64, .sh, TC.i (x.1)⟩, ⟨.int .i64, .sh, TC.i (x.2.1)⟩, ⟨.bool, .sh, TC.b (x.2.2.1)⟩, ⟨.bool, .sh, TC.b (x.2.2.2.1)⟩, ⟨.slice 9, .sh, TC.l (x.2.2.2.2.1)⟩, ⟨.slice 2, .sh, TC.l (x.2.2.2.2.2.1)⟩, ⟨.slice 71, .sh, TC.l (x.2.2.2.2.2.2.1)⟩, ⟨.slice 32, .sh, TC.l (x.2.2.2.2.2.2.2.1)⟩, ⟨.int .i64, .sh, TC.i (x.2.2.2.2.2.2.2.2.1)⟩], ⟨0, 0⟩⟩, ⟨.val false [⟨.str, .sh, TC.s (x.2.2.2.2.2.2.2.2.2.1)⟩], ⟨0, 0⟩⟩, ⟨.val false [⟨.int .i64, .sh, TC.i (x.2.2.2.2.2.2.2.2.2.2)⟩], ⟨0, 0⟩⟩]
def qg_15_out : qg_15_ω → Ex × List Slot := (fun x => (.exit 3, [⟨.bx 32 [⟨.int .i64, .sh, TC.i (x.1)⟩, ⟨.int .i64, .sh, TC.i (x.2.1)⟩, ⟨.bool, .sh, TC.b (x.2.2.1)⟩, ⟨.bool, .sh, TC.b (x.2.2.2.1)⟩, ⟨.slice 9, .sh, TC.l (x.2.2.2.2.1)⟩, ⟨.slice 2, .sh, TC.l (x.2.2.2.2.2.1)⟩, ⟨.slice 71, .sh, TC.l (x.2.2.2.2.2.2.1)⟩, ⟨.slice 32, .sh, TC.l (x.2.2.2.2.2.2.2.1)⟩, ⟨.int .i64, .sh, TC.i (x.2.2.2.2.2.2.2.2.1)⟩], ⟨0, 0⟩⟩, Slot.none, ⟨.val false [⟨.str, .sh, TC.s (x.2.2.2.2.2.2.2.2.2)⟩], ⟨0, 0⟩⟩]))
def qg_lo15 : List Slot → Option (Told (Ex × List Slot)) := fun s => match s with
  | [⟨.bx 32 [⟨.int .i64, .sh, TC.i k⟩, ⟨.int .i64, .sh, TC.i s⟩, ⟨.bool, .sh, TC.b sg⟩, ⟨.bool, .sh, TC.b bg⟩, ⟨.slice 9, .sh, TC.l NA⟩, ⟨.slice 2, .sh, TC.l NU⟩, ⟨.slice 71, .sh, TC.l ME⟩, ⟨.slice 32, .sh, TC.l BA⟩, ⟨.int .i64, .sh, TC.i ct⟩], ⟨0, 0⟩⟩, ⟨.val false [⟨.str, .sh, TC.s o⟩], ⟨0, 0⟩⟩, ⟨.val false [⟨.int .i64, .sh, TC.i i⟩], ⟨0, 0⟩⟩] => some (((qg_15_fin k s sg bg NA NU ME BA ct o i)).map qg_15_out)
  | _ => .none
abbrev qg_7_σ := Int × Int × Bool × Bool × LL × LL × LL × LL × Int × BS × Int
abbrev qg_7_ω := (Int × Int × Bool × Bool × LL × LL × LL × LL × Int × BS)
def qg_7_step (k s : Int) (sg bg : Bool) (NA NU ME BA : LL) (ct : Int) (o : BS) (i : Int) : Tr (qg_7_σ ⊕ qg_7_ω) := (.ite ((decide (i < (ME.length : Int))) = true) (.ite ((0 : Int) ≤ i ∧ i < (ME.length : Int)) (.ite ((qcb_c (IntKind.wrap .i64 ((nth (row ME i) 1).int - (o.length : Int)))) = true) (.ite ((qg_rc ((nth (row ME i) 2).int) ((nth (row ME i) 3).int) ((nth (row ME i) 4).bool) ((nth (row ME i) 5).bool) ((nth (row ME i) 6).list) ((nth (row ME i) 7).list) ((nth (row ME i) 8).list) ((nth (row ME i) 9).list) ((nth (row ME i) 10).int)) = true) (.ite ((((qcb_v (IntKind.wrap .i64 ((nth (row ME i) 1).int - (o.length : Int)))).length + (qg_rv ((nth (row ME i) 2).int) ((nth (row ME i) 3).int) ((nth (row ME i) 4).bool) ((nth (row ME i) 5).bool) ((nth (row ME i) 6).list) ((nth (row ME i) 7).list) ((nth (row ME i) 8).list) ((nth (row ME i) 9).list) ((nth (row ME i) 10).int)).length : Nat) : Int) ≤ 9223372036854775807) (.ite (((o.length + ((qcb_v (IntKind.wrap .i64 ((nth (row ME i) 1).int - (o.length : Int)))) ++ (qg_rv ((nth (row ME i) 2).int) ((nth (row ME i) 3).int) ((nth (row ME i) 4).bool) ((nth (row ME i) 5).bool) ((nth (row ME i) 6).list) ((nth (row ME i) 7).list) ((nth (row ME i) 8).list) ((nth (row ME i) 9).list) ((nth (row ME i) 10).int))).length : Nat) : Int) ≤ 9223372036854775807) (.ok (.inl (k, s, sg, bg, NA, NU, ME, BA, ct, (o ++ ((qcb_v (IntKind.wrap .i64 ((nth (row ME i) 1).int - (o.length : Int)))) ++ (qg_rv ((nth (row ME i) 2).int) ((nth (row ME i) 3).int) ((nth (row ME i) 4).bool) ((nth (row ME i) 5).bool) ((nth (row ME i) 6).list) ((nth (row ME i) 7).list) ((nth (row ME i) 8).list) ((nth (row ME i) 9).list) ((nth (row ME i) 10).int)))), (IntKind.wrap .i64 (i + (1 : Int))))))
       .no)
      .no)
     .no)
    .no)
   .no)
  (.ok (.inr (k, s, sg, bg, NA, NU, ME, BA, ct, o))))
def qg_7_st : qg_7_σ → Tr (qg_7_σ ⊕ qg_7_ω) := fun x => (qg_7_step (x.1) (x.2.1) (x.2.2.1) (x.2.2.2.1) (x.2.2.2.2.1) (x.2.2.2.2.2.1) (x.2.2.2.2.2.2.1) (x.2.2.2.2.2.2.2.1) (x.2.2.2.2.2.2.2.2.1) (x.2.2.2.2.2.2.2.2.2.1) (x.2.2.2.2.2.2.2.2.2.2))
def qg_o7_1 (k s : Int) (sg bg : Bool) (NA NU ME BA : LL) (ct : Int) (o : BS) (i : Int) : Bool := is (o = [] ∧ i = 0 ∧ okV 4 s sg bg NA NU ME BA ct = true ∧ (∀ x : List TC, x ∈ ME → qg_rc (nth x 2).int (nth x 3).int (nth x 4).bool (nth x 5).bool (nth x 6).list (nth x 7).list (nth x 8).list (nth x 9).list (nth x 10).int = true))
def qg_u7_1_9 (k s : Int) (sg bg : Bool) (NA NU ME BA : LL) (ct : Int) (o : BS) (i : Int) : BS := ME.foldl zF []
def qg_7_fin (k s : Int) (sg bg : Bool) (NA NU ME BA : LL) (ct : Int) (o : BS) (i : Int) : Told qg_7_ω := (.leaf (qg_o7_1 k s sg bg NA NU ME BA ct o i) (k, s, sg, bg, NA, NU, ME, BA, ct, (qg_u7_1_9 k s sg bg NA NU ME BA ct o i)))
def qg_7_sl (x : qg_7_σ) : List Slot := [⟨.bx 32 [⟨.int .i64, .sh, TC.i (x.1)⟩, ⟨.int .i64, .sh, TC.i (x.2.1)⟩, ⟨.bool, .sh, TC.b (x.2.2.1)⟩, ⟨.bool, .sh, TC.b (x.2.2.2.1)⟩, ⟨.slice 9, .sh, TC.l (x.2.2.2.2.1)⟩, ⟨.slice 2, .sh, TC.l (x.2.2.2.2.2.1)⟩, ⟨.slice 71, .sh, TC.l (x.2.2.2.2.2.2.1)⟩, ⟨.slice 32, .sh, TC.l (x.2.2.2.2.2.2.2.1)⟩, ⟨.int .i64, .sh, TC.i (x.2.2.2.2.2.2.2.2.1)⟩], ⟨0, 0⟩⟩, ⟨.val false [⟨.str, .sh, TC.s (x.2.2.2.2.2.2.2.2.2.1)⟩], ⟨0, 0⟩⟩, ⟨.val false [⟨.int .i64, .sh, TC.i (x.2.2.2.2.2.2.2.2.2.2)⟩], ⟨0, 0⟩⟩]
def qg_7_out : qg_7_ω → Ex × List Slot := (fun x => (.exit 1, [⟨.bx 32 [⟨.int .i64, .sh, TC.i (x.1)⟩, ⟨.int .i64, .sh, TC.i (x.2.1)⟩, ⟨.bool, .sh, TC.b (x.2.2.1)⟩, ⟨.bool, .sh, TC.b (x.2.2.2.1)⟩, ⟨.slice 9, .sh, TC.l (x.2.2.2.2.1)⟩, ⟨.slice 2, .sh, TC.l (x.2.2.2.2.2.1)⟩, ⟨.slice 71, .sh, TC.l (x.2.2.2.2.2.2.1)⟩, ⟨.slice 32, .sh, TC.l (x.2.2.2.2.2.2.2.1)⟩, ⟨.int .i64, .sh, TC.i (x.2.2.2.2.2.2.2.2.1)⟩], ⟨0, 0⟩⟩, Slot.none, ⟨.val false [⟨.str, .sh, TC.s (x.2.2.2.2.2.2.2.2.2)⟩], ⟨0, 0⟩⟩]))
def qg_lo7 : List Slot → Option (Told (Ex × List Slot)) := fun s => match s with
  | [⟨.bx 32 [⟨.int .i64, .sh, TC.i k⟩, ⟨.int .i64, .sh, TC.i s⟩, ⟨.bool, .sh, TC.b sg⟩, ⟨.bool, .sh, TC.b bg⟩, ⟨.slice 9, .sh, TC.l NA⟩, ⟨.slice 2, .sh, TC.l NU⟩, ⟨.slice 71, .sh, TC.l ME⟩, ⟨.slice 32, .sh, TC.l BA⟩, ⟨.int .i64, .sh, TC.i ct⟩], ⟨0, 0⟩⟩, ⟨.val false [⟨.str, .sh, TC.s o⟩], ⟨0, 0⟩⟩, ⟨.val false [⟨.int .i64, .sh, TC.i i⟩], ⟨0, 0⟩⟩] => some (((qg_7_fin k s sg bg NA NU ME BA ct o i)).map qg_7_out)
  | _ => .none
def qg_lo : LoopTeller := fun r s => bif Nat.beq r 7 then qg_lo7 s else bif Nat.beq r 15 then qg_lo15 s else .none
theorem qg_15_r (k s : Int) (sg bg : Bool) (NA NU ME BA : LL) (ct : Int) (o : BS) (i : Int) (fuel : Nat) : rounds (rnd tab FT D30 live 60 qg_lo 1 15) leave (fuel + 1) (qg_15_sl (k, s, sg, bg, NA, NU, ME, BA, ct, o, i)) = ((qg_15_step k s sg bg NA NU ME BA ct o i)).run (goOn (fun s => rounds (rnd tab FT D30 live 60 qg_lo 1 15) leave fuel (qg_15_sl s)) fun w => some (qg_15_out w)) := by kernel_rfl
theorem qg_15_h (k s : Int) (sg bg : Bool) (NA NU ME BA : LL) (ct : Int) (o : BS) (i : Int) (ow : qg_15_ω) : ((qg_15_fin k s sg bg NA NU ME BA ct o i)).val = some ow → ∃ fuel, loopN qg_15_st fuel (k, s, sg, bg, NA, NU, ME, BA, ct, o, i) = some ow := by
  intro h
  refine auto_leaf (R := (k, s, sg, bg, NA, NU, ME, BA, ct, Lib.repeatL (zelV (nth (row BA (0 : Int)) 0).int (nth (row BA (0 : Int)) 1).int (nth (row BA (0 : Int)) 2).bool (nth (row BA (0 : Int)) 3).bool (nth (row BA (0 : Int)) 4).list (nth (row BA (0 : Int)) 5).list (nth (row BA (0 : Int)) 6).list (nth (row BA (0 : Int)) 7).list (nth (row BA (0 : Int)) 8).int) ct.toNat)) (fun ho => ?_) h
  obtain ⟨rfl, rfl, hk, hr⟩ := is_iff.1 ho
  obtain ⟨hb, hob⟩ := okV_base hk
  obtain ⟨c1, c2⟩ := okV_arr hk
  obtain ⟨z1, z2⟩ := zero_len hob
  have hct : ((ct.toNat : Nat) : Int) = ct := Int.toNat_of_nonneg (by omega)
  have key := loopN_run (step := qg_15_st) (N := ct.toNat) (fun j => (k, s, sg, bg, NA, NU, ME, BA, ct, Lib.repeatL (zelV (nth (row BA (0 : Int)) 0).int (nth (row BA (0 : Int)) 1).int (nth (row BA (0 : Int)) 2).bool (nth (row BA (0 : Int)) 3).bool (nth (row BA (0 : Int)) 4).list (nth (row BA (0 : Int)) 5).list (nth (row BA (0 : Int)) 6).list (nth (row BA (0 : Int)) 7).list (nth (row BA (0 : Int)) 8).int) j, (j : Int))) (w := (k, s, sg, bg, NA, NU, ME, BA, ct, Lib.repeatL (zelV (nth (row BA (0 : Int)) 0).int (nth (row BA (0 : Int)) 1).int (nth (row BA (0 : Int)) 2).bool (nth (row BA (0 : Int)) 3).bool (nth (row BA (0 : Int)) 4).list (nth (row BA (0 : Int)) 5).list (nth (row BA (0 : Int)) 6).list (nth (row BA (0 : Int)) 7).list (nth (row BA (0 : Int)) 8).int) ct.toNat)) (fun j hj => ?_) ?_ ct.toNat 0 (by omega)
  · exact ⟨_, key⟩
  · show (qg_15_step k s sg bg NA NU ME BA ct (Lib.repeatL (zelV (nth (row BA (0 : Int)) 0).int (nth (row BA (0 : Int)) 1).int (nth (row BA (0 : Int)) 2).bool (nth (row BA (0 : Int)) 3).bool (nth (row BA (0 : Int)) 4).list (nth (row BA (0 : Int)) 5).list (nth (row BA (0 : Int)) 6).list (nth (row BA (0 : Int)) 7).list (nth (row BA (0 : Int)) 8).int) j) (j : Int)).val = _
    unfold qg_15_step
    rw [show qg_rv (nth (row BA (0 : Int)) 0).int (nth (row BA (0 : Int)) 1).int (nth (row BA (0 : Int)) 2).bool (nth (row BA (0 : Int)) 3).bool (nth (row BA (0 : Int)) 4).list (nth (row BA (0 : Int)) 5).list (nth (row BA (0 : Int)) 6).list (nth (row BA (0 : Int)) 7).list (nth (row BA (0 : Int)) 8).int = zelV (nth (row BA (0 : Int)) 0).int (nth (row BA (0 : Int)) 1).int (nth (row BA (0 : Int)) 2).bool (nth (row BA (0 : Int)) 3).bool (nth (row BA (0 : Int)) 4).list (nth (row BA (0 : Int)) 5).list (nth (row BA (0 : Int)) 6).list (nth (row BA (0 : Int)) 7).list (nth (row BA (0 : Int)) 8).int from rfl]
    have hlen : (Lib.repeatL (zelV (nth (row BA (0 : Int)) 0).int (nth (row BA (0 : Int)) 1).int (nth (row BA (0 : Int)) 2).bool (nth (row BA (0 : Int)) 3).bool (nth (row BA (0 : Int)) 4).list (nth (row BA (0 : Int)) 5).list (nth (row BA (0 : Int)) 6).list (nth (row BA (0 : Int)) 7).list (nth (row BA (0 : Int)) 8).int) j).length ≤ 4 * 24 := by
      rw [Lib.repeatL_length]
      exact Nat.mul_le_mul (by omega) (by omega)
    refine Tr.t (by simp; omega) (Tr.t (by constructor <;> omega) (Tr.t hr (Tr.t (by omega) ?_)))
    rw [Tr.val_ok, wrap64 (i := (j : Int) + 1) (by omega) (by omega), rep_snoc]; rfl
  · show (qg_15_step k s sg bg NA NU ME BA ct (Lib.repeatL (zelV (nth (row BA (0 : Int)) 0).int (nth (row BA (0 : Int)) 1).int (nth (row BA (0 : Int)) 2).bool (nth (row BA (0 : Int)) 3).bool (nth (row BA (0 : Int)) 4).list (nth (row BA (0 : Int)) 5).list (nth (row BA (0 : Int)) 6).list (nth (row BA (0 : Int)) 7).list (nth (row BA (0 : Int)) 8).int) ct.toNat) (ct.toNat : Int)).val = _
    unfold qg_15_step
    refine Tr.n (by simp; omega) ?_
    rfl
theorem qg_is15 : LoopIs tab FT D30 live 60 qg_lo 1 15 := by
  refine loop_told (sl := qg_15_sl) (step := qg_15_st) (out := qg_15_out) (lor := qg_lo15) (fin := fun x => (qg_15_fin (x.1) (x.2.1) (x.2.2.1) (x.2.2.2.1) (x.2.2.2.2.1) (x.2.2.2.2.2.1) (x.2.2.2.2.2.2.1) (x.2.2.2.2.2.2.2.1) (x.2.2.2.2.2.2.2.2.1) (x.2.2.2.2.2.2.2.2.2.1) (x.2.2.2.2.2.2.2.2.2.2))) (fun _ => rfl) ?_ (fun x n => qg_15_r x.1 x.2.1 x.2.2.1 x.2.2.2.1 x.2.2.2.2.1 x.2.2.2.2.2.1 x.2.2.2.2.2.2.1 x.2.2.2.2.2.2.2.1 x.2.2.2.2.2.2.2.2.1 x.2.2.2.2.2.2.2.2.2.1 x.2.2.2.2.2.2.2.2.2.2 n) (fun x ow => qg_15_h x.1 x.2.1 x.2.2.1 x.2.2.2.1 x.2.2.2.2.1 x.2.2.2.2.2.1 x.2.2.2.2.2.2.1 x.2.2.2.2.2.2.2.1 x.2.2.2.2.2.2.2.2.1 x.2.2.2.2.2.2.2.2.2.1 x.2.2.2.2.2.2.2.2.2.2 ow)
  intro s t h
  unfold qg_lo15 at h
  split at h
  · cases h; exact ⟨(_, _, _, _, _, _, _, _, _, _, _), rfl, rfl⟩
  · cases h
theorem qg_7_r (k s : Int) (sg bg : Bool) (NA NU ME BA : LL) (ct : Int) (o : BS) (i : Int) (fuel : Nat) : rounds (rnd tab FT D30 live 60 qg_lo 0 7) leave (fuel + 1) (qg_7_sl (k, s, sg, bg, NA, NU, ME, BA, ct, o, i)) = ((qg_7_step k s sg bg NA NU ME BA ct o i)).run (goOn (fun s => rounds (rnd tab FT D30 live 60 qg_lo 0 7) leave fuel (qg_7_sl s)) fun w => some (qg_7_out w)) := by kernel_rfl
theorem qg_7_h (k s : Int) (sg bg : Bool) (NA NU ME BA : LL) (ct : Int) (o : BS) (i : Int) (ow : qg_7_ω) : ((qg_7_fin k s sg bg NA NU ME BA ct o i)).val = some ow → ∃ fuel, loopN qg_7_st fuel (k, s, sg, bg, NA, NU, ME, BA, ct, o, i) = some ow := by
  intro h
  refine auto_leaf (R := (k, s, sg, bg, NA, NU, ME, BA, ct, ME.foldl zF [])) (fun ho => ?_) h
  obtain ⟨rfl, rfl, hk, hr⟩ := is_iff.1 ho
  have key := loopN_run (step := qg_7_st) (N := ME.length) (fun j => (k, s, sg, bg, NA, NU, ME, BA, ct, (ME.take j).foldl zF [], (j : Int))) (w := (k, s, sg, bg, NA, NU, ME, BA, ct, ME.foldl zF [])) (fun j hj => ?_) ?_ ME.length 0 (by omega)
  · exact ⟨_, Eq.trans (congrArg (loopN qg_7_st _) (by simp)) key⟩
  · have hx : row ME (j : Int) ∈ ME := by rw [row_nat]; exact mem_getD hj
    obtain ⟨z1, z2⟩ := zero_len (okV_mem hk _ hx)
    have hl := zfold_len hk (fun x hx => zero_len (okV_mem hk x hx)) j (by omega)
    obtain ⟨c1, c2, c3, c4, c5⟩ := okV_cmp hk
    obtain ⟨m1, m2⟩ := c5 j hj
    have hs1 := zfold_len hk (fun x hx => zero_len (okV_mem hk x hx)) (j + 1) (by omega)
    have hle := endAt_le hk (fun x hx => zero_len (okV_mem hk x hx)) (j + 1) (by omega)
    have htk : ME.take (j + 1) = ME.take j ++ [row ME (j : Int)] := by rw [List.take_succ_eq_append_getElem hj, row_nat, getD_at hj]
    have hst : (ME.take (j + 1)).foldl zF [] = zF ((ME.take j).foldl zF []) (row ME (j : Int)) := by rw [htk, List.foldl_append]; rfl
    rw [hst]
    generalize (ME.take j).foldl zF [] = O at hl ⊢
    unfold zF
    show (qg_7_step k s sg bg NA NU ME BA ct O (j : Int)).val = _
    unfold qg_7_step
    rw [show qg_rv (nth (row ME (j : Int)) 2).int (nth (row ME (j : Int)) 3).int (nth (row ME (j : Int)) 4).bool (nth (row ME (j : Int)) 5).bool (nth (row ME (j : Int)) 6).list (nth (row ME (j : Int)) 7).list (nth (row ME (j : Int)) 8).list (nth (row ME (j : Int)) 9).list (nth (row ME (j : Int)) 10).int = zelV (nth (row ME (j : Int)) 2).int (nth (row ME (j : Int)) 3).int (nth (row ME (j : Int)) 4).bool (nth (row ME (j : Int)) 5).bool (nth (row ME (j : Int)) 6).list (nth (row ME (j : Int)) 7).list (nth (row ME (j : Int)) 8).list (nth (row ME (j : Int)) 9).list (nth (row ME (j : Int)) 10).int from rfl, qcb_h, wrap64 (i := (nth (row ME (j : Int)) 1).int - (O.length : Int)) (by omega) (by omega)]
    generalize zelV (nth (row ME (j : Int)) 2).int (nth (row ME (j : Int)) 3).int (nth (row ME (j : Int)) 4).bool (nth (row ME (j : Int)) 5).bool (nth (row ME (j : Int)) 6).list (nth (row ME (j : Int)) 7).list (nth (row ME (j : Int)) 8).list (nth (row ME (j : Int)) 9).list (nth (row ME (j : Int)) 10).int = Z at z1 ⊢
    refine Tr.t (by simp; omega) (Tr.t (by constructor <;> omega) (Tr.t (is_true (by omega)) (Tr.t (hr _ hx) (Tr.t (by simp only [List.length_append, zl_len]; omega) (Tr.t (by simp only [List.length_append, zl_len]; omega) ?_)))))
    rw [Tr.val_ok, wrap64 (i := (j : Int) + 1) (by omega) (by omega)]
    rfl
  · show (qg_7_step k s sg bg NA NU ME BA ct ((ME.take ME.length).foldl zF []) (ME.length : Int)).val = _
    rw [List.take_length]
    unfold qg_7_step
    refine Tr.n (by simp) ?_
    rfl
theorem qg_is7 : LoopIs tab FT D30 live 60 qg_lo 0 7 := by
  refine loop_told (sl := qg_7_sl) (step := qg_7_st) (out := qg_7_out) (lor := qg_lo7) (fin := fun x => (qg_7_fin (x.1) (x.2.1) (x.2.2.1) (x.2.2.2.1) (x.2.2.2.2.1) (x.2.2.2.2.2.1) (x.2.2.2.2.2.2.1) (x.2.2.2.2.2.2.2.1) (x.2.2.2.2.2.2.2.2.1) (x.2.2.2.2.2.2.2.2.2.1) (x.2.2.2.2.2.2.2.2.2.2))) (fun _ => rfl) ?_ (fun x n => qg_7_r x.1 x.2.1 x.2.2.1 x.2.2.2.1 x.2.2.2.2.1 x.2.2.2.2.2.1 x.2.2.2.2.2.2.1 x.2.2.2.2.2.2.2.1 x.2.2.2.2.2.2.2.2.1 x.2.2.2.2.2.2.2.2.2.1 x.2.2.2.2.2.2.2.2.2.2 n) (fun x ow => qg_7_h x.1 x.2.1 x.2.2.1 x.2.2.2.1 x.2.2.2.2.1 x.2.2.2.2.2.1 x.2.2.2.2.2.2.1 x.2.2.2.2.2.2.2.1 x.2.2.2.2.2.2.2.2.1 x.2.2.2.2.2.2.2.2.2.1 x.2.2.2.2.2.2.2.2.2.2 ow)
  intro s t h
  unfold qg_lo7 at h
  split at h
  · cases h; exact ⟨(_, _, _, _, _, _, _, _, _, _, _), rfl, rfl⟩
  · cases h
def qg_t (k s : Int) (sg bg : Bool) (NA NU ME BA : LL) (ct : Int) : Tr (BS) := (.ite ((k == (3 : Int)) = true) (.ite ((0 : Int) ≤ (0 : Int) ∧ (0 : Int) < (NU.length : Int)) (.ite ((0 : Int) ≤ (0 : Int) ∧ (0 : Int) < (BA.length : Int)) (.ite ((0 : Int) ≤ (0 : Int) ∧ (0 : Int) < (BA.length : Int)) (.ite ((qbr_c ((nth (row NU (0 : Int)) 0).int) ((nth (row BA (0 : Int)) 1).int) ((nth (row BA (0 : Int)) 3).bool)) = true) (.ok (qbr_v ((nth (row NU (0 : Int)) 0).int) ((nth (row BA (0 : Int)) 1).int) ((nth (row BA (0 : Int)) 3).bool)))
      .no)
     .no)
    .no)
   .no)
  (.ite ((k == (4 : Int)) = true) (.ite ((qg_o7_1 k s sg bg NA NU ME BA ct [] (0 : Int)) = true) (.ite ((qcb_c (IntKind.wrap .i64 (s - ((qg_u7_1_9 k s sg bg NA NU ME BA ct [] (0 : Int)).length : Int)))) = true) (.ite ((((qg_u7_1_9 k s sg bg NA NU ME BA ct [] (0 : Int)).length + (qcb_v (IntKind.wrap .i64 (s - ((qg_u7_1_9 k s sg bg NA NU ME BA ct [] (0 : Int)).length : Int)))).length : Nat) : Int) ≤ 9223372036854775807) (.ok ((qg_u7_1_9 k s sg bg NA NU ME BA ct [] (0 : Int)) ++ (qcb_v (IntKind.wrap .i64 (s - ((qg_u7_1_9 k s sg bg NA NU ME BA ct [] (0 : Int)).length : Int))))))
      .no)
     .no)
    .no)
   (.ite ((k == (5 : Int)) = true) (.ite ((qg_o15_1 k s sg bg NA NU ME BA ct [] (0 : Int)) = true) (.ok (qg_u15_1_9 k s sg bg NA NU ME BA ct [] (0 : Int)))
     .no)
    (.ite ((qcb_c s) = true) (.ok (qcb_v s))
     .no))))
def qg_mk (p : BS) : Res := [(false, [⟨.str, .sh, TC.s p⟩])]
def qg_c (k s : Int) (sg bg : Bool) (NA NU ME BA : LL) (ct : Int) : Bool := (bif (k == (3 : Int)) then (is ((0 : Int) ≤ (0 : Int) ∧ (0 : Int) < (NU.length : Int)) && (is ((0 : Int) ≤ (0 : Int) ∧ (0 : Int) < (BA.length : Int)) && (is ((0 : Int) ≤ (0 : Int) ∧ (0 : Int) < (BA.length : Int)) && ((qbr_c ((nth (row NU (0 : Int)) 0).int) ((nth (row BA (0 : Int)) 1).int) ((nth (row BA (0 : Int)) 3).bool)) && true)))) else (bif (k == (4 : Int)) then ((qg_o7_1 k s sg bg NA NU ME BA ct [] (0 : Int)) && ((qcb_c (IntKind.wrap .i64 (s - ((qg_u7_1_9 k s sg bg NA NU ME BA ct [] (0 : Int)).length : Int)))) && (is ((((qg_u7_1_9 k s sg bg NA NU ME BA ct [] (0 : Int)).length + (qcb_v (IntKind.wrap .i64 (s - ((qg_u7_1_9 k s sg bg NA NU ME BA ct [] (0 : Int)).length : Int)))).length : Nat) : Int) ≤ 9223372036854775807) && true))) else (bif (k == (5 : Int)) then ((qg_o15_1 k s sg bg NA NU ME BA ct [] (0 : Int)) && true) else ((qcb_c s) && true))))
def qg_v (k s : Int) (sg bg : Bool) (NA NU ME BA : LL) (ct : Int) : BS := (bif (k == (3 : Int)) then (qbr_v ((nth (row NU (0 : Int)) 0).int) ((nth (row BA (0 : Int)) 1).int) ((nth (row BA (0 : Int)) 3).bool)) else (bif (k == (4 : Int)) then ((qg_u7_1_9 k s sg bg NA NU ME BA ct [] (0 : Int)) ++ (qcb_v (IntKind.wrap .i64 (s - ((qg_u7_1_9 k s sg bg NA NU ME BA ct [] (0 : Int)).length : Int))))) else (bif (k == (5 : Int)) then (qg_u15_1_9 k s sg bg NA NU ME BA ct [] (0 : Int)) else (qcb_v s))))
theorem qg_l (k s : Int) (sg bg : Bool) (NA NU ME BA : LL) (ct : Int) : (qg_c k s sg bg NA NU ME BA ct) = true → (qg_t k s sg bg NA NU ME BA ct).val = some (qg_v k s sg bg NA NU ME BA ct) := by
  unfold qg_t qg_v qg_c
  exact fun h => (Tr.ss h (fun h => (Tr.gs h fun h => (Tr.gs h fun h => (Tr.gs h fun h => (Tr.gb h fun h => rfl))))) (fun h => (Tr.ss h (fun h => (Tr.gb h fun h => (Tr.gb h fun h => (Tr.gs h fun h => rfl)))) (fun h => (Tr.ss h (fun h => (Tr.gb h fun h => rfl)) (fun h => (Tr.gb h fun h => rfl)))))))
theorem qg_e (k s : Int) (sg bg : Bool) (NA NU ME BA : LL) (ct : Int) : runF tab FT D30 live 60 qg_lo [(true, [(.int .i64, TC.i k), (.int .i64, TC.i s), (.bool, TC.b sg), (.bool, TC.b bg), (.slice 9, TC.l NA), (.slice 2, TC.l NU), (.slice 71, TC.l ME), (.slice 32, TC.l BA), (.int .i64, TC.i ct)])] = (qg_t k s sg bg NA NU ME BA ct).run fun p => some (qg_mk p) := by kernel_rfl
theorem qg_nx (k s : Int) (sg bg : Bool) (NA NU ME BA : LL) (ct : Int) : is (max (rowsDep ME) (rowsDep BA) < qg_O.n + 1 ∧ okV k s sg bg NA NU ME BA ct = true) = true → (qg_c k s sg bg NA NU ME BA ct) = true ∧ (qg_v k s sg bg NA NU ME BA ct) = zelV k s sg bg NA NU ME BA ct := by
  intro h
  obtain ⟨hM, hk⟩ := is_iff.1 h
  unfold qg_c qg_v
  simp only [qcb_h]
  have hrb : 0 < BA.length → okV (nth (row BA (0 : Int)) 0).int (nth (row BA (0 : Int)) 1).int (nth (row BA (0 : Int)) 2).bool (nth (row BA (0 : Int)) 3).bool (nth (row BA (0 : Int)) 4).list (nth (row BA (0 : Int)) 5).list (nth (row BA (0 : Int)) 6).list (nth (row BA (0 : Int)) 7).list (nth (row BA (0 : Int)) 8).int = true → qg_rc (nth (row BA (0 : Int)) 0).int (nth (row BA (0 : Int)) 1).int (nth (row BA (0 : Int)) 2).bool (nth (row BA (0 : Int)) 3).bool (nth (row BA (0 : Int)) 4).list (nth (row BA (0 : Int)) 5).list (nth (row BA (0 : Int)) 6).list (nth (row BA (0 : Int)) 7).list (nth (row BA (0 : Int)) 8).int = true := fun hb ho => is_true ⟨by have := dep_base (ME := ME) hb 6 7; omega, ho⟩
  have hrm : (∀ x : List TC, x ∈ ME → okV (nth x 2).int (nth x 3).int (nth x 4).bool (nth x 5).bool (nth x 6).list (nth x 7).list (nth x 8).list (nth x 9).list (nth x 10).int = true) → ∀ x : List TC, x ∈ ME → qg_rc (nth x 2).int (nth x 3).int (nth x 4).bool (nth x 5).bool (nth x 6).list (nth x 7).list (nth x 8).list (nth x 9).list (nth x 10).int = true := fun ho x hx => is_true ⟨by have := dep_max (BA := BA) hx 8 9; omega, ho x hx⟩
  have hle : ∀ n : Int, zl n = List.replicate n.toNat 0 := fun _ => rfl
  have ht := (okV_top hk).1
  have hzz := (zero_len hk).1
  rcases okV_kind hk with rfl | rfl | rfl | rfl | rfl | rfl
  · rw [size_else (by decide) (by decide)] at ht hzz
    rw [zelV_else rfl rfl rfl]
    simp only [Int.reduceBEq, cond_true, cond_false]
    exact ⟨andT (is_true (by omega)) rfl, by first | rfl | trivial⟩
  · rw [size_else (by decide) (by decide)] at ht hzz
    rw [zelV_else rfl rfl rfl]
    simp only [Int.reduceBEq, cond_true, cond_false]
    exact ⟨andT (is_true (by omega)) rfl, by first | rfl | trivial⟩
  · obtain ⟨n1, n2, n3, n4, n5, e6, -⟩ := okV_enum hk
    rw [zelV_3]
    simp only [Int.reduceBEq, cond_true, cond_false]
    have e1 : (nth (row NU (0 : Int)) 0).int = intAt NU 0 := rfl
    rw [e1, show qbr_c (intAt NU 0) (nth (row BA (0 : Int)) 1).int (nth (row BA (0 : Int)) 3).bool = true from is_true (szOk_nat (intV_sz e6)), qbr_h]
    exact ⟨andT (is_true (by constructor <;> omega)) (andT (is_true (by constructor <;> omega)) (andT (is_true (by constructor <;> omega)) rfl)), by first | rfl | trivial⟩
  · obtain ⟨c1, c2, c3, c4, c5⟩ := okV_cmp hk
    have hr := hrm (okV_mem hk)
    have hl := zfold_len hk (fun x hx => zero_len (okV_mem hk x hx)) ME.length (Nat.le_refl _)
    rw [List.take_length] at hl
    rw [zelV_4]
    simp only [Int.reduceBEq, cond_true, cond_false]
    rw [show qg_u7_1_9 4 s sg bg NA NU ME BA ct [] (0 : Int) = ME.foldl zF [] from rfl, show qg_o7_1 4 s sg bg NA NU ME BA ct [] (0 : Int) = true from is_true ⟨rfl, rfl, hk, hr⟩]
    generalize ME.foldl zF [] = O at hl ⊢
    rw [wrap64 (i := s - (O.length : Int)) (by omega) (by omega)]
    exact ⟨andT rfl (andT (is_true (by omega)) (andT (is_true (by simp only [List.length_append, zl_len]; omega)) rfl)), by first | rfl | trivial⟩
  · obtain ⟨hb, ho⟩ := okV_base hk
    have hr := hrb hb ho
    obtain ⟨z1, z2⟩ := zero_len ho
    rw [zelV_5 hb]
    simp only [Int.reduceBEq, cond_true, cond_false]
    rw [show qg_o15_1 5 s sg bg NA NU ME BA ct [] (0 : Int) = true from is_true ⟨rfl, rfl, hk, hr⟩]
    exact ⟨rfl, by first | rfl | trivial⟩
  · rw [size_else (by decide) (by decide)] at ht hzz
    rw [zelV_else rfl rfl rfl]
    simp only [Int.reduceBEq, cond_true, cond_false]
    exact ⟨andT (is_true (by omega)) rfl, by first | rfl | trivial⟩
theorem qg_nxr (k s : Int) (sg bg : Bool) (NA NU ME BA : LL) (ct : Int) : qg_rc (i_spec_l03Zero := ⟨qg_O.n + 1⟩) k s sg bg NA NU ME BA ct = true → (qg_c k s sg bg NA NU ME BA ct) = true ∧ (qg_v k s sg bg NA NU ME BA ct) = (qg_rv k s sg bg NA NU ME BA ct) := fun h => qg_nx k s sg bg NA NU ME BA ct h
theorem qg_rs : ∀ xs r, qg_rS (i_spec_l03Zero := ⟨qg_O.n + 1⟩) xs = some (true, r) → runF tab FT D30 live 60 qg_lo xs = some r := by
  intro xs r h
  unfold qg_rS at h
  split at h
  · obtain ⟨h1, rfl⟩ := sp h
    have hx := qg_nxr _ _ _ _ _ _ _ _ _ h1
    have ht := fun_told (qg_e ..) (qg_l _ _ _ _ _ _ _ _ _) hx.1
    rw [hx.2] at ht
    exact ht
  · cases h
theorem qg_step : qg_G (i_spec_l03Zero := ⟨qg_O.n + 1⟩) := by
  have h := DOk.also2 (S := qg_rS (i_spec_l03Zero := ⟨qg_O.n + 1⟩)) mixed_ok tab_ok names_ok d29 d30 (fnLoops_two (by kernel_rfl) qg_is7 qg_is15) qg_rs
  refine qg_G.mk (i_spec_l03Zero := ⟨qg_O.n + 1⟩) ?_
  exact h
def qbv_t (k s : Int) (sg bg : Bool) (NA NU ME BA : LL) (ct : Int) : Tr (BS) := (.ite ((qbi_rc k s sg bg NA NU ME BA ct) = true) (.ite ((!(qbi_rv k s sg bg NA NU ME BA ct)) = true) (.ok ([]))
   (.ite ((qg_rc k s sg bg NA NU ME BA ct) = true) (.ok (qg_rv k s sg bg NA NU ME BA ct))
    .no))
  .no)
def qbv_mk (p : BS) : Res := [(false, [⟨.str, .sh, TC.s p⟩])]
def qbv_c (k s : Int) (sg bg : Bool) (NA NU ME BA : LL) (ct : Int) : Bool := ((qbi_rc k s sg bg NA NU ME BA ct) && (bif (!(qbi_rv k s sg bg NA NU ME BA ct)) then true else ((qg_rc k s sg bg NA NU ME BA ct) && true)))
def qbv_v (k s : Int) (sg bg : Bool) (NA NU ME BA : LL) (ct : Int) : BS := (bif (!(qbi_rv k s sg bg NA NU ME BA ct)) then [] else (qg_rv k s sg bg NA NU ME BA ct))
theorem qbv_l (k s : Int) (sg bg : Bool) (NA NU ME BA : LL) (ct : Int) : (qbv_c k s sg bg NA NU ME BA ct) = true → (qbv_t k s sg bg NA NU ME BA ct).val = some (qbv_v k s sg bg NA NU ME BA ct) := by
  unfold qbv_t qbv_v qbv_c
  exact fun h => (Tr.gb h fun h => (Tr.ss h (fun h => rfl) (fun h => (Tr.gb h fun h => rfl))))
def qbv_S : List Arg → Option (Bool × Res) := fun xs => match xs with
  | [(true, [(.int .i64, TC.i k), (.int .i64, TC.i s), (.bool, TC.b sg), (.bool, TC.b bg), (.slice 9, TC.l NA), (.slice 2, TC.l NU), (.slice 71, TC.l ME), (.slice 32, TC.l BA), (.int .i64, TC.i ct)])] => some ((qbv_c k s sg bg NA NU ME BA ct), qbv_mk (qbv_v k s sg bg NA NU ME BA ct))
  | _ => .none
theorem qbv_e (k s : Int) (sg bg : Bool) (NA NU ME BA : LL) (ct : Int) : runF tab FT D30 live 24 noLoops [(true, [(.int .i64, TC.i k), (.int .i64, TC.i s), (.bool, TC.b sg), (.bool, TC.b bg), (.slice 9, TC.l NA), (.slice 2, TC.l NU), (.slice 71, TC.l ME), (.slice 32, TC.l BA), (.int .i64, TC.i ct)])] = (qbv_t k s sg bg NA NU ME BA ct).run fun p => some (qbv_mk p) := by kernel_rfl
theorem qbv_s : ∀ xs r, qbv_S xs = some (true, r) → runF tab FT D30 live 24 noLoops xs = some r := by
  intro xs r h
  unfold qbv_S at h
  split at h
  · obtain ⟨h1, rfl⟩ := sp h
    exact fun_told (qbv_e ..) (qbv_l _ _ _ _ _ _ _ _ _) h1
  · cases h
def D31 : Dt := also D30 24 qbv_S
theorem d31 : DOk Go.Proofs.Try.prog tab D31 := d30.also mixed_ok tab_ok names_ok noLoops_ok qbv_s
theorem qbv_cc {k : Int} {s : Int} {sg : Bool} {bg : Bool} {NA : LL} {NU : LL} {ME : LL} {BA : LL} {ct : Int} (okc : qbi_rc k s sg bg NA NU ME BA ct = true)(zec : okV k s sg bg NA NU ME BA ct = true → qg_rc k s sg bg NA NU ME BA ct = true) : (qbv_c k s sg bg NA NU ME BA ct) = true := by
  unfold qbv_c
  refine andT (by exact okc) ?_
  refine bifT (fun b1 => ?_) (fun b1 => ?_)
  · skip
    rfl
  · skip
    refine andT (by exact zec (by (show okV k s sg bg NA NU ME BA ct = true; have q : qbi_rv k s sg bg NA NU ME BA ct = true := (by simpa using b1); exact q))) ?_
    rfl
theorem qbv_vv (k s : Int) (sg bg : Bool) (NA NU ME BA : LL) (ct : Int) : qbv_v k s sg bg NA NU ME BA ct = bif okV k s sg bg NA NU ME BA ct then zelV k s sg bg NA NU ME BA ct else [] := by
  show (bif !(okV k s sg bg NA NU ME BA ct) then [] else zelV k s sg bg NA NU ME BA ct) = _
  cases okV k s sg bg NA NU ME BA ct <;> rfl
section
class qw_O where n : Nat
variable [i_impl_Type_size : qw_O]
def qw_rc (k s : Int) (sg bg : Bool) (NA NU ME BA : LL) (ct : Int) : Bool := is (rowsDep BA < qw_O.n ∧ isizeC k BA = true)
def qw_rv (k s : Int) (sg bg : Bool) (NA NU ME BA : LL) (ct : Int) : Int := isizeV k s BA ct
def qw_rmk (p : Int) : Res := [(false, [⟨.int .i64, .sh, TC.i p⟩])]
def qw_rS : List Arg → Option (Bool × Res) := fun xs => match xs with
  | [(true, [(.int .i64, TC.i k), (.int .i64, TC.i s), (.bool, TC.b sg), (.bool, TC.b bg), (.slice 9, TC.l NA), (.slice 2, TC.l NU), (.slice 71, TC.l ME), (.slice 32, TC.l BA), (.int .i64, TC.i ct)])] => some ((qw_rc k s sg bg NA NU ME BA ct), qw_rmk (qw_rv k s sg bg NA NU ME BA ct))
  | _ => .none
def D32 : Dt := also D31 75 qw_rS
class qw_G : Prop where ok : DOk Go.Proofs.Try.prog tab D32
variable [g_impl_Type_size : qw_G]
theorem d32 : DOk Go.Proofs.Try.prog tab D32 := qw_G.ok
def qw_t (k s : Int) (sg bg : Bool) (NA NU ME BA : LL) (ct : Int) : Tr (Int) := (.ite ((k == (3 : Int)) = true) (.ite ((0 : Int) ≤ (0 : Int) ∧ (0 : Int) < (BA.length : Int)) (.ite ((qw_rc ((nth (row BA (0 : Int)) 0).int) ((nth (row BA (0 : Int)) 1).int) ((nth (row BA (0 : Int)) 2).bool) ((nth (row BA (0 : Int)) 3).bool) ((nth (row BA (0 : Int)) 4).list) ((nth (row BA (0 : Int)) 5).list) ((nth (row BA (0 : Int)) 6).list) ((nth (row BA (0 : Int)) 7).list) ((nth (row BA (0 : Int)) 8).int)) = true) (.ok (qw_rv ((nth (row BA (0 : Int)) 0).int) ((nth (row BA (0 : Int)) 1).int) ((nth (row BA (0 : Int)) 2).bool) ((nth (row BA (0 : Int)) 3).bool) ((nth (row BA (0 : Int)) 4).list) ((nth (row BA (0 : Int)) 5).list) ((nth (row BA (0 : Int)) 6).list) ((nth (row BA (0 : Int)) 7).list) ((nth (row BA (0 : Int)) 8).int)))
    .no)
   .no)
  (.ite ((k == (5 : Int)) = true) (.ite ((0 : Int) ≤ (0 : Int) ∧ (0 : Int) < (BA.length : Int)) (.ite ((qw_rc ((nth (row BA (0 : Int)) 0).int) ((nth (row BA (0 : Int)) 1).int) ((nth (row BA (0 : Int)) 2).bool) ((nth (row BA (0 : Int)) 3).bool) ((nth (row BA (0 : Int)) 4).list) ((nth (row BA (0 : Int)) 5).list) ((nth (row BA (0 : Int)) 6).list) ((nth (row BA (0 : Int)) 7).list) ((nth (row BA (0 : Int)) 8).int)) = true) (.ok (IntKind.wrap .i64 (ct * (qw_rv ((nth (row BA (0 : Int)) 0).int) ((nth (row BA (0 : Int)) 1).int) ((nth (row BA (0 : Int)) 2).bool) ((nth (row BA (0 : Int)) 3).bool) ((nth (row BA (0 : Int)) 4).list) ((nth (row BA (0 : Int)) 5).list) ((nth (row BA (0 : Int)) 6).list) ((nth (row BA (0 : Int)) 7).list) ((nth (row BA (0 : Int)) 8).int)))))
     .no)
    .no)
   (.ok s)))
def qw_mk (p : Int) : Res := [(false, [⟨.int .i64, .sh, TC.i p⟩])]
def qw_c (k s : Int) (sg bg : Bool) (NA NU ME BA : LL) (ct : Int) : Bool := (bif (k == (3 : Int)) then (is ((0 : Int) ≤ (0 : Int) ∧ (0 : Int) < (BA.length : Int)) && ((qw_rc ((nth (row BA (0 : Int)) 0).int) ((nth (row BA (0 : Int)) 1).int) ((nth (row BA (0 : Int)) 2).bool) ((nth (row BA (0 : Int)) 3).bool) ((nth (row BA (0 : Int)) 4).list) ((nth (row BA (0 : Int)) 5).list) ((nth (row BA (0 : Int)) 6).list) ((nth (row BA (0 : Int)) 7).list) ((nth (row BA (0 : Int)) 8).int)) && true)) else (bif (k == (5 : Int)) then (is ((0 : Int) ≤ (0 : Int) ∧ (0 : Int) < (BA.length : Int)) && ((qw_rc ((nth (row BA (0 : Int)) 0).int) ((nth (row BA (0 : Int)) 1).int) ((nth (row BA (0 : Int)) 2).bool) ((nth (row BA (0 : Int)) 3).bool) ((nth (row BA (0 : Int)) 4).list) ((nth (row BA (0 : Int)) 5).list) ((nth (row BA (0 : Int)) 6).list) ((nth (row BA (0 : Int)) 7).list) ((nth (row BA (0 : Int)) 8).int)) && true)) else true))
def qw_v (k s : Int) (sg bg : Bool) (NA NU ME BA : LL) (ct : Int) : Int := (bif (k == (3 : Int)) then (qw_rv ((nth (row BA (0 : Int)) 0).int) ((nth (row BA (0 : Int)) 1).int) ((nth (row BA (0 : Int)) 2).bool) ((nth (row BA (0 : Int)) 3).bool) ((nth (row BA (0 : Int)) 4).list) ((nth (row BA (0 : Int)) 5).list) ((nth (row BA (0 : Int)) 6).list) ((nth (row BA (0 : Int)) 7).list) ((nth (row BA (0 : Int)) 8).int)) else (bif (k == (5 : Int)) then (IntKind.wrap .i64 (ct * (qw_rv ((nth (row BA (0 : Int)) 0).int) ((nth (row BA (0 : Int)) 1).int) ((nth (row BA (0 : Int)) 2).bool) ((nth (row BA (0 : Int)) 3).bool) ((nth (row BA (0 : Int)) 4).list) ((nth (row BA (0 : Int)) 5).list) ((nth (row BA (0 : Int)) 6).list) ((nth (row BA (0 : Int)) 7).list) ((nth (row BA (0 : Int)) 8).int)))) else s))
theorem qw_l (k s : Int) (sg bg : Bool) (NA NU ME BA : LL) (ct : Int) : (qw_c k s sg bg NA NU ME BA ct) = true → (qw_t k s sg bg NA NU ME BA ct).val = some (qw_v k s sg bg NA NU ME BA ct) := by
  unfold qw_t qw_v qw_c
  exact fun h => (Tr.ss h (fun h => (Tr.gs h fun h => (Tr.gb h fun h => rfl))) (fun h => (Tr.ss h (fun h => (Tr.gs h fun h => (Tr.gb h fun h => rfl))) (fun h => rfl))))
theorem qw_e (k s : Int) (sg bg : Bool) (NA NU ME BA : LL) (ct : Int) : runF tab FT D32 live 75 noLoops [(true, [(.int .i64, TC.i k), (.int .i64, TC.i s), (.bool, TC.b sg), (.bool, TC.b bg), (.slice 9, TC.l NA), (.slice 2, TC.l NU), (.slice 71, TC.l ME), (.slice 32, TC.l BA), (.int .i64, TC.i ct)])] = (qw_t k s sg bg NA NU ME BA ct).run fun p => some (qw_mk p) := by kernel_rfl
theorem qw_nx (k s : Int) (sg bg : Bool) (NA NU ME BA : LL) (ct : Int) : is (rowsDep BA < qw_O.n + 1 ∧ isizeC k BA = true) = true → (qw_c k s sg bg NA NU ME BA ct) = true ∧ (qw_v k s sg bg NA NU ME BA ct) = isizeV k s BA ct := by
  intro h
  obtain ⟨hM, hC⟩ := is_iff.1 h
  unfold qw_c qw_v
  rw [isizeC] at hC
  rw [isizeV]
  cases h3 : (k == 3) with
  | true =>
    simp only [h3, Bool.true_or, cond_true] at hC ⊢
    split at hC
    · rename_i hb
      rw [dif_pos hb]
      have := pos_row hb 7
      exact ⟨andT (is_true (by constructor <;> omega)) (andT (is_true ⟨by omega, hC⟩) rfl), rfl⟩
    · cases hC
  | false =>
    cases h5 : (k == 5) with
    | true =>
      simp only [h3, h5, Bool.false_or, cond_true, cond_false] at hC ⊢
      split at hC
      · rename_i hb
        rw [dif_pos hb]
        have := pos_row hb 7
        exact ⟨andT (is_true (by constructor <;> omega)) (andT (is_true ⟨by omega, hC⟩) rfl), rfl⟩
      · cases hC
    | false => exact ⟨rfl, rfl⟩
theorem qw_nxr (k s : Int) (sg bg : Bool) (NA NU ME BA : LL) (ct : Int) : qw_rc (i_impl_Type_size := ⟨qw_O.n + 1⟩) k s sg bg NA NU ME BA ct = true → (qw_c k s sg bg NA NU ME BA ct) = true ∧ (qw_v k s sg bg NA NU ME BA ct) = (qw_rv k s sg bg NA NU ME BA ct) := fun h => qw_nx k s sg bg NA NU ME BA ct h
theorem qw_rs : ∀ xs r, qw_rS (i_impl_Type_size := ⟨qw_O.n + 1⟩) xs = some (true, r) → runF tab FT D32 live 75 noLoops xs = some r := by
  intro xs r h
  unfold qw_rS at h
  split at h
  · obtain ⟨h1, rfl⟩ := sp h
    have hx := qw_nxr _ _ _ _ _ _ _ _ _ h1
    have ht := fun_told (qw_e ..) (qw_l _ _ _ _ _ _ _ _ _) hx.1
    rw [hx.2] at ht
    exact ht
  · cases h
theorem qw_step : qw_G (i_impl_Type_size := ⟨qw_O.n + 1⟩) := by
  have h := DOk.also2 (S := qw_rS (i_impl_Type_size := ⟨qw_O.n + 1⟩)) mixed_ok tab_ok names_ok d31 d32 noLoops_ok qw_rs
  refine qw_G.mk (i_impl_Type_size := ⟨qw_O.n + 1⟩) ?_
  exact h
def qbn_t (a0 a1 : Int) (a2 a3 : Bool) (a4 a5 a6 a7 : LL) (a8 : Int) : Tr (Int × Int × Bool × Bool × LL × LL × LL × LL × Int) := (.ite ((a0 == (1 : Int)) = true) (.ok (a0, a1, a2, a3, [], [], [], [], (0 : Int)))
  (.ite ((a0 == (2 : Int)) = true) (.ok (a0, a1, false, false, [], [], [], [], (0 : Int)))
   (.ite ((a0 == (6 : Int)) = true) (.ok (a0, a1, false, false, [], [], [], [], (0 : Int)))
    (.ite ((a0 == (3 : Int)) = true) (.ok (a0, (0 : Int), false, false, a4, a5, [], a7, (0 : Int)))
     (.ite ((a0 == (4 : Int)) = true) (.ok (a0, a1, false, false, [], [], a6, [], (0 : Int)))
      (.ite ((a0 == (5 : Int)) = true) (.ok (a0, (0 : Int), false, false, [], [], [], a7, a8))
       (.ok (a0, (0 : Int), false, false, [], [], [], [], (0 : Int)))))))))
def qbn_mk (p : Int × Int × Bool × Bool × LL × LL × LL × LL × Int) : Res := [(true, [⟨.int .i64, .sh, TC.i (p.1)⟩, ⟨.int .i64, .sh, TC.i (p.2.1)⟩, ⟨.bool, .sh, TC.b (p.2.2.1)⟩, ⟨.bool, .sh, TC.b (p.2.2.2.1)⟩, ⟨.slice 9, .sh, TC.l (p.2.2.2.2.1)⟩, ⟨.slice 2, .sh, TC.l (p.2.2.2.2.2.1)⟩, ⟨.slice 71, .sh, TC.l (p.2.2.2.2.2.2.1)⟩, ⟨.slice 32, .sh, TC.l (p.2.2.2.2.2.2.2.1)⟩, ⟨.int .i64, .sh, TC.i (p.2.2.2.2.2.2.2.2)⟩])]
def qbn_c (a0 a1 : Int) (a2 a3 : Bool) (a4 a5 a6 a7 : LL) (a8 : Int) : Bool := true
def qbn_v (a0 a1 : Int) (a2 a3 : Bool) (a4 a5 a6 a7 : LL) (a8 : Int) : Int × Int × Bool × Bool × LL × LL × LL × LL × Int := (bif (a0 == (1 : Int)) then (a0, a1, a2, a3, [], [], [], [], (0 : Int)) else (bif (a0 == (2 : Int)) then (a0, a1, false, false, [], [], [], [], (0 : Int)) else (bif (a0 == (6 : Int)) then (a0, a1, false, false, [], [], [], [], (0 : Int)) else (bif (a0 == (3 : Int)) then (a0, (0 : Int), false, false, a4, a5, [], a7, (0 : Int)) else (bif (a0 == (4 : Int)) then (a0, a1, false, false, [], [], a6, [], (0 : Int)) else (bif (a0 == (5 : Int)) then (a0, (0 : Int), false, false, [], [], [], a7, a8) else (a0, (0 : Int), false, false, [], [], [], [], (0 : Int))))))))
theorem qbn_l (a0 a1 : Int) (a2 a3 : Bool) (a4 a5 a6 a7 : LL) (a8 : Int) : (qbn_c a0 a1 a2 a3 a4 a5 a6 a7 a8) = true → (qbn_t a0 a1 a2 a3 a4 a5 a6 a7 a8).val = some (qbn_v a0 a1 a2 a3 a4 a5 a6 a7 a8) := by
  intro h
  skip
  unfold qbn_t qbn_v
  exact (Tr.s rfl (Tr.s rfl (Tr.s rfl (Tr.s rfl (Tr.s rfl (Tr.s rfl rfl))))))
def qbn_S : List Arg → Option (Bool × Res) := fun xs => match xs with
  | [(true, [(.int .i64, TC.i a0), (.int .i64, TC.i a1), (.bool, TC.b a2), (.bool, TC.b a3), (.slice 9, TC.l a4), (.slice 2, TC.l a5), (.slice 71, TC.l a6), (.slice 32, TC.l a7), (.int .i64, TC.i a8)])] => some (true, qbn_mk (qbn_v a0 a1 a2 a3 a4 a5 a6 a7 a8))
  | _ => .none
theorem qbn_e (a0 a1 : Int) (a2 a3 : Bool) (a4 a5 a6 a7 : LL) (a8 : Int) : runF tab FT D32 live 103 noLoops [(true, [(.int .i64, TC.i a0), (.int .i64, TC.i a1), (.bool, TC.b a2), (.bool, TC.b a3), (.slice 9, TC.l a4), (.slice 2, TC.l a5), (.slice 71, TC.l a6), (.slice 32, TC.l a7), (.int .i64, TC.i a8)])] = (qbn_t a0 a1 a2 a3 a4 a5 a6 a7 a8).run fun p => some (qbn_mk p) := by kernel_rfl
theorem qbn_s : ∀ xs r, qbn_S xs = some (true, r) → runF tab FT D32 live 103 noLoops xs = some r := by
  intro xs r h
  unfold qbn_S at h
  split at h
  · obtain ⟨h1, rfl⟩ := sp h
    exact fun_told (qbn_e ..) (qbn_l _ _ _ _ _ _ _ _ _) rfl
  · cases h
def D33 : Dt := also D32 103 qbn_S
theorem d33 : DOk Go.Proofs.Try.prog tab D33 := d32.also mixed_ok tab_ok names_ok noLoops_ok qbn_s
def E_9 (x y : List TC) : Bool := ((nth x 0).str == (nth y 0).str)
abbrev ql_4_σ := LL × LL × Int × Int
abbrev ql_4_ω := (Unit) ⊕ (Unit)
def ql_4_step (A C : LL) (m i : Int) : Tr (ql_4_σ ⊕ ql_4_ω) := (.ite ((decide (i < m)) = true) (.ite ((0 : Int) ≤ i ∧ i < (A.length : Int)) (.ite ((0 : Int) ≤ i ∧ i < (C.length : Int)) (.ite ((!((nth (row A i) 0).str == (nth (row C i) 0).str)) = true) (.ok (.inr (.inl ())))
     (.ok (.inl (A, C, m, (IntKind.wrap .i64 (i + (1 : Int)))))))
    .no)
   .no)
  (.ok (.inr (.inr ()))))
def ql_4_st : ql_4_σ → Tr (ql_4_σ ⊕ ql_4_ω) := fun x => (ql_4_step (x.1) (x.2.1) (x.2.2.1) (x.2.2.2))
def ql_k4_1 (A C : LL) (m i : Int) : Bool := allEq E_9 A C
def ql_o4_2 (A C : LL) (m i : Int) : Bool := is (A.length = C.length ∧ i = 0 ∧ Typed tab (.slice 9) (.l A) ∧ m = (A.length : Int))
def ql_o4_3 (A C : LL) (m i : Int) : Bool := is (A.length = C.length ∧ i = 0 ∧ Typed tab (.slice 9) (.l A) ∧ m = (A.length : Int))
def ql_4_fin (A C : LL) (m i : Int) : Told ql_4_ω := (.br (ql_k4_1 A C m i) (.leaf (ql_o4_2 A C m i) (.inr ())) (.leaf (ql_o4_3 A C m i) (.inl ())))
def ql_4_sl (x : ql_4_σ) : List Slot := [⟨.val false [⟨.slice 9, .sh, TC.l (x.1)⟩], ⟨0, 0⟩⟩, ⟨.val false [⟨.slice 9, .sh, TC.l (x.2.1)⟩], ⟨0, 0⟩⟩, ⟨.val false [⟨.int .i64, .sh, TC.i (x.2.2.1)⟩], ⟨0, 0⟩⟩, ⟨.val false [⟨.int .i64, .sh, TC.i (x.2.2.2)⟩], ⟨0, 0⟩⟩]
def ql_4_out : ql_4_ω → Ex × List Slot := (Sum.elim (fun x => (.ret, [⟨.val false [⟨.bool, .sh, TC.b false⟩], ⟨0, 0⟩⟩])) (fun x => (.exit 0, [Slot.none])))
def ql_lo4 : List Slot → Option (Told (Ex × List Slot)) := fun s => match s with
  | [⟨.val false [⟨.slice 9, .sh, TC.l A⟩], ⟨0, 0⟩⟩, ⟨.val false [⟨.slice 9, .sh, TC.l C⟩], ⟨0, 0⟩⟩, ⟨.val false [⟨.int .i64, .sh, TC.i m⟩], ⟨0, 0⟩⟩, ⟨.val false [⟨.int .i64, .sh, TC.i i⟩], ⟨0, 0⟩⟩] => some (((ql_4_fin A C m i)).map ql_4_out)
  | _ => .none
def ql_lo : LoopTeller := fun r s => bif Nat.beq r 4 then ql_lo4 s else .none
theorem ql_4_r (A C : LL) (m i : Int) (fuel : Nat) : rounds (rnd tab FT D33 live 131 ql_lo 0 4) leave (fuel + 1) (ql_4_sl (A, C, m, i)) = ((ql_4_step A C m i)).run (goOn (fun s => rounds (rnd tab FT D33 live 131 ql_lo 0 4) leave fuel (ql_4_sl s)) fun w => some (ql_4_out w)) := by kernel_rfl
theorem ql_4_h (A C : LL) (m i : Int) (ow : ql_4_ω) : ((ql_4_fin A C m i)).val = some ow → ∃ fuel, loopN ql_4_st fuel (A, C, m, i) = some ow := by
  intro h
  have key : A.length = C.length → Typed tab (.slice 9) (.l A) → loopN ql_4_st (A.length + 1) (A, C, (A.length : Int), 0) = some (if allEq E_9 A C = true then .inr () else .inl ()) := by
    intro hl ht
    have hlen : A.length ≤ 140737488351232 := by have := typed_room ht; simp only [show (tab 9).bytes = 16 from rfl] at this; omega
    refine loopN_allEq A C E_9 (fun i => (A, C, (A.length : Int), (i : Int))) _ _ hl (fun i hi => ?_) ?_ A.length 0 (by omega)
    · show (ql_4_step A C (A.length : Int) (i : Int)).val = _
      unfold ql_4_step
      refine Tr.t (by simp; omega) ?_
      refine Tr.t (by constructor <;> omega) ?_
      refine Tr.t (by constructor <;> omega) ?_
      rw [wrap64 (i := (i : Int) + 1) (by omega) (by omega)]
      rw [Tr.val_br]
      show (if (!(E_9 (A.getD i []) (C.getD i []))) = true then _ else _) = _
      cases E_9 (A.getD i []) (C.getD i []) <;> rfl
    · show (ql_4_step A C (A.length : Int) (A.length : Int)).val = _
      refine Tr.n (by simp) ?_
      rfl
  simp only [ql_4_fin, Told.val] at h
  cases hk : allEq E_9 A C with
  | true =>
    rw [if_pos (show ql_k4_1 A C m i = true from hk)] at h
    split at h
    · rename_i ho
      obtain ⟨hl, rfl, ht, rfl⟩ := is_iff.1 ho
      cases h
      refine ⟨_, (key hl ht).trans ?_⟩
      rw [hk]; rfl
    · cases h
  | false =>
    rw [if_neg (show ¬ql_k4_1 A C m i = true from by rw [show ql_k4_1 A C m i = allEq E_9 A C from rfl, hk]; simp)] at h
    split at h
    · rename_i ho
      obtain ⟨hl, rfl, ht, rfl⟩ := is_iff.1 ho
      cases h
      refine ⟨_, (key hl ht).trans ?_⟩
      rw [hk]; rfl
    · cases h
theorem ql_is4 : LoopIs tab FT D33 live 131 ql_lo 0 4 := by
  refine loop_told (sl := ql_4_sl) (step := ql_4_st) (out := ql_4_out) (lor := ql_lo4) (fin := fun x => (ql_4_fin (x.1) (x.2.1) (x.2.2.1) (x.2.2.2))) (fun _ => rfl) ?_ (fun x n => ql_4_r x.1 x.2.1 x.2.2.1 x.2.2.2 n) (fun x ow => ql_4_h x.1 x.2.1 x.2.2.1 x.2.2.2 ow)
  intro s t h
  unfold ql_lo4 at h
  split at h
  · cases h; exact ⟨(_, _, _, _), rfl, rfl⟩
  · cases h
def ql_t (A C : LL) : Tr (Bool) := (.ite ((!((A.length : Int) == (C.length : Int))) = true) (.ok false)
  (.ite ((ql_k4_1 A C (A.length : Int) (0 : Int)) = true) (.ite ((ql_o4_2 A C (A.length : Int) (0 : Int)) = true) (.ok true)
    .no)
   (.ite ((ql_o4_3 A C (A.length : Int) (0 : Int)) = true) (.ok false)
    .no)))
def ql_mk (p : Bool) : Res := [(false, [⟨.bool, .sh, TC.b p⟩])]
def ql_c (A C : LL) : Bool := is (Typed tab (.slice 9) (.l A))
def ql_v (A C : LL) : Bool := allEq E_9 A C
theorem ql_l (A C : LL) : (ql_c A C) = true → (ql_t A C).val = some (ql_v A C) := by
  intro h
  have ht := is_iff.1 h
  unfold ql_t
  by_cases hl : A.length = C.length
  · refine Tr.n (by simp [hl]) ?_
    cases hk : allEq E_9 A C with
    | true =>
      refine Tr.t (show allEq E_9 A C = true from hk) ?_
      refine Tr.t (is_true ⟨hl, rfl, ht, rfl⟩) ?_
      show _ = some (allEq E_9 A C); rw [hk]; rfl
    | false =>
      refine Tr.n (show ¬allEq E_9 A C = true from by rw [hk]; simp) ?_
      refine Tr.t (is_true ⟨hl, rfl, ht, rfl⟩) ?_
      show _ = some (allEq E_9 A C); rw [hk]; rfl
  · refine Tr.t (by simp; omega) ?_
    show _ = some (allEq E_9 A C)
    rw [allEq_ne hl]
    rfl
def ql_S : List Arg → Option (Bool × Res) := fun xs => match xs with
  | [(false, [(.slice 9, TC.l A)]), (false, [(.slice 9, TC.l C)])] => some ((ql_c A C), ql_mk (ql_v A C))
  | _ => .none
theorem ql_e (A C : LL) : runF tab FT D33 live 131 ql_lo [(false, [(.slice 9, TC.l A)]), (false, [(.slice 9, TC.l C)])] = (ql_t A C).run fun p => some (ql_mk p) := by kernel_rfl
theorem ql_s : ∀ xs r, ql_S xs = some (true, r) → runF tab FT D33 live 131 ql_lo xs = some r := by
  intro xs r h
  unfold ql_S at h
  split at h
  · obtain ⟨h1, rfl⟩ := sp h
    exact fun_told (ql_e ..) (ql_l _ _) h1
  · cases h
def D34 : Dt := also D33 131 ql_S
theorem d34 : DOk Go.Proofs.Try.prog tab D34 := d33.also mixed_ok tab_ok names_ok (fnLoops_one (by kernel_rfl) ql_is4) ql_s
def E_2 (x y : List TC) : Bool := ((nth x 0).int == (nth y 0).int)
abbrev qq_4_σ := LL × LL × Int × Int
abbrev qq_4_ω := (Unit) ⊕ (Unit)
def qq_4_step (A C : LL) (m i : Int) : Tr (qq_4_σ ⊕ qq_4_ω) := (.ite ((decide (i < m)) = true) (.ite ((0 : Int) ≤ i ∧ i < (A.length : Int)) (.ite ((0 : Int) ≤ i ∧ i < (C.length : Int)) (.ite ((!((nth (row A i) 0).int == (nth (row C i) 0).int)) = true) (.ok (.inr (.inl ())))
     (.ok (.inl (A, C, m, (IntKind.wrap .i64 (i + (1 : Int)))))))
    .no)
   .no)
  (.ok (.inr (.inr ()))))
def qq_4_st : qq_4_σ → Tr (qq_4_σ ⊕ qq_4_ω) := fun x => (qq_4_step (x.1) (x.2.1) (x.2.2.1) (x.2.2.2))
def qq_k4_1 (A C : LL) (m i : Int) : Bool := allEq E_2 A C
def qq_o4_2 (A C : LL) (m i : Int) : Bool := is (A.length = C.length ∧ i = 0 ∧ Typed tab (.slice 2) (.l A) ∧ m = (A.length : Int))
def qq_o4_3 (A C : LL) (m i : Int) : Bool := is (A.length = C.length ∧ i = 0 ∧ Typed tab (.slice 2) (.l A) ∧ m = (A.length : Int))
def qq_4_fin (A C : LL) (m i : Int) : Told qq_4_ω := (.br (qq_k4_1 A C m i) (.leaf (qq_o4_2 A C m i) (.inr ())) (.leaf (qq_o4_3 A C m i) (.inl ())))
def qq_4_sl (x : qq_4_σ) : List Slot := [⟨.val false [⟨.slice 2, .sh, TC.l (x.1)⟩], ⟨0, 0⟩⟩, ⟨.val false [⟨.slice 2, .sh, TC.l (x.2.1)⟩], ⟨0, 0⟩⟩, ⟨.val false [⟨.int .i64, .sh, TC.i (x.2.2.1)⟩], ⟨0, 0⟩⟩, ⟨.val false [⟨.int .i64, .sh, TC.i (x.2.2.2)⟩], ⟨0, 0⟩⟩]
def qq_4_out : qq_4_ω → Ex × List Slot := (Sum.elim (fun x => (.ret, [⟨.val false [⟨.bool, .sh, TC.b false⟩], ⟨0, 0⟩⟩])) (fun x => (.exit 0, [Slot.none])))
def qq_lo4 : List Slot → Option (Told (Ex × List Slot)) := fun s => match s with
  | [⟨.val false [⟨.slice 2, .sh, TC.l A⟩], ⟨0, 0⟩⟩, ⟨.val false [⟨.slice 2, .sh, TC.l C⟩], ⟨0, 0⟩⟩, ⟨.val false [⟨.int .i64, .sh, TC.i m⟩], ⟨0, 0⟩⟩, ⟨.val false [⟨.int .i64, .sh, TC.i i⟩], ⟨0, 0⟩⟩] => some (((qq_4_fin A C m i)).map qq_4_out)
  | _ => .none
def qq_lo : LoopTeller := fun r s => bif Nat.beq r 4 then qq_lo4 s else .none
theorem qq_4_r (A C : LL) (m i : Int) (fuel : Nat) : rounds (rnd tab FT D34 live 132 qq_lo 0 4) leave (fuel + 1) (qq_4_sl (A, C, m, i)) = ((qq_4_step A C m i)).run (goOn (fun s => rounds (rnd tab FT D34 live 132 qq_lo 0 4) leave fuel (qq_4_sl s)) fun w => some (qq_4_out w)) := by kernel_rfl
theorem qq_4_h (A C : LL) (m i : Int) (ow : qq_4_ω) : ((qq_4_fin A C m i)).val = some ow → ∃ fuel, loopN qq_4_st fuel (A, C, m, i) = some ow := by
  intro h
  have key : A.length = C.length → Typed tab (.slice 2) (.l A) → loopN qq_4_st (A.length + 1) (A, C, (A.length : Int), 0) = some (if allEq E_2 A C = true then .inr () else .inl ()) := by
    intro hl ht
    have hlen : A.length ≤ 140737488351232 := by have := typed_room ht; simp only [show (tab 2).bytes = 8 from rfl] at this; omega
    refine loopN_allEq A C E_2 (fun i => (A, C, (A.length : Int), (i : Int))) _ _ hl (fun i hi => ?_) ?_ A.length 0 (by omega)
    · show (qq_4_step A C (A.length : Int) (i : Int)).val = _
      unfold qq_4_step
      refine Tr.t (by simp; omega) ?_
      refine Tr.t (by constructor <;> omega) ?_
      refine Tr.t (by constructor <;> omega) ?_
      rw [wrap64 (i := (i : Int) + 1) (by omega) (by omega)]
      rw [Tr.val_br]
      show (if (!(E_2 (A.getD i []) (C.getD i []))) = true then _ else _) = _
      cases E_2 (A.getD i []) (C.getD i []) <;> rfl
    · show (qq_4_step A C (A.length : Int) (A.length : Int)).val = _
      refine Tr.n (by simp) ?_
      rfl
  simp only [qq_4_fin, Told.val] at h
  cases hk : allEq E_2 A C with
  | true =>
    rw [if_pos (show qq_k4_1 A C m i = true from hk)] at h
    split at h
    · rename_i ho
      obtain ⟨hl, rfl, ht, rfl⟩ := is_iff.1 ho
      cases h
      refine ⟨_, (key hl ht).trans ?_⟩
      rw [hk]; rfl
    · cases h
  | false =>
    rw [if_neg (show ¬qq_k4_1 A C m i = true from by rw [show qq_k4_1 A C m i = allEq E_2 A C from rfl, hk]; simp)] at h
    split at h
    · rename_i ho
      obtain ⟨hl, rfl, ht, rfl⟩ := is_iff.1 ho
      cases h
      refine ⟨_, (key hl ht).trans ?_⟩
      rw [hk]; rfl
    · cases h
theorem qq_is4 : LoopIs tab FT D34 live 132 qq_lo 0 4 := by
  refine loop_told (sl := qq_4_sl) (step := qq_4_st) (out := qq_4_out) (lor := qq_lo4) (fin := fun x => (qq_4_fin (x.1) (x.2.1) (x.2.2.1) (x.2.2.2))) (fun _ => rfl) ?_ (fun x n => qq_4_r x.1 x.2.1 x.2.2.1 x.2.2.2 n) (fun x ow => qq_4_h x.1 x.2.1 x.2.2.1 x.2.2.2 ow)
  intro s t h
  unfold qq_lo4 at h
  split at h
  · cases h; exact ⟨(_, _, _, _), rfl, rfl⟩
  · cases h
def qq_t (A C : LL) : Tr (Bool) := (.ite ((!((A.length : Int) == (C.length : Int))) = true) (.ok false)
  (.ite ((qq_k4_1 A C (A.length : Int) (0 : Int)) = true) (.ite ((qq_o4_2 A C (A.length : Int) (0 : Int)) = true) (.ok true)
    .no)
   (.ite ((qq_o4_3 A C (A.length : Int) (0 : Int)) = true) (.ok false)
    .no)))
def qq_mk (p : Bool) : Res := [(false, [⟨.bool, .sh, TC.b p⟩])]
def qq_c (A C : LL) : Bool := is (Typed tab (.slice 2) (.l A))
def qq_v (A C : LL) : Bool := allEq E_2 A C
theorem qq_l (A C : LL) : (qq_c A C) = true → (qq_t A C).val = some (qq_v A C) := by
  intro h
  have ht := is_iff.1 h
  unfold qq_t
  by_cases hl : A.length = C.length
  · refine Tr.n (by simp [hl]) ?_
    cases hk : allEq E_2 A C with
    | true =>
      refine Tr.t (show allEq E_2 A C = true from hk) ?_
      refine Tr.t (is_true ⟨hl, rfl, ht, rfl⟩) ?_
      show _ = some (allEq E_2 A C); rw [hk]; rfl
    | false =>
      refine Tr.n (show ¬allEq E_2 A C = true from by rw [hk]; simp) ?_
      refine Tr.t (is_true ⟨hl, rfl, ht, rfl⟩) ?_
      show _ = some (allEq E_2 A C); rw [hk]; rfl
  · refine Tr.t (by simp; omega) ?_
    show _ = some (allEq E_2 A C)
    rw [allEq_ne hl]
    rfl
def qq_S : List Arg → Option (Bool × Res) := fun xs => match xs with
  | [(false, [(.slice 2, TC.l A)]), (false, [(.slice 2, TC.l C)])] => some ((qq_c A C), qq_mk (qq_v A C))
  | _ => .none
theorem qq_e (A C : LL) : runF tab FT D34 live 132 qq_lo [(false, [(.slice 2, TC.l A)]), (false, [(.slice 2, TC.l C)])] = (qq_t A C).run fun p => some (qq_mk p) := by kernel_rfl
theorem qq_s : ∀ xs r, qq_S xs = some (true, r) → runF tab FT D34 live 132 qq_lo xs = some r := by
  intro xs r h
  unfold qq_S at h
  split at h
  · obtain ⟨h1, rfl⟩ := sp h
    exact fun_told (qq_e ..) (qq_l _ _) h1
  · cases h
def D35 : Dt := also D34 132 qq_S
theorem d35 : DOk Go.Proofs.Try.prog tab D35 := d34.also mixed_ok tab_ok names_ok (fnLoops_one (by kernel_rfl) qq_is4) qq_s
theorem form_9 {A : LL} (h : Typed tab (.slice 9) (.l A)) {x : List TC} (hx : x ∈ A) : x = [TC.s (nth x 0).str] := by
  obtain ⟨hl, hk⟩ := typed_elem h hx
  have e0 : TC.s (nth x 0).str = nth x 0 := typed_str_eq (hk 0 (by decide))
  rw [e0]
  exact row_eta hl
theorem form_2 {A : LL} (h : Typed tab (.slice 2) (.l A)) {x : List TC} (hx : x ∈ A) : x = [TC.i (nth x 0).int] := by
  obtain ⟨hl, hk⟩ := typed_elem h hx
  have e0 : TC.i (nth x 0).int = nth x 0 := typed_int_eq (hk 0 (by decide))
  rw [e0]
  exact row_eta hl
theorem form_71 {A : LL} (h : Typed tab (.slice 71) (.l A)) {x : List TC} (hx : x ∈ A) : x = [TC.s (nth x 0).str, TC.i (nth x 1).int, TC.i (nth x 2).int, TC.i (nth x 3).int, TC.b (nth x 4).bool, TC.b (nth x 5).bool, TC.l (nth x 6).list, TC.l (nth x 7).list, TC.l (nth x 8).list, TC.l (nth x 9).list, TC.i (nth x 10).int] := by
  obtain ⟨hl, hk⟩ := typed_elem h hx
  have e0 : TC.s (nth x 0).str = nth x 0 := typed_str_eq (hk 0 (by decide))
  have e1 : TC.i (nth x 1).int = nth x 1 := typed_int_eq (hk 1 (by decide))
  have e2 : TC.i (nth x 2).int = nth x 2 := typed_int_eq (hk 2 (by decide))
  have e3 : TC.i (nth x 3).int = nth x 3 := typed_int_eq (hk 3 (by decide))
  have e4 : TC.b (nth x 4).bool = nth x 4 := typed_bool_eq (hk 4 (by decide))
  have e5 : TC.b (nth x 5).bool = nth x 5 := typed_bool_eq (hk 5 (by decide))
  have e6 : TC.l (nth x 6).list = nth x 6 := typed_list_eq (hk 6 (by decide))
  have e7 : TC.l (nth x 7).list = nth x 7 := typed_list_eq (hk 7 (by decide))
  have e8 : TC.l (nth x 8).list = nth x 8 := typed_list_eq (hk 8 (by decide))
  have e9 : TC.l (nth x 9).list = nth x 9 := typed_list_eq (hk 9 (by decide))
  have e10 : TC.i (nth x 10).int = nth x 10 := typed_int_eq (hk 10 (by decide))
  rw [e0, e1, e2, e3, e4, e5, e6, e7, e8, e9, e10]
  exact row_eta hl
theorem form_32 {A : LL} (h : Typed tab (.slice 32) (.l A)) {x : List TC} (hx : x ∈ A) : x = [TC.i (nth x 0).int, TC.i (nth x 1).int, TC.b (nth x 2).bool, TC.b (nth x 3).bool, TC.l (nth x 4).list, TC.l (nth x 5).list, TC.l (nth x 6).list, TC.l (nth x 7).list, TC.i (nth x 8).int] := by
  obtain ⟨hl, hk⟩ := typed_elem h hx
  have e0 : TC.i (nth x 0).int = nth x 0 := typed_int_eq (hk 0 (by decide))
  have e1 : TC.i (nth x 1).int = nth x 1 := typed_int_eq (hk 1 (by decide))
  have e2 : TC.b (nth x 2).bool = nth x 2 := typed_bool_eq (hk 2 (by decide))
  have e3 : TC.b (nth x 3).bool = nth x 3 := typed_bool_eq (hk 3 (by decide))
  have e4 : TC.l (nth x 4).list = nth x 4 := typed_list_eq (hk 4 (by decide))
  have e5 : TC.l (nth x 5).list = nth x 5 := typed_list_eq (hk 5 (by decide))
  have e6 : TC.l (nth x 6).list = nth x 6 := typed_list_eq (hk 6 (by decide))
  have e7 : TC.l (nth x 7).list = nth x 7 := typed_list_eq (hk 7 (by decide))
  have e8 : TC.i (nth x 8).int = nth x 8 := typed_int_eq (hk 8 (by decide))
  rw [e0, e1, e2, e3, e4, e5, e6, e7, e8]
  exact row_eta hl
section
class qba_O where n : Nat
variable [i_impl_SameType : qba_O]
def qba_rc (k s : Int) (sg bg : Bool) (NA NU ME BA : LL) (ct k2 s2 : Int) (sg2 bg2 : Bool) (NA2 NU2 ME2 BA2 : LL) (ct2 : Int) : Bool := is (max (rowsDep ME) (rowsDep BA) < qba_O.n ∧ Typed tab (.slice 9) (.l NA) ∧ Typed tab (.slice 2) (.l NU) ∧ Typed tab (.slice 71) (.l ME) ∧ Typed tab (.slice 32) (.l BA) ∧ Typed tab (.slice 9) (.l NA2) ∧ Typed tab (.slice 2) (.l NU2) ∧ Typed tab (.slice 71) (.l ME2) ∧ Typed tab (.slice 32) (.l BA2))
def qba_rv (k s : Int) (sg bg : Bool) (NA NU ME BA : LL) (ct k2 s2 : Int) (sg2 bg2 : Bool) (NA2 NU2 ME2 BA2 : LL) (ct2 : Int) : Bool := sameV k s sg bg NA NU ME BA ct k2 s2 sg2 bg2 NA2 NU2 ME2 BA2 ct2
def qba_rmk (p : Bool) : Res := [(false, [⟨.bool, .sh, TC.b p⟩])]
def qba_rS : List Arg → Option (Bool × Res) := fun xs => match xs with
  | [(true, [(.int .i64, TC.i k), (.int .i64, TC.i s), (.bool, TC.b sg), (.bool, TC.b bg), (.slice 9, TC.l NA), (.slice 2, TC.l NU), (.slice 71, TC.l ME), (.slice 32, TC.l BA), (.int .i64, TC.i ct)]), (true, [(.int .i64, TC.i k2), (.int .i64, TC.i s2), (.bool, TC.b sg2), (.bool, TC.b bg2), (.slice 9, TC.l NA2), (.slice 2, TC.l NU2), (.slice 71, TC.l ME2), (.slice 32, TC.l BA2), (.int .i64, TC.i ct2)])] => some ((qba_rc k s sg bg NA NU ME BA ct k2 s2 sg2 bg2 NA2 NU2 ME2 BA2 ct2), qba_rmk (qba_rv k s sg bg NA NU ME BA ct k2 s2 sg2 bg2 NA2 NU2 ME2 BA2 ct2))
  | _ => .none
def D36 : Dt := also D35 102 qba_rS
class qba_G : Prop where ok : DOk Go.Proofs.Try.prog tab D36
variable [g_impl_SameType : qba_G]
theorem d36 : DOk Go.Proofs.Try.prog tab D36 := qba_G.ok
def qcf_t (a0 : BS) (a1 a2 a3 : Int) (a4 a5 : Bool) (a6 a7 a8 a9 : LL) (a10 : Int) (a11 : BS) (a12 a13 a14 : Int) (a15 a16 : Bool) (a17 a18 a19 a20 : LL) (a21 : Int) : Tr (Bool) := (.ite ((a0 == a11) = true) (.ite ((a1 == a12) = true) (.ite ((qba_rc a2 a3 a4 a5 a6 a7 a8 a9 a10 a13 a14 a15 a16 a17 a18 a19 a20 a21) = true) (.ok (qba_rv a2 a3 a4 a5 a6 a7 a8 a9 a10 a13 a14 a15 a16 a17 a18 a19 a20 a21))
    .no)
   (.ok false))
  (.ok false))
def qcf_mk (p : Bool) : Res := [(false, [⟨.bool, .sh, TC.b p⟩])]
def qcf_c (a0 : BS) (a1 a2 a3 : Int) (a4 a5 : Bool) (a6 a7 a8 a9 : LL) (a10 : Int) (a11 : BS) (a12 a13 a14 : Int) (a15 a16 : Bool) (a17 a18 a19 a20 : LL) (a21 : Int) : Bool := (bif (a0 == a11) then (bif (a1 == a12) then ((qba_rc a2 a3 a4 a5 a6 a7 a8 a9 a10 a13 a14 a15 a16 a17 a18 a19 a20 a21) && true) else true) else true)
def qcf_v (a0 : BS) (a1 a2 a3 : Int) (a4 a5 : Bool) (a6 a7 a8 a9 : LL) (a10 : Int) (a11 : BS) (a12 a13 a14 : Int) (a15 a16 : Bool) (a17 a18 a19 a20 : LL) (a21 : Int) : Bool := (bif (a0 == a11) then (bif (a1 == a12) then (qba_rv a2 a3 a4 a5 a6 a7 a8 a9 a10 a13 a14 a15 a16 a17 a18 a19 a20 a21) else false) else false)
theorem qcf_l (a0 : BS) (a1 a2 a3 : Int) (a4 a5 : Bool) (a6 a7 a8 a9 : LL) (a10 : Int) (a11 : BS) (a12 a13 a14 : Int) (a15 a16 : Bool) (a17 a18 a19 a20 : LL) (a21 : Int) : (qcf_c a0 a1 a2 a3 a4 a5 a6 a7 a8 a9 a10 a11 a12 a13 a14 a15 a16 a17 a18 a19 a20 a21) = true → (qcf_t a0 a1 a2 a3 a4 a5 a6 a7 a8 a9 a10 a11 a12 a13 a14 a15 a16 a17 a18 a19 a20 a21).val = some (qcf_v a0 a1 a2 a3 a4 a5 a6 a7 a8 a9 a10 a11 a12 a13 a14 a15 a16 a17 a18 a19 a20 a21) := by
  unfold qcf_t qcf_v qcf_c
  exact fun h => (Tr.ss h (fun h => (Tr.ss h (fun h => (Tr.gb h fun h => rfl)) (fun h => rfl))) (fun h => rfl))
def qcf_S : List Arg → Option (Bool × Res) := fun xs => match xs with
  | [(true, [(.str, TC.s a0), (.int .i64, TC.i a1), (.int .i64, TC.i a2), (.int .i64, TC.i a3), (.bool, TC.b a4), (.bool, TC.b a5), (.slice 9, TC.l a6), (.slice 2, TC.l a7), (.slice 71, TC.l a8), (.slice 32, TC.l a9), (.int .i64, TC.i a10)]), (true, [(.str, TC.s a11), (.int .i64, TC.i a12), (.int .i64, TC.i a13), (.int .i64, TC.i a14), (.bool, TC.b a15), (.bool, TC.b a16), (.slice 9, TC.l a17), (.slice 2, TC.l a18), (.slice 71, TC.l a19), (.slice 32, TC.l a20), (.int .i64, TC.i a21)])] => some ((qcf_c a0 a1 a2 a3 a4 a5 a6 a7 a8 a9 a10 a11 a12 a13 a14 a15 a16 a17 a18 a19 a20 a21), qcf_mk (qcf_v a0 a1 a2 a3 a4 a5 a6 a7 a8 a9 a10 a11 a12 a13 a14 a15 a16 a17 a18 a19 a20 a21))
  | _ => .none
theorem qcf_e (a0 : BS) (a1 a2 a3 : Int) (a4 a5 : Bool) (a6 a7 a8 a9 : LL) (a10 : Int) (a11 : BS) (a12 a13 a14 : Int) (a15 a16 : Bool) (a17 a18 a19 a20 : LL) (a21 : Int) : runF tab FT D36 live 134 noLoops [(true, [(.str, TC.s a0), (.int .i64, TC.i a1), (.int .i64, TC.i a2), (.int .i64, TC.i a3), (.bool, TC.b a4), (.bool, TC.b a5), (.slice 9, TC.l a6), (.slice 2, TC.l a7), (.slice 71, TC.l a8), (.slice 32, TC.l a9), (.int .i64, TC.i a10)]), (true, [(.str, TC.s a11), (.int .i64, TC.i a12), (.int .i64, TC.i a13), (.int .i64, TC.i a14), (.bool, TC.b a15), (.bool, TC.b a16), (.slice 9, TC.l a17), (.slice 2, TC.l a18), (.slice 71, TC.l a19), (.slice 32, TC.l a20), (.int .i64, TC.i a21)])] = (qcf_t a0 a1 a2 a3 a4 a5 a6 a7 a8 a9 a10 a11 a12 a13 a14 a15 a16 a17 a18 a19 a20 a21).run fun p => some (qcf_mk p) := by kernel_rfl
theorem qcf_s : ∀ xs r, qcf_S xs = some (true, r) → runF tab FT D36 live 134 noLoops xs = some r := by
  intro xs r h
  unfold qcf_S at h
  split at h
  · obtain ⟨h1, rfl⟩ := sp h
    exact fun_told (qcf_e ..) (qcf_l _ _ _ _ _ _ _ _ _ _ _ _ _ _ _ _ _ _ _ _ _ _) h1
  · cases h
def D37 : Dt := also D36 134 qcf_S
theorem d37 : DOk Go.Proofs.Try.prog tab D37 := d36.also mixed_ok tab_ok names_ok noLoops_ok qcf_s
def qa_E (x y : List TC) : Bool := qcf_v ((nth x 0).str) ((nth x 1).int) ((nth x 2).int) ((nth x 3).int) ((nth x 4).bool) ((nth x 5).bool) ((nth x 6).list) ((nth x 7).list) ((nth x 8).list) ((nth x 9).list) ((nth x 10).int) ((nth y 0).str) ((nth y 1).int) ((nth y 2).int) ((nth y 3).int) ((nth y 4).bool) ((nth y 5).bool) ((nth y 6).list) ((nth y 7).list) ((nth y 8).list) ((nth y 9).list) ((nth y 10).int)
abbrev qa_4_σ := LL × LL × Int × Int
abbrev qa_4_ω := (Unit) ⊕ (Unit)
def qa_4_step (C A : LL) (m i : Int) : Tr (qa_4_σ ⊕ qa_4_ω) := (.ite ((decide (i < m)) = true) (.ite ((0 : Int) ≤ i ∧ i < (A.length : Int)) (.ite ((0 : Int) ≤ i ∧ i < (C.length : Int)) (.ite ((qcf_c ((nth (row A i) 0).str) ((nth (row A i) 1).int) ((nth (row A i) 2).int) ((nth (row A i) 3).int) ((nth (row A i) 4).bool) ((nth (row A i) 5).bool) ((nth (row A i) 6).list) ((nth (row A i) 7).list) ((nth (row A i) 8).list) ((nth (row A i) 9).list) ((nth (row A i) 10).int) ((nth (row C i) 0).str) ((nth (row C i) 1).int) ((nth (row C i) 2).int) ((nth (row C i) 3).int) ((nth (row C i) 4).bool) ((nth (row C i) 5).bool) ((nth (row C i) 6).list) ((nth (row C i) 7).list) ((nth (row C i) 8).list) ((nth (row C i) 9).list) ((nth (row C i) 10).int)) = true) (.ite ((!(qcf_v ((nth (row A i) 0).str) ((nth (row A i) 1).int) ((nth (row A i) 2).int) ((nth (row A i) 3).int) ((nth (row A i) 4).bool) ((nth (row A i) 5).bool) ((nth (row A i) 6).list) ((nth (row A i) 7).list) ((nth (row A i) 8).list) ((nth (row A i) 9).list) ((nth (row A i) 10).int) ((nth (row C i) 0).str) ((nth (row C i) 1).int) ((nth (row C i) 2).int) ((nth (row C i) 3).int) ((nth (row C i) 4).bool) ((nth (row C i) 5).bool) ((nth (row C i) 6).list) ((nth (row C i) 7).list) ((nth (row C i) 8).list) ((nth (row C i) 9).list) ((nth (row C i) 10).int))) = true) (.ok (.inr (.inl ())))
      (.ok (.inl (C, A, m, (IntKind.wrap .i64 (i + (1 : Int)))))))
     .no)
    .no)
   .no)
  (.ok (.inr (.inr ()))))
def qa_4_st : qa_4_σ → Tr (qa_4_σ ⊕ qa_4_ω) := fun x => (qa_4_step (x.1) (x.2.1) (x.2.2.1) (x.2.2.2))
def qa_k4_1 (C A : LL) (m i : Int) : Bool := allEq qa_E A C
def qa_o4_2 (C A : LL) (m i : Int) : Bool := is (A.length = C.length ∧ i = 0 ∧ Typed tab (.slice 71) (.l A) ∧ m = (A.length : Int) ∧ (∀ x y : List TC, x ∈ A → y ∈ C → qcf_c ((nth x 0).str) ((nth x 1).int) ((nth x 2).int) ((nth x 3).int) ((nth x 4).bool) ((nth x 5).bool) ((nth x 6).list) ((nth x 7).list) ((nth x 8).list) ((nth x 9).list) ((nth x 10).int) ((nth y 0).str) ((nth y 1).int) ((nth y 2).int) ((nth y 3).int) ((nth y 4).bool) ((nth y 5).bool) ((nth y 6).list) ((nth y 7).list) ((nth y 8).list) ((nth y 9).list) ((nth y 10).int) = true))
def qa_o4_3 (C A : LL) (m i : Int) : Bool := (qa_o4_2 C A m i)
def qa_4_fin (C A : LL) (m i : Int) : Told qa_4_ω := (.br (qa_k4_1 C A m i) (.leaf (qa_o4_2 C A m i) (.inr ())) (.leaf (qa_o4_3 C A m i) (.inl ())))
def qa_4_sl (x : qa_4_σ) : List Slot := [⟨.val false [⟨.slice 71, .sh, TC.l (x.1)⟩], ⟨0, 0⟩⟩, ⟨.val false [⟨.func, .sh, TC.f 134 []⟩], ⟨0, 0⟩⟩, ⟨.val false [⟨.slice 71, .sh, TC.l (x.2.1)⟩], ⟨0, 0⟩⟩, ⟨.val false [⟨.int .i64, .sh, TC.i (x.2.2.1)⟩], ⟨0, 0⟩⟩, ⟨.val false [⟨.int .i64, .sh, TC.i (x.2.2.2)⟩], ⟨0, 0⟩⟩]
def qa_4_out : qa_4_ω → Ex × List Slot := (Sum.elim (fun x => (.ret, [⟨.val false [⟨.bool, .sh, TC.b false⟩], ⟨0, 0⟩⟩])) (fun x => (.exit 0, [Slot.none])))
def qa_lo4 : List Slot → Option (Told (Ex × List Slot)) := fun s => match s with
  | [⟨.val false [⟨.slice 71, .sh, TC.l C⟩], ⟨0, 0⟩⟩, ⟨.val false [⟨.func, .sh, TC.f 134 []⟩], ⟨0, 0⟩⟩, ⟨.val false [⟨.slice 71, .sh, TC.l A⟩], ⟨0, 0⟩⟩, ⟨.val false [⟨.int .i64, .sh, TC.i m⟩], ⟨0, 0⟩⟩, ⟨.val false [⟨.int .i64, .sh, TC.i i⟩], ⟨0, 0⟩⟩] => some (((qa_4_fin C A m i)).map qa_4_out)
  | _ => .none
def qa_lo : LoopTeller := fun r s => bif Nat.beq r 4 then qa_lo4 s else .none
theorem qa_4_r (C A : LL) (m i : Int) (fuel : Nat) : rounds (rnd tab FT D37 live 133 qa_lo 0 4) leave (fuel + 1) (qa_4_sl (C, A, m, i)) = ((qa_4_step C A m i)).run (goOn (fun s => rounds (rnd tab FT D37 live 133 qa_lo 0 4) leave fuel (qa_4_sl s)) fun w => some (qa_4_out w)) := by kernel_rfl
theorem qa_4_h (C A : LL) (m i : Int) (ow : qa_4_ω) : ((qa_4_fin C A m i)).val = some ow → ∃ fuel, loopN qa_4_st fuel (C, A, m, i) = some ow := by
  intro h
  have key : A.length = C.length → Typed tab (.slice 71) (.l A) → (∀ x y : List TC, x ∈ A → y ∈ C → qcf_c ((nth x 0).str) ((nth x 1).int) ((nth x 2).int) ((nth x 3).int) ((nth x 4).bool) ((nth x 5).bool) ((nth x 6).list) ((nth x 7).list) ((nth x 8).list) ((nth x 9).list) ((nth x 10).int) ((nth y 0).str) ((nth y 1).int) ((nth y 2).int) ((nth y 3).int) ((nth y 4).bool) ((nth y 5).bool) ((nth y 6).list) ((nth y 7).list) ((nth y 8).list) ((nth y 9).list) ((nth y 10).int) = true) → loopN qa_4_st (A.length + 1) (C, A, (A.length : Int), 0) = some (if allEq qa_E A C = true then .inr () else .inl ()) := by
    intro hl ht hr
    have hlen : A.length ≤ 140737488351232 := by have := typed_room ht; simp only [show (tab 71).bytes = 152 from rfl] at this; omega
    refine loopN_allEq A C qa_E (fun i => (C, A, (A.length : Int), (i : Int))) _ _ hl (fun i hi => ?_) ?_ A.length 0 (by omega)
    · show (qa_4_step C A (A.length : Int) (i : Int)).val = _
      unfold qa_4_step
      refine Tr.t (by simp; omega) ?_
      refine Tr.t (by constructor <;> omega) ?_
      refine Tr.t (by constructor <;> omega) ?_
      refine Tr.t (hr _ _ (mem_getD hi) (mem_getD (by omega))) ?_
      rw [wrap64 (i := (i : Int) + 1) (by omega) (by omega)]
      rw [Tr.val_br]
      show (if (!(qa_E (A.getD i []) (C.getD i []))) = true then _ else _) = _
      cases qa_E (A.getD i []) (C.getD i []) <;> rfl
    · show (qa_4_step C A (A.length : Int) (A.length : Int)).val = _
      refine Tr.n (by simp) ?_
      rfl
  simp only [qa_4_fin, Told.val] at h
  cases hk : allEq qa_E A C with
  | true =>
    rw [if_pos (show qa_k4_1 C A m i = true from hk)] at h
    split at h
    · rename_i ho
      obtain ⟨hl, rfl, ht, rfl, hr⟩ := is_iff.1 ho
      cases h
      refine ⟨_, (key hl ht hr).trans ?_⟩
      rw [hk]; rfl
    · cases h
  | false =>
    rw [if_neg (show ¬qa_k4_1 C A m i = true from by rw [show qa_k4_1 C A m i = allEq qa_E A C from rfl, hk]; simp)] at h
    split at h
    · rename_i ho
      obtain ⟨hl, rfl, ht, rfl, hr⟩ := is_iff.1 ho
      cases h
      refine ⟨_, (key hl ht hr).trans ?_⟩
      rw [hk]; rfl
    · cases h
theorem qa_is4 : LoopIs tab FT D37 live 133 qa_lo 0 4 := by
  refine loop_told (sl := qa_4_sl) (step := qa_4_st) (out := qa_4_out) (lor := qa_lo4) (fin := fun x => (qa_4_fin (x.1) (x.2.1) (x.2.2.1) (x.2.2.2))) (fun _ => rfl) ?_ (fun x n => qa_4_r x.1 x.2.1 x.2.2.1 x.2.2.2 n) (fun x ow => qa_4_h x.1 x.2.1 x.2.2.1 x.2.2.2 ow)
  intro s t h
  unfold qa_lo4 at h
  split at h
  · cases h; exact ⟨(_, _, _, _), rfl, rfl⟩
  · cases h
def qa_t (A C : LL) : Tr (Bool) := (.ite ((!((A.length : Int) == (C.length : Int))) = true) (.ok false)
  (.ite ((qa_k4_1 C A (A.length : Int) (0 : Int)) = true) (.ite ((qa_o4_2 C A (A.length : Int) (0 : Int)) = true) (.ok true)
    .no)
   (.ite ((qa_o4_3 C A (A.length : Int) (0 : Int)) = true) (.ok false)
    .no)))
def qa_mk (p : Bool) : Res := [(false, [⟨.bool, .sh, TC.b p⟩])]
def qa_c (A C : LL) : Bool := is (Typed tab (.slice 71) (.l A) ∧ (∀ x y : List TC, x ∈ A → y ∈ C → qcf_c ((nth x 0).str) ((nth x 1).int) ((nth x 2).int) ((nth x 3).int) ((nth x 4).bool) ((nth x 5).bool) ((nth x 6).list) ((nth x 7).list) ((nth x 8).list) ((nth x 9).list) ((nth x 10).int) ((nth y 0).str) ((nth y 1).int) ((nth y 2).int) ((nth y 3).int) ((nth y 4).bool) ((nth y 5).bool) ((nth y 6).list) ((nth y 7).list) ((nth y 8).list) ((nth y 9).list) ((nth y 10).int) = true))
def qa_v (A C : LL) : Bool := allEq qa_E A C
theorem qa_l (A C : LL) : (qa_c A C) = true → (qa_t A C).val = some (qa_v A C) := by
  intro h
  obtain ⟨ht, hr⟩ := is_iff.1 h
  unfold qa_t
  by_cases hl : A.length = C.length
  · refine Tr.n (by simp [hl]) ?_
    cases hk : allEq qa_E A C with
    | true =>
      refine Tr.t (show allEq qa_E A C = true from hk) ?_
      refine Tr.t (is_true ⟨hl, rfl, ht, rfl, hr⟩) ?_
      show _ = some (allEq qa_E A C); rw [hk]; rfl
    | false =>
      refine Tr.n (show ¬allEq qa_E A C = true from by rw [hk]; simp) ?_
      refine Tr.t (is_true ⟨hl, rfl, ht, rfl, hr⟩) ?_
      show _ = some (allEq qa_E A C); rw [hk]; rfl
  · refine Tr.t (by simp; omega) ?_
    show _ = some (allEq qa_E A C)
    rw [allEq_ne hl]; rfl
def qa_S : List Arg → Option (Bool × Res) := fun xs => match xs with
  | [(false, [(.slice 71, TC.l A)]), (false, [(.slice 71, TC.l C)]), (false, [(.func, TC.f 134 [])])] => some ((qa_c A C), qa_mk (qa_v A C))
  | _ => .none
theorem qa_e (A C : LL) : runF tab FT D37 live 133 qa_lo [(false, [(.slice 71, TC.l A)]), (false, [(.slice 71, TC.l C)]), (false, [(.func, TC.f 134 [])])] = (qa_t A C).run fun p => some (qa_mk p) := by kernel_rfl
theorem qa_s : ∀ xs r, qa_S xs = some (true, r) → runF tab FT D37 live 133 qa_lo xs = some r := by
  intro xs r h
  unfold qa_S at h
  split at h
  · obtain ⟨h1, rfl⟩ := sp h
    exact fun_told (qa_e ..) (qa_l _ _) h1
  · cases h
def D38 : Dt := also D37 133 qa_S
theorem d38 : DOk Go.Proofs.Try.prog tab D38 := d37.also mixed_ok tab_ok names_ok (fnLoops_one (by kernel_rfl) qa_is4) qa_s
def qb_E (x y : List TC) : Bool := qba_rv ((nth x 0).int) ((nth x 1).int) ((nth x 2).bool) ((nth x 3).bool) ((nth x 4).list) ((nth x 5).list) ((nth x 6).list) ((nth x 7).list) ((nth x 8).int) ((nth y 0).int) ((nth y 1).int) ((nth y 2).bool) ((nth y 3).bool) ((nth y 4).list) ((nth y 5).list) ((nth y 6).list) ((nth y 7).list) ((nth y 8).int)
abbrev qb_4_σ := LL × LL × Int × Int
abbrev qb_4_ω := (Unit) ⊕ (Unit)
def qb_4_step (C A : LL) (m i : Int) : Tr (qb_4_σ ⊕ qb_4_ω) := (.ite ((decide (i < m)) = true) (.ite ((0 : Int) ≤ i ∧ i < (A.length : Int)) (.ite ((0 : Int) ≤ i ∧ i < (C.length : Int)) (.ite ((qba_rc ((nth (row A i) 0).int) ((nth (row A i) 1).int) ((nth (row A i) 2).bool) ((nth (row A i) 3).bool) ((nth (row A i) 4).list) ((nth (row A i) 5).list) ((nth (row A i) 6).list) ((nth (row A i) 7).list) ((nth (row A i) 8).int) ((nth (row C i) 0).int) ((nth (row C i) 1).int) ((nth (row C i) 2).bool) ((nth (row C i) 3).bool) ((nth (row C i) 4).list) ((nth (row C i) 5).list) ((nth (row C i) 6).list) ((nth (row C i) 7).list) ((nth (row C i) 8).int)) = true) (.ite ((!(qba_rv ((nth (row A i) 0).int) ((nth (row A i) 1).int) ((nth (row A i) 2).bool) ((nth (row A i) 3).bool) ((nth (row A i) 4).list) ((nth (row A i) 5).list) ((nth (row A i) 6).list) ((nth (row A i) 7).list) ((nth (row A i) 8).int) ((nth (row C i) 0).int) ((nth (row C i) 1).int) ((nth (row C i) 2).bool) ((nth (row C i) 3).bool) ((nth (row C i) 4).list) ((nth (row C i) 5).list) ((nth (row C i) 6).list) ((nth (row C i) 7).list) ((nth (row C i) 8).int))) = true) (.ok (.inr (.inl ())))
      (.ok (.inl (C, A, m, (IntKind.wrap .i64 (i + (1 : Int)))))))
     .no)
    .no)
   .no)
  (.ok (.inr (.inr ()))))
def qb_4_st : qb_4_σ → Tr (qb_4_σ ⊕ qb_4_ω) := fun x => (qb_4_step (x.1) (x.2.1) (x.2.2.1) (x.2.2.2))
def qb_k4_1 (C A : LL) (m i : Int) : Bool := allEq qb_E A C
def qb_o4_2 (C A : LL) (m i : Int) : Bool := is (A.length = C.length ∧ i = 0 ∧ Typed tab (.slice 32) (.l A) ∧ m = (A.length : Int) ∧ (∀ x y : List TC, x ∈ A → y ∈ C → qba_rc ((nth x 0).int) ((nth x 1).int) ((nth x 2).bool) ((nth x 3).bool) ((nth x 4).list) ((nth x 5).list) ((nth x 6).list) ((nth x 7).list) ((nth x 8).int) ((nth y 0).int) ((nth y 1).int) ((nth y 2).bool) ((nth y 3).bool) ((nth y 4).list) ((nth y 5).list) ((nth y 6).list) ((nth y 7).list) ((nth y 8).int) = true))
def qb_o4_3 (C A : LL) (m i : Int) : Bool := (qb_o4_2 C A m i)
def qb_4_fin (C A : LL) (m i : Int) : Told qb_4_ω := (.br (qb_k4_1 C A m i) (.leaf (qb_o4_2 C A m i) (.inr ())) (.leaf (qb_o4_3 C A m i) (.inl ())))
def qb_4_sl (x : qb_4_σ) : List Slot := [⟨.val false [⟨.slice 32, .sh, TC.l (x.1)⟩], ⟨0, 0⟩⟩, ⟨.val false [⟨.func, .sh, TC.f 102 []⟩], ⟨0, 0⟩⟩, ⟨.val false [⟨.slice 32, .sh, TC.l (x.2.1)⟩], ⟨0, 0⟩⟩, ⟨.val false [⟨.int .i64, .sh, TC.i (x.2.2.1)⟩], ⟨0, 0⟩⟩, ⟨.val false [⟨.int .i64, .sh, TC.i (x.2.2.2)⟩], ⟨0, 0⟩⟩]
def qb_4_out : qb_4_ω → Ex × List Slot := (Sum.elim (fun x => (.ret, [⟨.val false [⟨.bool, .sh, TC.b false⟩], ⟨0, 0⟩⟩])) (fun x => (.exit 0, [Slot.none])))
def qb_lo4 : List Slot → Option (Told (Ex × List Slot)) := fun s => match s with
  | [⟨.val false [⟨.slice 32, .sh, TC.l C⟩], ⟨0, 0⟩⟩, ⟨.val false [⟨.func, .sh, TC.f 102 []⟩], ⟨0, 0⟩⟩, ⟨.val false [⟨.slice 32, .sh, TC.l A⟩], ⟨0, 0⟩⟩, ⟨.val false [⟨.int .i64, .sh, TC.i m⟩], ⟨0, 0⟩⟩, ⟨.val false [⟨.int .i64, .sh, TC.i i⟩], ⟨0, 0⟩⟩] => some (((qb_4_fin C A m i)).map qb_4_out)
  | _ => .none
def qb_lo : LoopTeller := fun r s => bif Nat.beq r 4 then qb_lo4 s else .none
theorem qb_4_r (C A : LL) (m i : Int) (fuel : Nat) : rounds (rnd tab FT D38 live 135 qb_lo 0 4) leave (fuel + 1) (qb_4_sl (C, A, m, i)) = ((qb_4_step C A m i)).run (goOn (fun s => rounds (rnd tab FT D38 live 135 qb_lo 0 4) leave fuel (qb_4_sl s)) fun w => some (qb_4_out w)) := by kernel_rfl
theorem qb_4_h (C A : LL) (m i : Int) (ow : qb_4_ω) : ((qb_4_fin C A m i)).val = some ow → ∃ fuel, loopN qb_4_st fuel (C, A, m, i) = some ow := by
  intro h
  have key : A.length = C.length → Typed tab (.slice 32) (.l A) → (∀ x y : List TC, x ∈ A → y ∈ C → qba_rc ((nth x 0).int) ((nth x 1).int) ((nth x 2).bool) ((nth x 3).bool) ((nth x 4).list) ((nth x 5).list) ((nth x 6).list) ((nth x 7).list) ((nth x 8).int) ((nth y 0).int) ((nth y 1).int) ((nth y 2).bool) ((nth y 3).bool) ((nth y 4).list) ((nth y 5).list) ((nth y 6).list) ((nth y 7).list) ((nth y 8).int) = true) → loopN qb_4_st (A.length + 1) (C, A, (A.length : Int), 0) = some (if allEq qb_E A C = true then .inr () else .inl ()) := by
    intro hl ht hr
    have hlen : A.length ≤ 140737488351232 := by have := typed_room ht; simp only [show (tab 32).bytes = 128 from rfl] at this; omega
    refine loopN_allEq A C qb_E (fun i => (C, A, (A.length : Int), (i : Int))) _ _ hl (fun i hi => ?_) ?_ A.length 0 (by omega)
    · show (qb_4_step C A (A.length : Int) (i : Int)).val = _
      unfold qb_4_step
      refine Tr.t (by simp; omega) ?_
      refine Tr.t (by constructor <;> omega) ?_
      refine Tr.t (by constructor <;> omega) ?_
      refine Tr.t (hr _ _ (mem_getD hi) (mem_getD (by omega))) ?_
      rw [wrap64 (i := (i : Int) + 1) (by omega) (by omega)]
      rw [Tr.val_br]
      show (if (!(qb_E (A.getD i []) (C.getD i []))) = true then _ else _) = _
      cases qb_E (A.getD i []) (C.getD i []) <;> rfl
    · show (qb_4_step C A (A.length : Int) (A.length : Int)).val = _
      refine Tr.n (by simp) ?_
      rfl
  simp only [qb_4_fin, Told.val] at h
  cases hk : allEq qb_E A C with
  | true =>
    rw [if_pos (show qb_k4_1 C A m i = true from hk)] at h
    split at h
    · rename_i ho
      obtain ⟨hl, rfl, ht, rfl, hr⟩ := is_iff.1 ho
      cases h
      refine ⟨_, (key hl ht hr).trans ?_⟩
      rw [hk]; rfl
    · cases h
  | false =>
    rw [if_neg (show ¬qb_k4_1 C A m i = true from by rw [show qb_k4_1 C A m i = allEq qb_E A C from rfl, hk]; simp)] at h
    split at h
    · rename_i ho
      obtain ⟨hl, rfl, ht, rfl, hr⟩ := is_iff.1 ho
      cases h
      refine ⟨_, (key hl ht hr).trans ?_⟩
      rw [hk]; rfl
    · cases h
theorem qb_is4 : LoopIs tab FT D38 live 135 qb_lo 0 4 := by
  refine loop_told (sl := qb_4_sl) (step := qb_4_st) (out := qb_4_out) (lor := qb_lo4) (fin := fun x => (qb_4_fin (x.1) (x.2.1) (x.2.2.1) (x.2.2.2))) (fun _ => rfl) ?_ (fun x n => qb_4_r x.1 x.2.1 x.2.2.1 x.2.2.2 n) (fun x ow => qb_4_h x.1 x.2.1 x.2.2.1 x.2.2.2 ow)
  intro s t h
  unfold qb_lo4 at h
  split at h
  · cases h; exact ⟨(_, _, _, _), rfl, rfl⟩
  · cases h
def qb_t (A C : LL) : Tr (Bool) := (.ite ((!((A.length : Int) == (C.length : Int))) = true) (.ok false)
  (.ite ((qb_k4_1 C A (A.length : Int) (0 : Int)) = true) (.ite ((qb_o4_2 C A (A.length : Int) (0 : Int)) = true) (.ok true)
    .no)
   (.ite ((qb_o4_3 C A (A.length : Int) (0 : Int)) = true) (.ok false)
    .no)))
def qb_mk (p : Bool) : Res := [(false, [⟨.bool, .sh, TC.b p⟩])]
def qb_c (A C : LL) : Bool := is (Typed tab (.slice 32) (.l A) ∧ (∀ x y : List TC, x ∈ A → y ∈ C → qba_rc ((nth x 0).int) ((nth x 1).int) ((nth x 2).bool) ((nth x 3).bool) ((nth x 4).list) ((nth x 5).list) ((nth x 6).list) ((nth x 7).list) ((nth x 8).int) ((nth y 0).int) ((nth y 1).int) ((nth y 2).bool) ((nth y 3).bool) ((nth y 4).list) ((nth y 5).list) ((nth y 6).list) ((nth y 7).list) ((nth y 8).int) = true))
def qb_v (A C : LL) : Bool := allEq qb_E A C
theorem qb_l (A C : LL) : (qb_c A C) = true → (qb_t A C).val = some (qb_v A C) := by
  intro h
  obtain ⟨ht, hr⟩ := is_iff.1 h
  unfold qb_t
  by_cases hl : A.length = C.length
  · refine Tr.n (by simp [hl]) ?_
    cases hk : allEq qb_E A C with
    | true =>
      refine Tr.t (show allEq qb_E A C = true from hk) ?_
      refine Tr.t (is_true ⟨hl, rfl, ht, rfl, hr⟩) ?_
      show _ = some (allEq qb_E A C); rw [hk]; rfl
    | false =>
      refine Tr.n (show ¬allEq qb_E A C = true from by rw [hk]; simp) ?_
      refine Tr.t (is_true ⟨hl, rfl, ht, rfl, hr⟩) ?_
      show _ = some (allEq qb_E A C); rw [hk]; rfl
  · refine Tr.t (by simp; omega) ?_
    show _ = some (allEq qb_E A C)
    rw [allEq_ne hl]; rfl
def qb_S : List Arg → Option (Bool × Res) := fun xs => match xs with
  | [(false, [(.slice 32, TC.l A)]), (false, [(.slice 32, TC.l C)]), (false, [(.func, TC.f 102 [])])] => some ((qb_c A C), qb_mk (qb_v A C))
  | _ => .none
theorem qb_e (A C : LL) : runF tab FT D38 live 135 qb_lo [(false, [(.slice 32, TC.l A)]), (false, [(.slice 32, TC.l C)]), (false, [(.func, TC.f 102 [])])] = (qb_t A C).run fun p => some (qb_mk p) := by kernel_rfl
theorem qb_s : ∀ xs r, qb_S xs = some (true, r) → runF tab FT D38 live 135 qb_lo xs = some r := by
  intro xs r h
  unfold qb_S at h
  split at h
  · obtain ⟨h1, rfl⟩ := sp h
    exact fun_told (qb_e ..) (qb_l _ _) h1
  · cases h
def D39 : Dt := also D38 135 qb_S
theorem d39 : DOk Go.Proofs.Try.prog tab D39 := d38.also mixed_ok tab_ok names_ok (fnLoops_one (by kernel_rfl) qb_is4) qb_s
def qba_t (k s : Int) (sg bg : Bool) (NA NU ME BA : LL) (ct k2 s2 : Int) (sg2 bg2 : Bool) (NA2 NU2 ME2 BA2 : LL) (ct2 : Int) : Tr (Bool) := (.ite ((k == k2) = true) (.ite ((s == s2) = true) (.ite ((sg == sg2) = true) (.ite ((bg == bg2) = true) (.ite ((ct == ct2) = true) (.ite ((ql_c NA NA2) = true) (.ite ((ql_v NA NA2) = true) (.ite ((qq_c NU NU2) = true) (.ite ((qq_v NU NU2) = true) (.ite ((qa_c ME ME2) = true) (.ite ((qa_v ME ME2) = true) (.ite ((qb_c BA BA2) = true) (.ok (qb_v BA BA2))
             .no)
            (.ok false))
           .no)
          (.ok false))
         .no)
        (.ok false))
       .no)
      (.ok false))
     (.ok false))
    (.ok false))
   (.ok false))
  (.ok false))
def qba_mk (p : Bool) : Res := [(false, [⟨.bool, .sh, TC.b p⟩])]
def qba_c (k s : Int) (sg bg : Bool) (NA NU ME BA : LL) (ct k2 s2 : Int) (sg2 bg2 : Bool) (NA2 NU2 ME2 BA2 : LL) (ct2 : Int) : Bool := (bif (k == k2) then (bif (s == s2) then (bif (sg == sg2) then (bif (bg == bg2) then (bif (ct == ct2) then ((ql_c NA NA2) && (bif (ql_v NA NA2) then ((qq_c NU NU2) && (bif (qq_v NU NU2) then ((qa_c ME ME2) && (bif (qa_v ME ME2) then ((qb_c BA BA2) && true) else true)) else true)) else true)) else true) else true) else true) else true) else true)
def qba_v (k s : Int) (sg bg : Bool) (NA NU ME BA : LL) (ct k2 s2 : Int) (sg2 bg2 : Bool) (NA2 NU2 ME2 BA2 : LL) (ct2 : Int) : Bool := (bif (k == k2) then (bif (s == s2) then (bif (sg == sg2) then (bif (bg == bg2) then (bif (ct == ct2) then (bif (ql_v NA NA2) then (bif (qq_v NU NU2) then (bif (qa_v ME ME2) then (qb_v BA BA2) else false) else false) else false) else false) else false) else false) else false) else false)
theorem qba_l (k s : Int) (sg bg : Bool) (NA NU ME BA : LL) (ct k2 s2 : Int) (sg2 bg2 : Bool) (NA2 NU2 ME2 BA2 : LL) (ct2 : Int) : (qba_c k s sg bg NA NU ME BA ct k2 s2 sg2 bg2 NA2 NU2 ME2 BA2 ct2) = true → (qba_t k s sg bg NA NU ME BA ct k2 s2 sg2 bg2 NA2 NU2 ME2 BA2 ct2).val = some (qba_v k s sg bg NA NU ME BA ct k2 s2 sg2 bg2 NA2 NU2 ME2 BA2 ct2) := by
  unfold qba_t qba_v qba_c
  intro h
  repeat' first | refine Tr.gb h fun h => ?_ | refine Tr.gs h fun h => ?_ | refine Tr.ss h (fun h => ?_) fun h => ?_ | exact rfl
theorem qba_e (k s : Int) (sg bg : Bool) (NA NU ME BA : LL) (ct k2 s2 : Int) (sg2 bg2 : Bool) (NA2 NU2 ME2 BA2 : LL) (ct2 : Int) : runF tab FT D39 live 102 noLoops [(true, [(.int .i64, TC.i k), (.int .i64, TC.i s), (.bool, TC.b sg), (.bool, TC.b bg), (.slice 9, TC.l NA), (.slice 2, TC.l NU), (.slice 71, TC.l ME), (.slice 32, TC.l BA), (.int .i64, TC.i ct)]), (true, [(.int .i64, TC.i k2), (.int .i64, TC.i s2), (.bool, TC.b sg2), (.bool, TC.b bg2), (.slice 9, TC.l NA2), (.slice 2, TC.l NU2), (.slice 71, TC.l ME2), (.slice 32, TC.l BA2), (.int .i64, TC.i ct2)])] = (qba_t k s sg bg NA NU ME BA ct k2 s2 sg2 bg2 NA2 NU2 ME2 BA2 ct2).run fun p => some (qba_mk p) := by kernel_rfl
theorem qba_nx (k s : Int) (sg bg : Bool) (NA NU ME BA : LL) (ct k2 s2 : Int) (sg2 bg2 : Bool) (NA2 NU2 ME2 BA2 : LL) (ct2 : Int) : is (max (rowsDep ME) (rowsDep BA) < qba_O.n + 1 ∧ Typed tab (.slice 9) (.l NA) ∧ Typed tab (.slice 2) (.l NU) ∧ Typed tab (.slice 71) (.l ME) ∧ Typed tab (.slice 32) (.l BA) ∧ Typed tab (.slice 9) (.l NA2) ∧ Typed tab (.slice 2) (.l NU2) ∧ Typed tab (.slice 71) (.l ME2) ∧ Typed tab (.slice 32) (.l BA2)) = true → (qba_c k s sg bg NA NU ME BA ct k2 s2 sg2 bg2 NA2 NU2 ME2 BA2 ct2) = true ∧ (qba_v k s sg bg NA NU ME BA ct k2 s2 sg2 bg2 NA2 NU2 ME2 BA2 ct2) = sameV k s sg bg NA NU ME BA ct k2 s2 sg2 bg2 NA2 NU2 ME2 BA2 ct2 := by
  intro h
  obtain ⟨hM, a4, a5, a6, a7, b4, b5, b6, b7⟩ := is_iff.1 h
  have q6 : ∀ x y, x ∈ ME → y ∈ ME2 → qba_rc (nth x 2).int (nth x 3).int (nth x 4).bool (nth x 5).bool (nth x 6).list (nth x 7).list (nth x 8).list (nth x 9).list (nth x 10).int (nth y 2).int (nth y 3).int (nth y 4).bool (nth y 5).bool (nth y 6).list (nth y 7).list (nth y 8).list (nth y 9).list (nth y 10).int = true := fun x y hx hy => is_true ⟨by have a := dep_cell hx 8; have b := dep_cell hx 9; omega, typed_list ((typed_elem a6 hx).2 6 (by decide)), typed_list ((typed_elem a6 hx).2 7 (by decide)), typed_list ((typed_elem a6 hx).2 8 (by decide)), typed_list ((typed_elem a6 hx).2 9 (by decide)), typed_list ((typed_elem b6 hy).2 6 (by decide)), typed_list ((typed_elem b6 hy).2 7 (by decide)), typed_list ((typed_elem b6 hy).2 8 (by decide)), typed_list ((typed_elem b6 hy).2 9 (by decide))⟩
  have q7 : ∀ x y, x ∈ BA → y ∈ BA2 → qba_rc (nth x 0).int (nth x 1).int (nth x 2).bool (nth x 3).bool (nth x 4).list (nth x 5).list (nth x 6).list (nth x 7).list (nth x 8).int (nth y 0).int (nth y 1).int (nth y 2).bool (nth y 3).bool (nth y 4).list (nth y 5).list (nth y 6).list (nth y 7).list (nth y 8).int = true := fun x y hx hy => is_true ⟨by have a := dep_cell hx 6; have b := dep_cell hx 7; omega, typed_list ((typed_elem a7 hx).2 4 (by decide)), typed_list ((typed_elem a7 hx).2 5 (by decide)), typed_list ((typed_elem a7 hx).2 6 (by decide)), typed_list ((typed_elem a7 hx).2 7 (by decide)), typed_list ((typed_elem b7 hy).2 4 (by decide)), typed_list ((typed_elem b7 hy).2 5 (by decide)), typed_list ((typed_elem b7 hy).2 6 (by decide)), typed_list ((typed_elem b7 hy).2 7 (by decide))⟩
  have c4 : ql_c NA NA2 = true := is_true a4
  have c5 : qq_c NU NU2 = true := is_true a5
  have c6 : qa_c ME ME2 = true := is_true ⟨a6, fun x y hx hy => by simp only [qcf_c, q6 x y hx hy, Bool.and_true, bif_same]⟩
  have c7 : qb_c BA BA2 = true := is_true ⟨a7, q7⟩
  have v4 : ql_v NA NA2 = eqL NA NA2 := allEq_eqL (E := E_9) (fun x y hx hy => by
    constructor
    · intro h
      have hh : (nth x 0).str = (nth y 0).str := by
        simpa [E_9] using h
      have e0 := hh
      have hx' := form_9 a4 hx
      have hy' := form_9 b4 hy
      rw [hx', hy', e0]
    · rintro rfl
      simp [E_9])
  have v5 : qq_v NU NU2 = eqL NU NU2 := allEq_eqL (E := E_2) (fun x y hx hy => by
    constructor
    · intro h
      have hh : (nth x 0).int = (nth y 0).int := by
        simpa [E_2] using h
      have e0 := hh
      have hx' := form_2 a5 hx
      have hy' := form_2 b5 hy
      rw [hx', hy', e0]
    · rintro rfl
      simp [E_2])
  have v6 : qa_v ME ME2 = eqL ME ME2 := allEq_eqL (E := qa_E) (fun x y hx hy => by
    constructor
    · intro h
      have hh : (nth x 0).str = (nth y 0).str ∧ (nth x 1).int = (nth y 1).int ∧ (nth x 2).int = (nth y 2).int ∧ (nth x 3).int = (nth y 3).int ∧ (nth x 4).bool = (nth y 4).bool ∧ (nth x 5).bool = (nth y 5).bool ∧ (nth x 6).list = (nth y 6).list ∧ (nth x 7).list = (nth y 7).list ∧ (nth x 8).list = (nth y 8).list ∧ (nth x 9).list = (nth y 9).list ∧ (nth x 10).int = (nth y 10).int := by
        have h : (bif ((nth x 0).str == (nth y 0).str) then (bif ((nth x 1).int == (nth y 1).int) then sameV (nth x 2).int (nth x 3).int (nth x 4).bool (nth x 5).bool (nth x 6).list (nth x 7).list (nth x 8).list (nth x 9).list (nth x 10).int (nth y 2).int (nth y 3).int (nth y 4).bool (nth y 5).bool (nth y 6).list (nth y 7).list (nth y 8).list (nth y 9).list (nth y 10).int else false) else false) = true := h
        simp only [bif_ft, sameV, Bool.and_eq_true, beq_iff_eq, eqL_iff] at h
        obtain ⟨n, o, h⟩ := h
        exact ⟨n, o, h.1, h.2.1, h.2.2.1, h.2.2.2.1, h.2.2.2.2.2.1, h.2.2.2.2.2.2.1, h.2.2.2.2.2.2.2.1, h.2.2.2.2.2.2.2.2, h.2.2.2.2.1⟩
      obtain ⟨e0, e1, e2, e3, e4, e5, e6, e7, e8, e9, e10⟩ := hh
      have hx' := form_71 a6 hx
      have hy' := form_71 b6 hy
      rw [hx', hy', e0, e1, e2, e3, e4, e5, e6, e7, e8, e9, e10]
    · rintro rfl
      show (bif ((nth x 0).str == (nth x 0).str) then (bif ((nth x 1).int == (nth x 1).int) then sameV (nth x 2).int (nth x 3).int (nth x 4).bool (nth x 5).bool (nth x 6).list (nth x 7).list (nth x 8).list (nth x 9).list (nth x 10).int (nth x 2).int (nth x 3).int (nth x 4).bool (nth x 5).bool (nth x 6).list (nth x 7).list (nth x 8).list (nth x 9).list (nth x 10).int else false) else false) = true
      simp [sameV, eqL_refl])
  have v7 : qb_v BA BA2 = eqL BA BA2 := allEq_eqL (E := qb_E) (fun x y hx hy => by
    constructor
    · intro h
      have hh : (nth x 0).int = (nth y 0).int ∧ (nth x 1).int = (nth y 1).int ∧ (nth x 2).bool = (nth y 2).bool ∧ (nth x 3).bool = (nth y 3).bool ∧ (nth x 4).list = (nth y 4).list ∧ (nth x 5).list = (nth y 5).list ∧ (nth x 6).list = (nth y 6).list ∧ (nth x 7).list = (nth y 7).list ∧ (nth x 8).int = (nth y 8).int := by
        have h : sameV (nth x 0).int (nth x 1).int (nth x 2).bool (nth x 3).bool (nth x 4).list (nth x 5).list (nth x 6).list (nth x 7).list (nth x 8).int (nth y 0).int (nth y 1).int (nth y 2).bool (nth y 3).bool (nth y 4).list (nth y 5).list (nth y 6).list (nth y 7).list (nth y 8).int = true := h
        simp only [sameV, Bool.and_eq_true, beq_iff_eq, eqL_iff] at h
        exact ⟨h.1, h.2.1, h.2.2.1, h.2.2.2.1, h.2.2.2.2.2.1, h.2.2.2.2.2.2.1, h.2.2.2.2.2.2.2.1, h.2.2.2.2.2.2.2.2, h.2.2.2.2.1⟩
      obtain ⟨e0, e1, e2, e3, e4, e5, e6, e7, e8⟩ := hh
      have hx' := form_32 a7 hx
      have hy' := form_32 b7 hy
      rw [hx', hy', e0, e1, e2, e3, e4, e5, e6, e7, e8]
    · rintro rfl
      show sameV (nth x 0).int (nth x 1).int (nth x 2).bool (nth x 3).bool (nth x 4).list (nth x 5).list (nth x 6).list (nth x 7).list (nth x 8).int (nth x 0).int (nth x 1).int (nth x 2).bool (nth x 3).bool (nth x 4).list (nth x 5).list (nth x 6).list (nth x 7).list (nth x 8).int = true
      simp [sameV, eqL_refl])
  constructor
  · unfold qba_c
    simp only [c4, c5, c6, c7, Bool.true_and, Bool.and_true, bif_same]
  · unfold qba_v sameV
    rw [v4, v5, v6, v7]
    simp only [bif_ft]
theorem qba_nxr (k s : Int) (sg bg : Bool) (NA NU ME BA : LL) (ct k2 s2 : Int) (sg2 bg2 : Bool) (NA2 NU2 ME2 BA2 : LL) (ct2 : Int) : qba_rc (i_impl_SameType := ⟨qba_O.n + 1⟩) k s sg bg NA NU ME BA ct k2 s2 sg2 bg2 NA2 NU2 ME2 BA2 ct2 = true → (qba_c k s sg bg NA NU ME BA ct k2 s2 sg2 bg2 NA2 NU2 ME2 BA2 ct2) = true ∧ (qba_v k s sg bg NA NU ME BA ct k2 s2 sg2 bg2 NA2 NU2 ME2 BA2 ct2) = (qba_rv k s sg bg NA NU ME BA ct k2 s2 sg2 bg2 NA2 NU2 ME2 BA2 ct2) := fun h => qba_nx k s sg bg NA NU ME BA ct k2 s2 sg2 bg2 NA2 NU2 ME2 BA2 ct2 h
theorem qba_rs : ∀ xs r, qba_rS (i_impl_SameType := ⟨qba_O.n + 1⟩) xs = some (true, r) → runF tab FT D39 live 102 noLoops xs = some r := by
  intro xs r h
  unfold qba_rS at h
  split at h
  · obtain ⟨h1, rfl⟩ := sp h
    have hx := qba_nxr _ _ _ _ _ _ _ _ _ _ _ _ _ _ _ _ _ _ h1
    have ht := fun_told (qba_e ..) (qba_l _ _ _ _ _ _ _ _ _ _ _ _ _ _ _ _ _ _) hx.1
    rw [hx.2] at ht
    exact ht
  · cases h
theorem qba_step : qba_G (i_impl_SameType := ⟨qba_O.n + 1⟩) := by
  have h := DOk.also2 (S := qba_rS (i_impl_SameType := ⟨qba_O.n + 1⟩)) mixed_ok tab_ok names_ok d35 d39 noLoops_ok qba_rs
  refine qba_G.mk (i_impl_SameType := ⟨qba_O.n + 1⟩) ?_
  exact h
abbrev qh_2_σ := LL × Int × Int × Int
abbrev qh_2_ω := (Int) ⊕ (Unit)
def qh_2_step (A : LL) (v m i : Int) : Tr (qh_2_σ ⊕ qh_2_ω) := (.ite ((decide (i < m)) = true) (.ite ((0 : Int) ≤ i ∧ i < (A.length : Int)) (.ite ((v == (nth (row A i) 0).int) = true) (.ok (.inr (.inl i)))
    (.ok (.inl (A, v, m, (IntKind.wrap .i64 (i + (1 : Int)))))))
   .no)
  (.ok (.inr (.inr ()))))
def qh_2_st : qh_2_σ → Tr (qh_2_σ ⊕ qh_2_ω) := fun x => (qh_2_step (x.1) (x.2.1) (x.2.2.1) (x.2.2.2))
def qh_k2_1 (A : LL) (v m i : Int) : Bool := A.all (fun x => !(v == (nth x 0).int))
def qh_o2_2 (A : LL) (v m i : Int) : Bool := is (i = 0 ∧ A.length ≤ 140737488351232 ∧ m = (A.length : Int))
def qh_o2_3 (A : LL) (v m i : Int) : Bool := is (i = 0 ∧ A.length ≤ 140737488351232 ∧ m = (A.length : Int))
def qh_u2_3 (A : LL) (v m i : Int) : Int := (Int.ofNat (A.findIdx fun x => !(fun x => !(v == (nth x 0).int)) x))
def qh_2_fin (A : LL) (v m i : Int) : Told qh_2_ω := (.br (qh_k2_1 A v m i) (.leaf (qh_o2_2 A v m i) (.inr ())) (.leaf (qh_o2_3 A v m i) (.inl (qh_u2_3 A v m i))))
def qh_2_sl (x : qh_2_σ) : List Slot := [⟨.val false [⟨.slice 2, .sh, TC.l (x.1)⟩], ⟨0, 0⟩⟩, ⟨.val false [⟨.int .i64, .sh, TC.i (x.2.1)⟩], ⟨0, 0⟩⟩, ⟨.val false [⟨.int .i64, .sh, TC.i (x.2.2.1)⟩], ⟨0, 0⟩⟩, ⟨.val false [⟨.int .i64, .sh, TC.i (x.2.2.2)⟩], ⟨0, 0⟩⟩]
def qh_2_out : qh_2_ω → Ex × List Slot := (Sum.elim (fun x => (.ret, [⟨.val false [⟨.int .i64, .sh, TC.i x⟩], ⟨0, 0⟩⟩])) (fun x => (.exit 0, [Slot.none])))
def qh_lo2 : List Slot → Option (Told (Ex × List Slot)) := fun s => match s with
  | [⟨.val false [⟨.slice 2, .sh, TC.l A⟩], ⟨0, 0⟩⟩, ⟨.val false [⟨.int .i64, .sh, TC.i v⟩], ⟨0, 0⟩⟩, ⟨.val false [⟨.int .i64, .sh, TC.i m⟩], ⟨0, 0⟩⟩, ⟨.val false [⟨.int .i64, .sh, TC.i i⟩], ⟨0, 0⟩⟩] => some (((qh_2_fin A v m i)).map qh_2_out)
  | _ => .none
def qh_lo : LoopTeller := fun r s => bif Nat.beq r 2 then qh_lo2 s else .none
theorem qh_2_r (A : LL) (v m i : Int) (fuel : Nat) : rounds (rnd tab FT D39 live 150 qh_lo 0 2) leave (fuel + 1) (qh_2_sl (A, v, m, i)) = ((qh_2_step A v m i)).run (goOn (fun s => rounds (rnd tab FT D39 live 150 qh_lo 0 2) leave fuel (qh_2_sl s)) fun w => some (qh_2_out w)) := by kernel_rfl
theorem qh_2_h (A : LL) (v m i : Int) (ow : qh_2_ω) : ((qh_2_fin A v m i)).val = some ow → ∃ fuel, loopN qh_2_st fuel (A, v, m, i) = some ow := by
  intro h
  have key : A.length ≤ 140737488351232 → loopN qh_2_st (A.length + 1) (A, v, (A.length : Int), (0 : Int)) = some (if A.all (fun x => !(v == (nth x 0).int)) = true then (.inr ()) else (.inl (Int.ofNat (A.findIdx fun x => !(fun x => !(v == (nth x 0).int)) x)))) := by
    intro ht
    have hlen : A.length ≤ 140737488351232 := ht
    have key := loopN_scan (step := qh_2_st) A [] (fun x => !(v == (nth x 0).int)) (fun a _ => a) (fun i a => (A, v, (A.length : Int), (i : Int))) (fun a => (.inr ())) (fun i a => (.inl (i : Int))) (fun i a hi => ?_) (fun a => ?_) A.length 0 () (by omega)
    · first | (rw [Nat.zero_add] at key; exact key) | exact key
    · skip
      show (qh_2_step A v (A.length : Int) (i : Int)).val = _
      unfold qh_2_step
      refine Tr.t (by simp; omega) ?_
      skip
      refine Tr.t (by first | omega | (constructor <;> omega)) ?_
      refine Tr.b2 (fun hP => ?_) (fun _ => rfl)
      rw [Tr.val_ok, wrap64 (i := (i : Int) + 1) (by omega) (by omega)]; rfl
    · show (qh_2_step A v (A.length : Int) (A.length : Int)).val = _
      refine Tr.n (by simp) ?_
      rfl
  simp only [qh_2_fin, Told.val] at h
  cases hk : A.all (fun x => !(v == (nth x 0).int)) with
  | true =>
    rw [if_pos (show qh_k2_1 A v m i = true from hk)] at h
    split at h
    · rename_i ho
      obtain ⟨rfl, ht, rfl⟩ := is_iff.1 ho
      cases h
      refine ⟨_, (key ht).trans ?_⟩
      rw [hk]; rfl
    · cases h
  | false =>
    rw [if_neg (show ¬qh_k2_1 A v m i = true from by rw [show qh_k2_1 A v m i = (A.all (fun x => !(v == (nth x 0).int))) from rfl, hk]; simp)] at h
    split at h
    · rename_i ho
      obtain ⟨rfl, ht, rfl⟩ := is_iff.1 ho
      cases h
      refine ⟨_, (key ht).trans ?_⟩
      rw [hk]; rfl
    · cases h
theorem qh_is2 : LoopIs tab FT D39 live 150 qh_lo 0 2 := by
  refine loop_told (sl := qh_2_sl) (step := qh_2_st) (out := qh_2_out) (lor := qh_lo2) (fin := fun x => (qh_2_fin (x.1) (x.2.1) (x.2.2.1) (x.2.2.2))) (fun _ => rfl) ?_ (fun x n => qh_2_r x.1 x.2.1 x.2.2.1 x.2.2.2 n) (fun x ow => qh_2_h x.1 x.2.1 x.2.2.1 x.2.2.2 ow)
  intro s t h
  unfold qh_lo2 at h
  split at h
  · cases h; exact ⟨(_, _, _, _), rfl, rfl⟩
  · cases h
def qh_t (A : LL) (v : Int) : Tr (Int) := (.ite ((qh_k2_1 A v (A.length : Int) (0 : Int)) = true) (.ite ((qh_o2_2 A v (A.length : Int) (0 : Int)) = true) (.ok (-1 : Int))
   .no)
  (.ite ((qh_o2_3 A v (A.length : Int) (0 : Int)) = true) (.ok (qh_u2_3 A v (A.length : Int) (0 : Int)))
   .no))
def qh_mk (p : Int) : Res := [(false, [⟨.int .i64, .sh, TC.i p⟩])]
def qh_c (A : LL) (v : Int) : Bool := (bif (qh_k2_1 A v (A.length : Int) (0 : Int)) then ((qh_o2_2 A v (A.length : Int) (0 : Int)) && true) else ((qh_o2_3 A v (A.length : Int) (0 : Int)) && true))
def qh_v (A : LL) (v : Int) : Int := (bif (qh_k2_1 A v (A.length : Int) (0 : Int)) then (-1 : Int) else (qh_u2_3 A v (A.length : Int) (0 : Int)))
theorem qh_l (A : LL) (v : Int) : (qh_c A v) = true → (qh_t A v).val = some (qh_v A v) := by
  unfold qh_t qh_v qh_c
  exact fun h => (Tr.ss h (fun h => (Tr.gb h fun h => rfl)) (fun h => (Tr.gb h fun h => rfl)))
def qh_S : List Arg → Option (Bool × Res) := fun xs => match xs with
  | [(false, [(.slice 2, TC.l A)]), (false, [(.int .i64, TC.i v)])] => some ((qh_c A v), qh_mk (qh_v A v))
  | _ => .none
theorem qh_e (A : LL) (v : Int) : runF tab FT D39 live 150 qh_lo [(false, [(.slice 2, TC.l A)]), (false, [(.int .i64, TC.i v)])] = (qh_t A v).run fun p => some (qh_mk p) := by kernel_rfl
theorem qh_s : ∀ xs r, qh_S xs = some (true, r) → runF tab FT D39 live 150 qh_lo xs = some r := by
  intro xs r h
  unfold qh_S at h
  split at h
  · obtain ⟨h1, rfl⟩ := sp h
    exact fun_told (qh_e ..) (qh_l _ _) h1
  · cases h
def D40 : Dt := also D39 150 qh_S
theorem d40 : DOk Go.Proofs.Try.prog tab D40 := d39.also mixed_ok tab_ok names_ok (fnLoops_one (by kernel_rfl) qh_is2) qh_s
theorem qh_cc {A : LL} {v : Int} (hl : A.length ≤ 140737488351232) : (qh_c A v) = true := by
  unfold qh_c
  refine bifT (fun b1 => ?_) (fun b1 => ?_)
  · skip
    refine andT (by exact is_true ⟨rfl, hl, rfl⟩) ?_
    rfl
  · skip
    refine andT (by exact is_true ⟨rfl, hl, rfl⟩) ?_
    rfl
def qbu_t (a0 : LL) (a1 : Int) : Tr (Bool) := (.ite ((qh_c a0 a1) = true) (.ok (decide ((qh_v a0 a1) ≥ (0 : Int))))
  .no)
def qbu_mk (p : Bool) : Res := [(false, [⟨.bool, .sh, TC.b p⟩])]
def qbu_c (a0 : LL) (a1 : Int) : Bool := (qh_c a0 a1)
def qbu_v (a0 : LL) (a1 : Int) : Bool := (decide ((qh_v a0 a1) ≥ (0 : Int)))
theorem qbu_l (a0 : LL) (a1 : Int) : (qbu_c a0 a1) = true → (qbu_t a0 a1).val = some (qbu_v a0 a1) := by
  intro h
  have hc0 : (qh_c a0 a1) = true := h
  unfold qbu_t
  exact (Tr.t hc0 rfl)
def qbu_S : List Arg → Option (Bool × Res) := fun xs => match xs with
  | [(false, [(.slice 2, TC.l a0)]), (false, [(.int .i64, TC.i a1)])] => some ((qbu_c a0 a1), qbu_mk (qbu_v a0 a1))
  | _ => .none
theorem qbu_e (a0 : LL) (a1 : Int) : runF tab FT D40 live 136 noLoops [(false, [(.slice 2, TC.l a0)]), (false, [(.int .i64, TC.i a1)])] = (qbu_t a0 a1).run fun p => some (qbu_mk p) := by kernel_rfl
theorem qbu_s : ∀ xs r, qbu_S xs = some (true, r) → runF tab FT D40 live 136 noLoops xs = some r := by
  intro xs r h
  unfold qbu_S at h
  split at h
  · obtain ⟨h1, rfl⟩ := sp h
    exact fun_told (qbu_e ..) (qbu_l _ _) h1
  · cases h
def D41 : Dt := also D40 136 qbu_S
theorem d41 : DOk Go.Proofs.Try.prog tab D41 := d40.also mixed_ok tab_ok names_ok noLoops_ok qbu_s
def qbz_t (k s : Int) (sg bg : Bool) (NA NU ME BA : LL) (ct : Int) : Tr (Bool) := (.ite ((qbu_c [[TC.i (1 : Int)], [TC.i (2 : Int)], [TC.i (4 : Int)], [TC.i (8 : Int)]] s) = true) (.ite ((qbu_v [[TC.i (1 : Int)], [TC.i (2 : Int)], [TC.i (4 : Int)], [TC.i (8 : Int)]] s) = true) (.ite (sg = true) (.ite (bg = true) (.ok (!(s == (1 : Int))))
     (.ok true))
    (.ite ((decide (s < (8 : Int))) = true) (.ite (bg = true) (.ok (!(s == (1 : Int))))
      (.ok true))
     (.ok false)))
   (.ok false))
  .no)
def qbz_mk (p : Bool) : Res := [(false, [⟨.bool, .sh, TC.b p⟩])]
def qbz_c (k s : Int) (sg bg : Bool) (NA NU ME BA : LL) (ct : Int) : Bool := ((qbu_c [[TC.i (1 : Int)], [TC.i (2 : Int)], [TC.i (4 : Int)], [TC.i (8 : Int)]] s) && (bif (qbu_v [[TC.i (1 : Int)], [TC.i (2 : Int)], [TC.i (4 : Int)], [TC.i (8 : Int)]] s) then (bif sg then (bif bg then true else true) else (bif (decide (s < (8 : Int))) then (bif bg then true else true) else true)) else true))
def qbz_v (k s : Int) (sg bg : Bool) (NA NU ME BA : LL) (ct : Int) : Bool := (bif (qbu_v [[TC.i (1 : Int)], [TC.i (2 : Int)], [TC.i (4 : Int)], [TC.i (8 : Int)]] s) then (bif sg then (bif bg then (!(s == (1 : Int))) else true) else (bif (decide (s < (8 : Int))) then (bif bg then (!(s == (1 : Int))) else true) else false)) else false)
theorem qbz_l (k s : Int) (sg bg : Bool) (NA NU ME BA : LL) (ct : Int) : (qbz_c k s sg bg NA NU ME BA ct) = true → (qbz_t k s sg bg NA NU ME BA ct).val = some (qbz_v k s sg bg NA NU ME BA ct) := by
  unfold qbz_t qbz_v qbz_c
  exact fun h => (Tr.gb h fun h => (Tr.ss h (fun h => (Tr.ss h (fun h => (Tr.ss h (fun h => rfl) (fun h => rfl))) (fun h => (Tr.ss h (fun h => (Tr.ss h (fun h => rfl) (fun h => rfl))) (fun h => rfl))))) (fun h => rfl)))
def qbz_S : List Arg → Option (Bool × Res) := fun xs => match xs with
  | [(true, [(.int .i64, TC.i k), (.int .i64, TC.i s), (.bool, TC.b sg), (.bool, TC.b bg), (.slice 9, TC.l NA), (.slice 2, TC.l NU), (.slice 71, TC.l ME), (.slice 32, TC.l BA), (.int .i64, TC.i ct)])] => some ((qbz_c k s sg bg NA NU ME BA ct), qbz_mk (qbz_v k s sg bg NA NU ME BA ct))
  | _ => .none
theorem qbz_e (k s : Int) (sg bg : Bool) (NA NU ME BA : LL) (ct : Int) : runF tab FT D41 live 104 noLoops [(true, [(.int .i64, TC.i k), (.int .i64, TC.i s), (.bool, TC.b sg), (.bool, TC.b bg), (.slice 9, TC.l NA), (.slice 2, TC.l NU), (.slice 71, TC.l ME), (.slice 32, TC.l BA), (.int .i64, TC.i ct)])] = (qbz_t k s sg bg NA NU ME BA ct).run fun p => some (qbz_mk p) := by kernel_rfl
theorem qbz_s : ∀ xs r, qbz_S xs = some (true, r) → runF tab FT D41 live 104 noLoops xs = some r := by
  intro xs r h
  unfold qbz_S at h
  split at h
  · obtain ⟨h1, rfl⟩ := sp h
    exact fun_told (qbz_e ..) (qbz_l _ _ _ _ _ _ _ _ _) h1
  · cases h
def D42 : Dt := also D41 104 qbz_S
theorem d42 : DOk Go.Proofs.Try.prog tab D42 := d41.also mixed_ok tab_ok names_ok noLoops_ok qbz_s
theorem qbz_cc1 (k s : Int) (sg bg : Bool) (NA NU ME BA : LL) (ct : Int) : qbz_c k s sg bg NA NU ME BA ct = true := by
  unfold qbz_c
  rw [show qbu_c [[TC.i (1 : Int)], [TC.i (2 : Int)], [TC.i (4 : Int)], [TC.i (8 : Int)]] s = true from qh_cc (by show 4 ≤ 140737488351232; omega)]
  simp only [bif_same, Bool.and_self]
theorem qbz_vv (k s : Int) (sg bg : Bool) (NA NU ME BA : LL) (ct : Int) : qbz_v k s sg bg NA NU ME BA ct = (has4 s && (!((s == 8) && !sg) && !((s == 1) && bg))) := by
  unfold qbz_v
  rw [show qbu_v [[TC.i (1 : Int)], [TC.i (2 : Int)], [TC.i (4 : Int)], [TC.i (8 : Int)]] s = has4 s from by
    show decide ((bif [[TC.i (1 : Int)], [TC.i (2 : Int)], [TC.i (4 : Int)], [TC.i (8 : Int)]].all (fun x => !(s == (nth x 0).int)) then -1 else Int.ofNat _) ≥ 0) = _
    rw [show [[TC.i (1 : Int)], [TC.i (2 : Int)], [TC.i (4 : Int)], [TC.i (8 : Int)]].all (fun x => !(s == (nth x 0).int)) = !(has4 s) from by
      show (!(s == (1 : Int)) && (!(s == (2 : Int)) && (!(s == (4 : Int)) && (!(s == (8 : Int)) && true)))) = _
      unfold has4
      cases (s == 1) <;> cases (s == 2) <;> cases (s == 4) <;> cases (s == 8) <;> rfl]
    cases has4 s <;> simp]
  cases h4 : has4 s with
  | false => rfl
  | true =>
    rw [show decide (s < 8) = !(s == 8) from by
      unfold has4 at h4
      simp only [Bool.or_eq_true, beq_iff_eq] at h4
      rcases h4 with ((rfl | rfl) | rfl) | rfl <;> decide]
    cases sg <;> cases (s == 8) <;> cases bg <;> cases (s == 1) <;> rfl
def qce_t (a0 a1 a2 : Int) : Tr (Bool) := (.ite ((decide (a0 ≥ a1)) = true) (.ok (decide (a0 ≤ a2)))
  (.ok false))
def qce_mk (p : Bool) : Res := [(false, [⟨.bool, .sh, TC.b p⟩])]
def qce_c (a0 a1 a2 : Int) : Bool := true
def qce_v (a0 a1 a2 : Int) : Bool := (bif (decide (a0 ≥ a1)) then (decide (a0 ≤ a2)) else false)
theorem qce_l (a0 a1 a2 : Int) : (qce_c a0 a1 a2) = true → (qce_t a0 a1 a2).val = some (qce_v a0 a1 a2) := by
  intro h
  skip
  unfold qce_t qce_v
  exact (Tr.s rfl rfl)
def qce_S : List Arg → Option (Bool × Res) := fun xs => match xs with
  | [(false, [(.int .i64, TC.i a0)]), (false, [(.int .i64, TC.i a1)]), (false, [(.int .i64, TC.i a2)])] => some (true, qce_mk (qce_v a0 a1 a2))
  | _ => .none
theorem qce_e (a0 a1 a2 : Int) : runF tab FT D42 live 105 noLoops [(false, [(.int .i64, TC.i a0)]), (false, [(.int .i64, TC.i a1)]), (false, [(.int .i64, TC.i a2)])] = (qce_t a0 a1 a2).run fun p => some (qce_mk p) := by kernel_rfl
theorem qce_s : ∀ xs r, qce_S xs = some (true, r) → runF tab FT D42 live 105 noLoops xs = some r := by
  intro xs r h
  unfold qce_S at h
  split at h
  · obtain ⟨h1, rfl⟩ := sp h
    exact fun_told (qce_e ..) (qce_l _ _ _) rfl
  · cases h
def D43 : Dt := also D42 105 qce_S
theorem d43 : DOk Go.Proofs.Try.prog tab D43 := d42.also mixed_ok tab_ok names_ok noLoops_ok qce_s
section
class qv_O where n : Nat
variable [i_impl_Type_valid : qv_O]
def qv_rc (k s : Int) (sg bg : Bool) (NA NU ME BA : LL) (ct d : Int) : Bool := is (max (rowsDep ME) (rowsDep BA) < qv_O.n ∧ d ≤ 3 ∧ max (rowsDep ME) (rowsDep BA) < qba_O.n ∧ max (rowsDep ME) (rowsDep BA) < qw_O.n ∧ Typed tab (.slice 9) (.l NA) ∧ Typed tab (.slice 2) (.l NU) ∧ Typed tab (.slice 71) (.l ME) ∧ Typed tab (.slice 32) (.l BA))
def qv_rv (k s : Int) (sg bg : Bool) (NA NU ME BA : LL) (ct d : Int) : Bool := validV k s sg bg NA NU ME BA ct d
def qv_rmk (p : Bool) : Res := [(false, [⟨.bool, .sh, TC.b p⟩])]
def qv_rS : List Arg → Option (Bool × Res) := fun xs => match xs with
  | [(true, [(.int .i64, TC.i k), (.int .i64, TC.i s), (.bool, TC.b sg), (.bool, TC.b bg), (.slice 9, TC.l NA), (.slice 2, TC.l NU), (.slice 71, TC.l ME), (.slice 32, TC.l BA), (.int .i64, TC.i ct)]), (false, [(.int .i64, TC.i d)])] => some ((qv_rc k s sg bg NA NU ME BA ct d), qv_rmk (qv_rv k s sg bg NA NU ME BA ct d))
  | _ => .none
def D44 : Dt := also D43 73 qv_rS
class qv_G : Prop where ok : DOk Go.Proofs.Try.prog tab D44
variable [g_impl_Type_valid : qv_G]
theorem d44 : DOk Go.Proofs.Try.prog tab D44 := qv_G.ok
def qbs_t (k s : Int) (sg bg : Bool) (NA NU ME BA : LL) (ct : Int) : Tr (Int × Int) := (.ite (sg = true) (.ite (0 ≤ (IntKind.wrap .i64 ((IntKind.wrap .i64 ((8 : Int) * s)) - (1 : Int)))) (.ite (0 ≤ (IntKind.wrap .i64 ((IntKind.wrap .i64 ((8 : Int) * s)) - (1 : Int)))) (.ok ((IntKind.wrap .i64 ((-1 : Int) * (2 ^ (min ((IntKind.wrap .i64 ((IntKind.wrap .i64 ((8 : Int) * s)) - (1 : Int)))).toNat 64)))), (IntKind.wrap .i64 ((IntKind.wrap .i64 ((1 : Int) * (2 ^ (min ((IntKind.wrap .i64 ((IntKind.wrap .i64 ((8 : Int) * s)) - (1 : Int)))).toNat 64)))) - (1 : Int)))))
    .no)
   .no)
  (.ite (0 ≤ (IntKind.wrap .i64 ((8 : Int) * s))) (.ok ((0 : Int), (IntKind.wrap .i64 ((IntKind.wrap .i64 ((1 : Int) * (2 ^ (min ((IntKind.wrap .i64 ((8 : Int) * s))).toNat 64)))) - (1 : Int)))))
   .no))
def qbs_mk (p : Int × Int) : Res := [(false, [⟨.int .i64, .sh, TC.i (p.1)⟩]), (false, [⟨.int .i64, .sh, TC.i (p.2)⟩])]
def qbs_c (k s : Int) (sg bg : Bool) (NA NU ME BA : LL) (ct : Int) : Bool := (bif sg then (is (0 ≤ (IntKind.wrap .i64 ((IntKind.wrap .i64 ((8 : Int) * s)) - (1 : Int)))) && (is (0 ≤ (IntKind.wrap .i64 ((IntKind.wrap .i64 ((8 : Int) * s)) - (1 : Int)))) && true)) else (is (0 ≤ (IntKind.wrap .i64 ((8 : Int) * s))) && true))
def qbs_v (k s : Int) (sg bg : Bool) (NA NU ME BA : LL) (ct : Int) : Int × Int := (bif sg then ((IntKind.wrap .i64 ((-1 : Int) * (2 ^ (min ((IntKind.wrap .i64 ((IntKind.wrap .i64 ((8 : Int) * s)) - (1 : Int)))).toNat 64)))), (IntKind.wrap .i64 ((IntKind.wrap .i64 ((1 : Int) * (2 ^ (min ((IntKind.wrap .i64 ((IntKind.wrap .i64 ((8 : Int) * s)) - (1 : Int)))).toNat 64)))) - (1 : Int)))) else ((0 : Int), (IntKind.wrap .i64 ((IntKind.wrap .i64 ((1 : Int) * (2 ^ (min ((IntKind.wrap .i64 ((8 : Int) * s))).toNat 64)))) - (1 : Int)))))
theorem qbs_l (k s : Int) (sg bg : Bool) (NA NU ME BA : LL) (ct : Int) : (qbs_c k s sg bg NA NU ME BA ct) = true → (qbs_t k s sg bg NA NU ME BA ct).val = some (qbs_v k s sg bg NA NU ME BA ct) := by
  unfold qbs_t qbs_v qbs_c
  exact fun h => (Tr.ss h (fun h => (Tr.gs h fun h => (Tr.gs h fun h => rfl))) (fun h => (Tr.gs h fun h => rfl)))
def qbs_S : List Arg → Option (Bool × Res) := fun xs => match xs with
  | [(true, [(.int .i64, TC.i k), (.int .i64, TC.i s), (.bool, TC.b sg), (.bool, TC.b bg), (.slice 9, TC.l NA), (.slice 2, TC.l NU), (.slice 71, TC.l ME), (.slice 32, TC.l BA), (.int .i64, TC.i ct)])] => some ((qbs_c k s sg bg NA NU ME BA ct), qbs_mk (qbs_v k s sg bg NA NU ME BA ct))
  | _ => .none
theorem qbs_e (k s : Int) (sg bg : Bool) (NA NU ME BA : LL) (ct : Int) : runF tab FT D44 live 113 noLoops [(true, [(.int .i64, TC.i k), (.int .i64, TC.i s), (.bool, TC.b sg), (.bool, TC.b bg), (.slice 9, TC.l NA), (.slice 2, TC.l NU), (.slice 71, TC.l ME), (.slice 32, TC.l BA), (.int .i64, TC.i ct)])] = (qbs_t k s sg bg NA NU ME BA ct).run fun p => some (qbs_mk p) := by kernel_rfl
theorem qbs_s : ∀ xs r, qbs_S xs = some (true, r) → runF tab FT D44 live 113 noLoops xs = some r := by
  intro xs r h
  unfold qbs_S at h
  split at h
  · obtain ⟨h1, rfl⟩ := sp h
    exact fun_told (qbs_e ..) (qbs_l _ _ _ _ _ _ _ _ _) h1
  · cases h
def D45 : Dt := also D44 113 qbs_S
theorem d45 : DOk Go.Proofs.Try.prog tab D45 := d44.also mixed_ok tab_ok names_ok noLoops_ok qbs_s
theorem irange {k s : Int} {sg bg : Bool} {NA NU ME BA : LL} {ct : Int} (h : intV s sg bg NA NU ME BA ct = true) : qbs_c k s sg bg NA NU ME BA ct = true ∧ (qbs_v k s sg bg NA NU ME BA ct).1 = loV s sg ∧ (qbs_v k s sg bg NA NU ME BA ct).2 = hiV s sg := by
  unfold intV has4 at h
  simp only [Bool.and_eq_true, Bool.or_eq_true, beq_iff_eq] at h
  have hs := h.1.1.1
  have h8 := h.1.1.2
  rcases hs with ((rfl | rfl) | rfl) | rfl <;> cases sg <;> first | (exact ⟨by unfold qbs_c; first | exact andT (is_true (by decide)) (andT (is_true (by decide)) rfl) | exact andT (is_true (by decide)) rfl, by unfold qbs_v loV; decide, by unfold qbs_v hiV; decide⟩) | (exact absurd h8 (by decide))
def qz_f2 (s : BS) (m i : Int) : (Unit) ⊕ ((BS) ⊕ (BS)) := (bif (decide (((s.getD (i).toNat 0).toNat : Int) ≥ (65 : Int))) then (bif (decide (((s.getD (i).toNat 0).toNat : Int) ≤ (90 : Int))) then (.inl ()) else (bif (decide (((s.getD (i).toNat 0).toNat : Int) ≥ (97 : Int))) then (bif (!(decide (((s.getD (i).toNat 0).toNat : Int) ≤ (122 : Int)))) then (bif (i == (0 : Int)) then (.inr (.inl s)) else (bif (decide (((s.getD (i).toNat 0).toNat : Int) < (48 : Int))) then (bif (!(((s.getD (i).toNat 0).toNat : Int) == (95 : Int))) then (.inr (.inl s)) else (.inl ())) else (bif (decide (((s.getD (i).toNat 0).toNat : Int) > (57 : Int))) then (bif (!(((s.getD (i).toNat 0).toNat : Int) == (95 : Int))) then (.inr (.inl s)) else (.inl ())) else (.inl ())))) else (.inl ())) else (bif (i == (0 : Int)) then (.inr (.inl s)) else (bif (decide (((s.getD (i).toNat 0).toNat : Int) < (48 : Int))) then (bif (!(((s.getD (i).toNat 0).toNat : Int) == (95 : Int))) then (.inr (.inl s)) else (.inl ())) else (bif (decide (((s.getD (i).toNat 0).toNat : Int) > (57 : Int))) then (bif (!(((s.getD (i).toNat 0).toNat : Int) == (95 : Int))) then (.inr (.inl s)) else (.inl ())) else (.inl ())))))) else (bif (decide (((s.getD (i).toNat 0).toNat : Int) ≥ (97 : Int))) then (bif (!(decide (((s.getD (i).toNat 0).toNat : Int) ≤ (122 : Int)))) then (bif (i == (0 : Int)) then (.inr (.inl s)) else (bif (decide (((s.getD (i).toNat 0).toNat : Int) < (48 : Int))) then (bif (!(((s.getD (i).toNat 0).toNat : Int) == (95 : Int))) then (.inr (.inl s)) else (.inl ())) else (bif (decide (((s.getD (i).toNat 0).toNat : Int) > (57 : Int))) then (bif (!(((s.getD (i).toNat 0).toNat : Int) == (95 : Int))) then (.inr (.inl s)) else (.inl ())) else (.inl ())))) else (.inl ())) else (bif (i == (0 : Int)) then (.inr (.inl s)) else (bif (decide (((s.getD (i).toNat 0).toNat : Int) < (48 : Int))) then (bif (!(((s.getD (i).toNat 0).toNat : Int) == (95 : Int))) then (.inr (.inl s)) else (.inl ())) else (bif (decide (((s.getD (i).toNat 0).toNat : Int) > (57 : Int))) then (bif (!(((s.getD (i).toNat 0).toNat : Int) == (95 : Int))) then (.inr (.inl s)) else (.inl ())) else (.inl ()))))))
def qz_e2 (s : BS) (m : Int) : (BS) ⊕ (BS) := .inr s
def qz_R2 (s : BS) (m i : Int) : (BS) ⊕ (BS) := iter (fun i a => (qz_f2 s m (i : Int))) (fun a => (qz_e2 s m)) (s.length) 0 ()
abbrev qz_2_σ := BS × Int × Int
abbrev qz_2_ω := (BS) ⊕ (BS)
def qz_2_step (s : BS) (m i : Int) : Tr (qz_2_σ ⊕ qz_2_ω) := (.ite ((decide (i < m)) = true) (.ite ((0 : Int) ≤ i ∧ i < (s.length : Int)) (.ite ((decide (((s.getD (i).toNat 0).toNat : Int) ≥ (65 : Int))) = true) (.ite ((decide (((s.getD (i).toNat 0).toNat : Int) ≤ (90 : Int))) = true) (.ok (.inl (s, m, (IntKind.wrap .i64 (i + (1 : Int))))))
     (.ite ((decide (((s.getD (i).toNat 0).toNat : Int) ≥ (97 : Int))) = true) (.ite ((!(decide (((s.getD (i).toNat 0).toNat : Int) ≤ (122 : Int)))) = true) (.ite ((i == (0 : Int)) = true) (.ok (.inr (.inl s)))
        (.ite ((decide (((s.getD (i).toNat 0).toNat : Int) < (48 : Int))) = true) (.ite ((!(((s.getD (i).toNat 0).toNat : Int) == (95 : Int))) = true) (.ok (.inr (.inl s)))
          (.ok (.inl (s, m, (IntKind.wrap .i64 (i + (1 : Int)))))))
         (.ite ((decide (((s.getD (i).toNat 0).toNat : Int) > (57 : Int))) = true) (.ite ((!(((s.getD (i).toNat 0).toNat : Int) == (95 : Int))) = true) (.ok (.inr (.inl s)))
           (.ok (.inl (s, m, (IntKind.wrap .i64 (i + (1 : Int)))))))
          (.ok (.inl (s, m, (IntKind.wrap .i64 (i + (1 : Int)))))))))
       (.ok (.inl (s, m, (IntKind.wrap .i64 (i + (1 : Int)))))))
      (.ite ((i == (0 : Int)) = true) (.ok (.inr (.inl s)))
       (.ite ((decide (((s.getD (i).toNat 0).toNat : Int) < (48 : Int))) = true) (.ite ((!(((s.getD (i).toNat 0).toNat : Int) == (95 : Int))) = true) (.ok (.inr (.inl s)))
         (.ok (.inl (s, m, (IntKind.wrap .i64 (i + (1 : Int)))))))
        (.ite ((decide (((s.getD (i).toNat 0).toNat : Int) > (57 : Int))) = true) (.ite ((!(((s.getD (i).toNat 0).toNat : Int) == (95 : Int))) = true) (.ok (.inr (.inl s)))
          (.ok (.inl (s, m, (IntKind.wrap .i64 (i + (1 : Int)))))))
         (.ok (.inl (s, m, (IntKind.wrap .i64 (i + (1 : Int)))))))))))
    (.ite ((decide (((s.getD (i).toNat 0).toNat : Int) ≥ (97 : Int))) = true) (.ite ((!(decide (((s.getD (i).toNat 0).toNat : Int) ≤ (122 : Int)))) = true) (.ite ((i == (0 : Int)) = true) (.ok (.inr (.inl s)))
       (.ite ((decide (((s.getD (i).toNat 0).toNat : Int) < (48 : Int))) = true) (.ite ((!(((s.getD (i).toNat 0).toNat : Int) == (95 : Int))) = true) (.ok (.inr (.inl s)))
         (.ok (.inl (s, m, (IntKind.wrap .i64 (i + (1 : Int)))))))
        (.ite ((decide (((s.getD (i).toNat 0).toNat : Int) > (57 : Int))) = true) (.ite ((!(((s.getD (i).toNat 0).toNat : Int) == (95 : Int))) = true) (.ok (.inr (.inl s)))
          (.ok (.inl (s, m, (IntKind.wrap .i64 (i + (1 : Int)))))))
         (.ok (.inl (s, m, (IntKind.wrap .i64 (i + (1 : Int)))))))))
      (.ok (.inl (s, m, (IntKind.wrap .i64 (i + (1 : Int)))))))
     (.ite ((i == (0 : Int)) = true) (.ok (.inr (.inl s)))
      (.ite ((decide (((s.getD (i).toNat 0).toNat : Int) < (48 : Int))) = true) (.ite ((!(((s.getD (i).toNat 0).toNat : Int) == (95 : Int))) = true) (.ok (.inr (.inl s)))
        (.ok (.inl (s, m, (IntKind.wrap .i64 (i + (1 : Int)))))))
       (.ite ((decide (((s.getD (i).toNat 0).toNat : Int) > (57 : Int))) = true) (.ite ((!(((s.getD (i).toNat 0).toNat : Int) == (95 : Int))) = true) (.ok (.inr (.inl s)))
         (.ok (.inl (s, m, (IntKind.wrap .i64 (i + (1 : Int)))))))
        (.ok (.inl (s, m, (IntKind.wrap .i64 (i + (1 : Int)))))))))))
   .no)
  (.ok (.inr (.inr s))))
def qz_2_st : qz_2_σ → Tr (qz_2_σ ⊕ qz_2_ω) := fun x => (qz_2_step (x.1) (x.2.1) (x.2.2))
def qz_k2_1 (s : BS) (m i : Int) : Bool := sumIs (qz_R2 s m i)
def qz_o2_2 (s : BS) (m i : Int) : Bool := is (i = 0 ∧ s.length ≤ 140737488355328 ∧ m = (s.length : Int))
def qz_o2_3 (s : BS) (m i : Int) : Bool := is (i = 0 ∧ s.length ≤ 140737488355328 ∧ m = (s.length : Int))
def qz_2_fin (s : BS) (m i : Int) : Told qz_2_ω := (.br (qz_k2_1 s m i) (.leaf (qz_o2_2 s m i) (.inl s)) (.leaf (qz_o2_3 s m i) (.inr s)))
def qz_2_sl (x : qz_2_σ) : List Slot := [⟨.val false [⟨.str, .sh, TC.s (x.1)⟩], ⟨0, 0⟩⟩, ⟨.val false [⟨.int .i64, .sh, TC.i (x.2.1)⟩], ⟨0, 0⟩⟩, ⟨.val false [⟨.int .i64, .sh, TC.i (x.2.2)⟩], ⟨0, 0⟩⟩]
def qz_2_out : qz_2_ω → Ex × List Slot := (Sum.elim (fun x => (.ret, [⟨.val false [⟨.str, .sh, TC.s x⟩], ⟨0, 0⟩⟩, ⟨.val false [⟨.bool, .sh, TC.b false⟩], ⟨0, 0⟩⟩])) (fun x => (.exit 0, [⟨.val false [⟨.str, .sh, TC.s x⟩], ⟨0, 0⟩⟩, Slot.none])))
def qz_lo2 : List Slot → Option (Told (Ex × List Slot)) := fun s => match s with
  | [⟨.val false [⟨.str, .sh, TC.s s⟩], ⟨0, 0⟩⟩, ⟨.val false [⟨.int .i64, .sh, TC.i m⟩], ⟨0, 0⟩⟩, ⟨.val false [⟨.int .i64, .sh, TC.i i⟩], ⟨0, 0⟩⟩] => some (((qz_2_fin s m i)).map qz_2_out)
  | _ => .none
def qz_lo : LoopTeller := fun r s => bif Nat.beq r 2 then qz_lo2 s else .none
theorem qz_2_r (s : BS) (m i : Int) (fuel : Nat) : rounds (rnd tab FT D45 live 151 qz_lo 0 2) leave (fuel + 1) (qz_2_sl (s, m, i)) = ((qz_2_step s m i)).run (goOn (fun s => rounds (rnd tab FT D45 live 151 qz_lo 0 2) leave fuel (qz_2_sl s)) fun w => some (qz_2_out w)) := by kernel_rfl
theorem qz_f2_eq (s : BS) (m i : Int) : qz_f2 s m i = bif nameB i ((s.getD (i).toNat 0).toNat : Int) then Sum.inl () else Sum.inr (Sum.inl s) := by
  unfold qz_f2 nameB letterB
  simp only [dlt, dgt]
  generalize ((s.getD i.toNat 0).toNat : Int) = c
  generalize decide (c ≥ 65) = p0, decide (c ≤ 90) = p1, decide (c ≥ 97) = p2, decide (c ≤ 122) = p3, decide (c ≥ 48) = p4, decide (c ≤ 57) = p5, (c == 95) = p6, (i == 0) = p7
  cases p0 <;> cases p1 <;> cases p2 <;> cases p3 <;> cases p4 <;> cases p5 <;> cases p6 <;> cases p7 <;> rfl
theorem qz_R2_eq (s : BS) (m : Int)  : qz_R2 s m 0 = bif allI (fun i : Nat => nameB (i : Int) ((s.getD ((i : Int)).toNat 0).toNat : Int)) (s.length) then Sum.inr s else (Sum.inl s) := by
  unfold qz_R2
  exact (iter_all (P := (fun i : Nat => nameB (i : Int) ((s.getD ((i : Int)).toNat 0).toNat : Int))) (g := fun _ a => a) (w := Sum.inl s) fun j a _ => qz_f2_eq s m _)
theorem qz_2_h (s : BS) (m i : Int) (ow : qz_2_ω) : ((qz_2_fin s m i)).val = some ow → ∃ fuel, loopN qz_2_st fuel (s, m, i) = some ow := by
  refine auto_const (R := (qz_R2 s m i)) rfl (iter_onR (f := (fun i a => (qz_f2 s m (i : Int)))) (fin := (fun a => (qz_e2 s m))) (Q := endsAs s s) (fun i a => by unfold qz_f2; exact (onR_bif (onR_bif trivial (onR_bif (onR_bif (onR_bif rfl (onR_bif (onR_bif rfl trivial) (onR_bif (onR_bif rfl trivial) trivial))) trivial) (onR_bif rfl (onR_bif (onR_bif rfl trivial) (onR_bif (onR_bif rfl trivial) trivial))))) (onR_bif (onR_bif (onR_bif rfl (onR_bif (onR_bif rfl trivial) (onR_bif (onR_bif rfl trivial) trivial))) trivial) (onR_bif rfl (onR_bif (onR_bif rfl trivial) (onR_bif (onR_bif rfl trivial) trivial)))))) (fun _ => rfl) _ _ _) ?_
  intro ho
  have ho : is (i = 0 ∧ s.length ≤ 140737488355328 ∧ m = (s.length : Int)) = true := ho.elim id id
  obtain ⟨rfl, hs, rfl⟩ := is_iff.1 ho
  skip
  refine ⟨(s.length) + 1, ?_⟩
  refine iter_loop (step := qz_2_st) (s.length) (fun i a => (qz_f2 s (s.length : Int) (i : Int))) (fun a => (qz_e2 s (s.length : Int))) (fun i a => (s, (s.length : Int), (i : Int))) (fun _ _ => True) trivial (fun i a hi hI => ⟨?_, fun _ _ => trivial⟩) (fun a hI => ?_)
  · show (qz_2_step s (s.length : Int) (i : Int)).val = _
    unfold qz_2_step qz_f2
    skip
    refine Tr.t (by simp; omega) ?_
    exact (Tr.t (by first | omega | (constructor <;> omega)) (Tr.bf (Tr.bf (by rw [Tr.val_ok, wrap64 (i := (i : Int) + 1) (by omega) (by omega)]; rfl) (Tr.bf (Tr.bf (Tr.bf rfl (Tr.bf (Tr.bf rfl (by rw [Tr.val_ok, wrap64 (i := (i : Int) + 1) (by omega) (by omega)]; rfl)) (Tr.bf (Tr.bf rfl (by rw [Tr.val_ok, wrap64 (i := (i : Int) + 1) (by omega) (by omega)]; rfl)) (by rw [Tr.val_ok, wrap64 (i := (i : Int) + 1) (by omega) (by omega)]; rfl)))) (by rw [Tr.val_ok, wrap64 (i := (i : Int) + 1) (by omega) (by omega)]; rfl)) (Tr.bf rfl (Tr.bf (Tr.bf rfl (by rw [Tr.val_ok, wrap64 (i := (i : Int) + 1) (by omega) (by omega)]; rfl)) (Tr.bf (Tr.bf rfl (by rw [Tr.val_ok, wrap64 (i := (i : Int) + 1) (by omega) (by omega)]; rfl)) (by rw [Tr.val_ok, wrap64 (i := (i : Int) + 1) (by omega) (by omega)]; rfl)))))) (Tr.bf (Tr.bf (Tr.bf rfl (Tr.bf (Tr.bf rfl (by rw [Tr.val_ok, wrap64 (i := (i : Int) + 1) (by omega) (by omega)]; rfl)) (Tr.bf (Tr.bf rfl (by rw [Tr.val_ok, wrap64 (i := (i : Int) + 1) (by omega) (by omega)]; rfl)) (by rw [Tr.val_ok, wrap64 (i := (i : Int) + 1) (by omega) (by omega)]; rfl)))) (by rw [Tr.val_ok, wrap64 (i := (i : Int) + 1) (by omega) (by omega)]; rfl)) (Tr.bf rfl (Tr.bf (Tr.bf rfl (by rw [Tr.val_ok, wrap64 (i := (i : Int) + 1) (by omega) (by omega)]; rfl)) (Tr.bf (Tr.bf rfl (by rw [Tr.val_ok, wrap64 (i := (i : Int) + 1) (by omega) (by omega)]; rfl)) (by rw [Tr.val_ok, wrap64 (i := (i : Int) + 1) (by omega) (by omega)]; rfl)))))))
  · show (qz_2_step s (s.length : Int) (s.length : Int)).val = _
    refine Tr.n (by first | (simp; done) | (simp; omega) | omega) ?_
    rfl
theorem qz_is2 : LoopIs tab FT D45 live 151 qz_lo 0 2 := by
  refine loop_told (sl := qz_2_sl) (step := qz_2_st) (out := qz_2_out) (lor := qz_lo2) (fin := fun x => (qz_2_fin (x.1) (x.2.1) (x.2.2))) (fun _ => rfl) ?_ (fun x n => qz_2_r x.1 x.2.1 x.2.2 n) (fun x ow => qz_2_h x.1 x.2.1 x.2.2 ow)
  intro s t h
  unfold qz_lo2 at h
  split at h
  · cases h; exact ⟨(_, _, _), rfl, rfl⟩
  · cases h
def qz_t (s : BS) : Tr (Bool) := (.ite ((qz_k2_1 s (s.length : Int) (0 : Int)) = true) (.ite ((qz_o2_2 s (s.length : Int) (0 : Int)) = true) (.ok false)
   .no)
  (.ite ((qz_o2_3 s (s.length : Int) (0 : Int)) = true) (.ite ((decide ((s.length : Int) ≥ (1 : Int))) = true) (.ok (decide ((s.length : Int) ≤ (12 : Int))))
    (.ok false))
   .no))
def qz_mk (p : Bool) : Res := [(false, [⟨.bool, .sh, TC.b p⟩])]
def qz_c (s : BS) : Bool := (bif (qz_k2_1 s (s.length : Int) (0 : Int)) then ((qz_o2_2 s (s.length : Int) (0 : Int)) && true) else ((qz_o2_3 s (s.length : Int) (0 : Int)) && (bif (decide ((s.length : Int) ≥ (1 : Int))) then true else true)))
def qz_v (s : BS) : Bool := (bif (qz_k2_1 s (s.length : Int) (0 : Int)) then false else (bif (decide ((s.length : Int) ≥ (1 : Int))) then (decide ((s.length : Int) ≤ (12 : Int))) else false))
theorem qz_l (s : BS) : (qz_c s) = true → (qz_t s).val = some (qz_v s) := by
  unfold qz_t qz_v qz_c
  exact fun h => (Tr.ss h (fun h => (Tr.gb h fun h => rfl)) (fun h => (Tr.gb h fun h => (Tr.ss h (fun h => rfl) (fun h => rfl)))))
def qz_S : List Arg → Option (Bool × Res) := fun xs => match xs with
  | [(false, [(.str, TC.s s)])] => some ((qz_c s), qz_mk (qz_v s))
  | _ => .none
theorem qz_e (s : BS) : runF tab FT D45 live 151 qz_lo [(false, [(.str, TC.s s)])] = (qz_t s).run fun p => some (qz_mk p) := by kernel_rfl
theorem qz_s : ∀ xs r, qz_S xs = some (true, r) → runF tab FT D45 live 151 qz_lo xs = some r := by
  intro xs r h
  unfold qz_S at h
  split at h
  · obtain ⟨h1, rfl⟩ := sp h
    exact fun_told (qz_e _) (qz_l _) h1
  · cases h
def D46 : Dt := also D45 151 qz_S
theorem d46 : DOk Go.Proofs.Try.prog tab D46 := d45.also mixed_ok tab_ok names_ok (fnLoops_one (by kernel_rfl) qz_is2) qz_s
theorem qz_cc {s : BS} (hs : Typed tab (.str) (.s s)) : (qz_c s) = true := by
  unfold qz_c
  refine bifT (fun b1 => ?_) (fun b1 => ?_)
  · skip
    refine andT (by exact is_true ⟨rfl, by have := typed_str_len hs; omega, rfl⟩) ?_
    rfl
  · skip
    refine andT (by exact is_true ⟨rfl, by have := typed_str_len hs; omega, rfl⟩) ?_
    refine bifT (fun b2 => ?_) (fun b2 => ?_)
    · skip
      rfl
    · skip
      rfl
theorem qz_vv (s : BS) : qz_v s = nameOk s := by
  unfold qz_v qz_k2_1 nameOk
  rw [qz_R2_eq]
  generalize allI (fun i : Nat => nameB (i : Int) ((s.getD ((i : Int)).toNat 0).toNat : Int)) s.length = q
  cases q
  · simp [sumIs]
  · show (bif decide ((s.length : Int) ≥ 1) then decide ((s.length : Int) ≤ 12) else false) = (decide ((s.length : Int) ≥ 1) && decide ((s.length : Int) ≤ 12) && true)
    generalize decide ((s.length : Int) ≥ 1) = q1, decide ((s.length : Int) ≤ 12) = q2
    cases q1 <;> cases q2 <;> rfl
abbrev qi_2_σ := LL × BS × Int × Int
abbrev qi_2_ω := (Int) ⊕ (Unit)
def qi_2_step (A : LL) (s : BS) (m i : Int) : Tr (qi_2_σ ⊕ qi_2_ω) := (.ite ((decide (i < m)) = true) (.ite ((0 : Int) ≤ i ∧ i < (A.length : Int)) (.ite ((s == (nth (row A i) 0).str) = true) (.ok (.inr (.inl i)))
    (.ok (.inl (A, s, m, (IntKind.wrap .i64 (i + (1 : Int)))))))
   .no)
  (.ok (.inr (.inr ()))))
def qi_2_st : qi_2_σ → Tr (qi_2_σ ⊕ qi_2_ω) := fun x => (qi_2_step (x.1) (x.2.1) (x.2.2.1) (x.2.2.2))
def qi_k2_1 (A : LL) (s : BS) (m i : Int) : Bool := A.all (fun x => !(s == (nth x 0).str))
def qi_o2_2 (A : LL) (s : BS) (m i : Int) : Bool := is (i = 0 ∧ Typed tab (.slice 9) (.l A) ∧ m = (A.length : Int))
def qi_o2_3 (A : LL) (s : BS) (m i : Int) : Bool := is (i = 0 ∧ Typed tab (.slice 9) (.l A) ∧ m = (A.length : Int))
def qi_u2_3 (A : LL) (s : BS) (m i : Int) : Int := (Int.ofNat (A.findIdx fun x => !(fun x => !(s == (nth x 0).str)) x))
def qi_2_fin (A : LL) (s : BS) (m i : Int) : Told qi_2_ω := (.br (qi_k2_1 A s m i) (.leaf (qi_o2_2 A s m i) (.inr ())) (.leaf (qi_o2_3 A s m i) (.inl (qi_u2_3 A s m i))))
def qi_2_sl (x : qi_2_σ) : List Slot := [⟨.val false [⟨.slice 9, .sh, TC.l (x.1)⟩], ⟨0, 0⟩⟩, ⟨.val false [⟨.str, .sh, TC.s (x.2.1)⟩], ⟨0, 0⟩⟩, ⟨.val false [⟨.int .i64, .sh, TC.i (x.2.2.1)⟩], ⟨0, 0⟩⟩, ⟨.val false [⟨.int .i64, .sh, TC.i (x.2.2.2)⟩], ⟨0, 0⟩⟩]
def qi_2_out : qi_2_ω → Ex × List Slot := (Sum.elim (fun x => (.ret, [⟨.val false [⟨.int .i64, .sh, TC.i x⟩], ⟨0, 0⟩⟩])) (fun x => (.exit 0, [Slot.none])))
def qi_lo2 : List Slot → Option (Told (Ex × List Slot)) := fun s => match s with
  | [⟨.val false [⟨.slice 9, .sh, TC.l A⟩], ⟨0, 0⟩⟩, ⟨.val false [⟨.str, .sh, TC.s s⟩], ⟨0, 0⟩⟩, ⟨.val false [⟨.int .i64, .sh, TC.i m⟩], ⟨0, 0⟩⟩, ⟨.val false [⟨.int .i64, .sh, TC.i i⟩], ⟨0, 0⟩⟩] => some (((qi_2_fin A s m i)).map qi_2_out)
  | _ => .none
def qi_lo : LoopTeller := fun r s => bif Nat.beq r 2 then qi_lo2 s else .none
theorem qi_2_r (A : LL) (s : BS) (m i : Int) (fuel : Nat) : rounds (rnd tab FT D46 live 142 qi_lo 0 2) leave (fuel + 1) (qi_2_sl (A, s, m, i)) = ((qi_2_step A s m i)).run (goOn (fun s => rounds (rnd tab FT D46 live 142 qi_lo 0 2) leave fuel (qi_2_sl s)) fun w => some (qi_2_out w)) := by kernel_rfl
theorem qi_2_h (A : LL) (s : BS) (m i : Int) (ow : qi_2_ω) : ((qi_2_fin A s m i)).val = some ow → ∃ fuel, loopN qi_2_st fuel (A, s, m, i) = some ow := by
  intro h
  have key : Typed tab (.slice 9) (.l A) → loopN qi_2_st (A.length + 1) (A, s, (A.length : Int), (0 : Int)) = some (if A.all (fun x => !(s == (nth x 0).str)) = true then (.inr ()) else (.inl (Int.ofNat (A.findIdx fun x => !(fun x => !(s == (nth x 0).str)) x)))) := by
    intro ht
    have hlen : A.length ≤ 140737488351232 := by have := typed_room ht; simp only [show (tab 9).bytes = 16 from rfl] at this; omega
    have key := loopN_scan (step := qi_2_st) A [] (fun x => !(s == (nth x 0).str)) (fun a _ => a) (fun i a => (A, s, (A.length : Int), (i : Int))) (fun a => (.inr ())) (fun i a => (.inl (i : Int))) (fun i a hi => ?_) (fun a => ?_) A.length 0 () (by omega)
    · first | (rw [Nat.zero_add] at key; exact key) | exact key
    · have c0 : Typed tab (.str) (.s (nth (A.getD i []) 0).str) := typed_s (typed_cell ht (A.getD i []) (mem_getD hi) 0 (by decide))
      show (qi_2_step A s (A.length : Int) (i : Int)).val = _
      unfold qi_2_step
      refine Tr.t (by simp; omega) ?_
      skip
      refine Tr.t (by first | omega | (constructor <;> omega)) ?_
      refine Tr.b2 (fun hP => ?_) (fun _ => rfl)
      rw [Tr.val_ok, wrap64 (i := (i : Int) + 1) (by omega) (by omega)]; rfl
    · show (qi_2_step A s (A.length : Int) (A.length : Int)).val = _
      refine Tr.n (by simp) ?_
      rfl
  simp only [qi_2_fin, Told.val] at h
  cases hk : A.all (fun x => !(s == (nth x 0).str)) with
  | true =>
    rw [if_pos (show qi_k2_1 A s m i = true from hk)] at h
    split at h
    · rename_i ho
      obtain ⟨rfl, ht, rfl⟩ := is_iff.1 ho
      cases h
      refine ⟨_, (key ht).trans ?_⟩
      rw [hk]; rfl
    · cases h
  | false =>
    rw [if_neg (show ¬qi_k2_1 A s m i = true from by rw [show qi_k2_1 A s m i = (A.all (fun x => !(s == (nth x 0).str))) from rfl, hk]; simp)] at h
    split at h
    · rename_i ho
      obtain ⟨rfl, ht, rfl⟩ := is_iff.1 ho
      cases h
      refine ⟨_, (key ht).trans ?_⟩
      rw [hk]; rfl
    · cases h
theorem qi_is2 : LoopIs tab FT D46 live 142 qi_lo 0 2 := by
  refine loop_told (sl := qi_2_sl) (step := qi_2_st) (out := qi_2_out) (lor := qi_lo2) (fin := fun x => (qi_2_fin (x.1) (x.2.1) (x.2.2.1) (x.2.2.2))) (fun _ => rfl) ?_ (fun x n => qi_2_r x.1 x.2.1 x.2.2.1 x.2.2.2 n) (fun x ow => qi_2_h x.1 x.2.1 x.2.2.1 x.2.2.2 ow)
  intro s t h
  unfold qi_lo2 at h
  split at h
  · cases h; exact ⟨(_, _, _, _), rfl, rfl⟩
  · cases h
def qi_t (A : LL) (s : BS) : Tr (Int) := (.ite ((qi_k2_1 A s (A.length : Int) (0 : Int)) = true) (.ite ((qi_o2_2 A s (A.length : Int) (0 : Int)) = true) (.ok (-1 : Int))
   .no)
  (.ite ((qi_o2_3 A s (A.length : Int) (0 : Int)) = true) (.ok (qi_u2_3 A s (A.length : Int) (0 : Int)))
   .no))
def qi_mk (p : Int) : Res := [(false, [⟨.int .i64, .sh, TC.i p⟩])]
def qi_c (A : LL) (s : BS) : Bool := is (((qi_o2_2 A s (A.length : Int) (0 : Int)) = true) ∧ ((qi_o2_3 A s (A.length : Int) (0 : Int)) = true))
def qi_v (A : LL) (s : BS) : Int := (bif (qi_k2_1 A s (A.length : Int) (0 : Int)) then (-1 : Int) else (qi_u2_3 A s (A.length : Int) (0 : Int)))
theorem qi_l (A : LL) (s : BS) : (qi_c A s) = true → (qi_t A s).val = some (qi_v A s) := by
  intro h
  obtain ⟨g0, g1⟩ := is_iff.1 h
  unfold qi_t qi_v
  exact (Tr.s (Tr.t g0 rfl) (Tr.t g1 rfl))
def qi_S : List Arg → Option (Bool × Res) := fun xs => match xs with
  | [(false, [(.slice 9, TC.l A)]), (false, [(.str, TC.s s)])] => some ((qi_c A s), qi_mk (qi_v A s))
  | _ => .none
theorem qi_e (A : LL) (s : BS) : runF tab FT D46 live 142 qi_lo [(false, [(.slice 9, TC.l A)]), (false, [(.str, TC.s s)])] = (qi_t A s).run fun p => some (qi_mk p) := by kernel_rfl
theorem qi_s : ∀ xs r, qi_S xs = some (true, r) → runF tab FT D46 live 142 qi_lo xs = some r := by
  intro xs r h
  unfold qi_S at h
  split at h
  · obtain ⟨h1, rfl⟩ := sp h
    exact fun_told (qi_e ..) (qi_l _ _) h1
  · cases h
def D47 : Dt := also D46 142 qi_S
theorem d47 : DOk Go.Proofs.Try.prog tab D47 := d46.also mixed_ok tab_ok names_ok (fnLoops_one (by kernel_rfl) qi_is2) qi_s
theorem qi_vv (A : LL) (s : BS) : qi_v A s = slotIdx A s := by
  show (bif A.all (fun x => !(s == (nth x 0).str)) then -1 else Int.ofNat (A.findIdx fun x => !(!(s == (nth x 0).str)))) = slotIdx A s
  unfold slotIdx
  have e : ∀ x : List TC, (s == (nth x 0).str) = ((nth x 0).str == s) := fun x => Bool.beq_comm
  simp only [e]
def qbt_t (a0 : LL) (a1 : BS) : Tr (Bool) := (.ite ((qi_c a0 a1) = true) (.ok (decide ((qi_v a0 a1) ≥ (0 : Int))))
  .no)
def qbt_mk (p : Bool) : Res := [(false, [⟨.bool, .sh, TC.b p⟩])]
def qbt_c (a0 : LL) (a1 : BS) : Bool := (qi_c a0 a1)
def qbt_v (a0 : LL) (a1 : BS) : Bool := (decide ((qi_v a0 a1) ≥ (0 : Int)))
theorem qbt_l (a0 : LL) (a1 : BS) : (qbt_c a0 a1) = true → (qbt_t a0 a1).val = some (qbt_v a0 a1) := by
  intro h
  have hc0 : (qi_c a0 a1) = true := h
  unfold qbt_t
  exact (Tr.t hc0 rfl)
def qbt_S : List Arg → Option (Bool × Res) := fun xs => match xs with
  | [(false, [(.slice 9, TC.l a0)]), (false, [(.str, TC.s a1)])] => some ((qbt_c a0 a1), qbt_mk (qbt_v a0 a1))
  | _ => .none
theorem qbt_e (a0 : LL) (a1 : BS) : runF tab FT D47 live 119 noLoops [(false, [(.slice 9, TC.l a0)]), (false, [(.str, TC.s a1)])] = (qbt_t a0 a1).run fun p => some (qbt_mk p) := by kernel_rfl
theorem qbt_s : ∀ xs r, qbt_S xs = some (true, r) → runF tab FT D47 live 119 noLoops xs = some r := by
  intro xs r h
  unfold qbt_S at h
  split at h
  · obtain ⟨h1, rfl⟩ := sp h
    exact fun_told (qbt_e ..) (qbt_l _ _) h1
  · cases h
def D48 : Dt := also D47 119 qbt_S
theorem d48 : DOk Go.Proofs.Try.prog tab D48 := d47.also mixed_ok tab_ok names_ok noLoops_ok qbt_s
def qk_f2 (A X : LL) (m i : Int) : (Unit) ⊕ ((Unit) ⊕ (Unit)) := (bif (!(qz_v ((nth (row X i) 0).str))) then (.inr (.inl ())) else (bif (qbt_v ((A.take (i).toNat).drop ((0 : Int)).toNat) ((nth (row X i) 0).str)) then (.inr (.inl ())) else (.inl ())))
def qk_e2 (A X : LL) (m : Int) : (Unit) ⊕ (Unit) := .inr ()
def qk_R2 (A X : LL) (m i : Int) : (Unit) ⊕ (Unit) := iter (fun i a => (qk_f2 A X m (i : Int))) (fun a => (qk_e2 A X m)) (A.length) 0 ()
abbrev qk_2_σ := LL × LL × Int × Int
abbrev qk_2_ω := (Unit) ⊕ (Unit)
def qk_2_step (A X : LL) (m i : Int) : Tr (qk_2_σ ⊕ qk_2_ω) := (.ite ((decide (i < m)) = true) (.ite ((0 : Int) ≤ i ∧ i < (X.length : Int)) (.ite ((qz_c ((nth (row X i) 0).str)) = true) (.ite ((!(qz_v ((nth (row X i) 0).str))) = true) (.ok (.inr (.inl ())))
     (.ite ((0 : Int) ≤ (0 : Int) ∧ (0 : Int) ≤ i ∧ i ≤ (A.length : Int)) (.ite ((qbt_c ((A.take (i).toNat).drop ((0 : Int)).toNat) ((nth (row X i) 0).str)) = true) (.ite ((qbt_v ((A.take (i).toNat).drop ((0 : Int)).toNat) ((nth (row X i) 0).str)) = true) (.ok (.inr (.inl ())))
        (.ok (.inl (A, X, m, (IntKind.wrap .i64 (i + (1 : Int)))))))
       .no)
      .no))
    .no)
   .no)
  (.ok (.inr (.inr ()))))
def qk_2_st : qk_2_σ → Tr (qk_2_σ ⊕ qk_2_ω) := fun x => (qk_2_step (x.1) (x.2.1) (x.2.2.1) (x.2.2.2))
def qk_k2_1 (A X : LL) (m i : Int) : Bool := sumIs (qk_R2 A X m i)
def qk_o2_2 (A X : LL) (m i : Int) : Bool := is (i = 0 ∧ A = X ∧ m = (A.length : Int) ∧ Typed tab (.slice 9) (.l A))
def qk_o2_3 (A X : LL) (m i : Int) : Bool := is (i = 0 ∧ A = X ∧ m = (A.length : Int) ∧ Typed tab (.slice 9) (.l A))
def qk_2_fin (A X : LL) (m i : Int) : Told qk_2_ω := (.br (qk_k2_1 A X m i) (.leaf (qk_o2_2 A X m i) (.inl ())) (.leaf (qk_o2_3 A X m i) (.inr ())))
def qk_2_sl (x : qk_2_σ) : List Slot := [⟨.val false [⟨.slice 9, .sh, TC.l (x.1)⟩], ⟨0, 0⟩⟩, ⟨.val false [⟨.slice 9, .sh, TC.l (x.2.1)⟩], ⟨0, 0⟩⟩, ⟨.val false [⟨.int .i64, .sh, TC.i (x.2.2.1)⟩], ⟨0, 0⟩⟩, ⟨.val false [⟨.int .i64, .sh, TC.i (x.2.2.2)⟩], ⟨0, 0⟩⟩]
def qk_2_out : qk_2_ω → Ex × List Slot := (Sum.elim (fun x => (.ret, [⟨.val false [⟨.bool, .sh, TC.b false⟩], ⟨0, 0⟩⟩])) (fun x => (.exit 0, [Slot.none])))
def qk_lo2 : List Slot → Option (Told (Ex × List Slot)) := fun s => match s with
  | [⟨.val false [⟨.slice 9, .sh, TC.l A⟩], ⟨0, 0⟩⟩, ⟨.val false [⟨.slice 9, .sh, TC.l X⟩], ⟨0, 0⟩⟩, ⟨.val false [⟨.int .i64, .sh, TC.i m⟩], ⟨0, 0⟩⟩, ⟨.val false [⟨.int .i64, .sh, TC.i i⟩], ⟨0, 0⟩⟩] => some (((qk_2_fin A X m i)).map qk_2_out)
  | _ => .none
def qk_lo : LoopTeller := fun r s => bif Nat.beq r 2 then qk_lo2 s else .none
theorem qk_2_r (A X : LL) (m i : Int) (fuel : Nat) : rounds (rnd tab FT D48 live 137 qk_lo 0 2) leave (fuel + 1) (qk_2_sl (A, X, m, i)) = ((qk_2_step A X m i)).run (goOn (fun s => rounds (rnd tab FT D48 live 137 qk_lo 0 2) leave fuel (qk_2_sl s)) fun w => some (qk_2_out w)) := by kernel_rfl
end
end
end
end
end
end
end
end
end
end
end Go.Proofs.Ytdcafhfnkblfkaa.V
