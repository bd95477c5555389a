/- What the functions of FnExactBytesOf answer. No condition. -/
import Derived.Test.YtlggbfmpfhohjaaVFnExactBytesOfP2
namespace Go.Proofs.Ytlggbfmpfhohjaa.V
open Go
set_option maxRecDepth 100000
set_option linter.unusedVariables false
set_option linter.unusedSectionVars false
set_option linter.unusedSimpArgs false
set_option maxHeartbeats 2000000
section
variable [i_laws_szType : laws_szType_O]
variable [g_laws_szType : laws_szType_G]
section
variable [i_laws_toType : laws_toType_O]
variable [g_laws_toType : laws_toType_G]
section
variable [i_spec_l02Size : spec_l02Size_O]
variable [g_spec_l02Size : spec_l02Size_G]
section
variable [i_spec_l02Depth : spec_l02Depth_O]
variable [g_spec_l02Depth : spec_l02Depth_G]
section
variable [i_spec_l02Ok : spec_l02Ok_O]
variable [g_spec_l02Ok : spec_l02Ok_G]
def spec_l03Holds_mk (p : Bool) : Res := [(false, [⟨.bool, .sh, TC.b p⟩])]
noncomputable def spec_l03Holds_c (k s : Int) (sg bg : Bool) (NA NU ME BA : List (List TC)) (ct n : Int) : Bool := (bif (k == (3 : Int)) then ((spec_l00Has_c NU n) && true) else ((spec_l03Int_c k s sg bg NA NU ME BA ct) && ((spec_l02Range_c ((spec_l03Int_v k s sg bg NA NU ME BA ct).1) ((spec_l03Int_v k s sg bg NA NU ME BA ct).2.1) ((spec_l03Int_v k s sg bg NA NU ME BA ct).2.2.1) ((spec_l03Int_v k s sg bg NA NU ME BA ct).2.2.2.1) ((spec_l03Int_v k s sg bg NA NU ME BA ct).2.2.2.2.1) ((spec_l03Int_v k s sg bg NA NU ME BA ct).2.2.2.2.2.1) ((spec_l03Int_v k s sg bg NA NU ME BA ct).2.2.2.2.2.2.1) ((spec_l03Int_v k s sg bg NA NU ME BA ct).2.2.2.2.2.2.2.1) ((spec_l03Int_v k s sg bg NA NU ME BA ct).2.2.2.2.2.2.2.2.1)) && true)))
noncomputable def spec_l03Holds_v (k s : Int) (sg bg : Bool) (NA NU ME BA : List (List TC)) (ct n : Int) : Bool := (bif (k == (3 : Int)) then (spec_l00Has_v NU n) else (spec_l00In_v n ((spec_l02Range_v ((spec_l03Int_v k s sg bg NA NU ME BA ct).1) ((spec_l03Int_v k s sg bg NA NU ME BA ct).2.1) ((spec_l03Int_v k s sg bg NA NU ME BA ct).2.2.1) ((spec_l03Int_v k s sg bg NA NU ME BA ct).2.2.2.1) ((spec_l03Int_v k s sg bg NA NU ME BA ct).2.2.2.2.1) ((spec_l03Int_v k s sg bg NA NU ME BA ct).2.2.2.2.2.1) ((spec_l03Int_v k s sg bg NA NU ME BA ct).2.2.2.2.2.2.1) ((spec_l03Int_v k s sg bg NA NU ME BA ct).2.2.2.2.2.2.2.1) ((spec_l03Int_v k s sg bg NA NU ME BA ct).2.2.2.2.2.2.2.2.1)).1) ((spec_l02Range_v ((spec_l03Int_v k s sg bg NA NU ME BA ct).1) ((spec_l03Int_v k s sg bg NA NU ME BA ct).2.1) ((spec_l03Int_v k s sg bg NA NU ME BA ct).2.2.1) ((spec_l03Int_v k s sg bg NA NU ME BA ct).2.2.2.1) ((spec_l03Int_v k s sg bg NA NU ME BA ct).2.2.2.2.1) ((spec_l03Int_v k s sg bg NA NU ME BA ct).2.2.2.2.2.1) ((spec_l03Int_v k s sg bg NA NU ME BA ct).2.2.2.2.2.2.1) ((spec_l03Int_v k s sg bg NA NU ME BA ct).2.2.2.2.2.2.2.1) ((spec_l03Int_v k s sg bg NA NU ME BA ct).2.2.2.2.2.2.2.2.1)).2)))
theorem spec_l03Holds_l (k s : Int) (sg bg : Bool) (NA NU ME BA : List (List TC)) (ct n : Int) : (spec_l03Holds_c k s sg bg NA NU ME BA ct n) = true → (spec_l03Holds_t k s sg bg NA NU ME BA ct n).val = some (spec_l03Holds_v k s sg bg NA NU ME BA ct n) := by
  unfold spec_l03Holds_t spec_l03Holds_v spec_l03Holds_c
  exact fun h => (Tr.ss h (fun h => (Tr.gb h fun h => rfl)) (fun h => (Tr.gb h fun h => (Tr.gb h fun h => rfl))))
noncomputable def spec_l03Holds_S : List Arg → Option (Bool × Res) := fun xs => match xs with
  | [(true, [(.int .i64, TC.i k), (.int .i64, TC.i s), (.bool, TC.b sg), (.bool, TC.b bg), (.slice 9, TC.l NA), (.slice 2, TC.l NU), (.slice 77, TC.l ME), (.slice 32, TC.l BA), (.int .i64, TC.i ct)]), (false, [(.int .i64, TC.i n)])] => some ((spec_l03Holds_c k s sg bg NA NU ME BA ct n), spec_l03Holds_mk (spec_l03Holds_v k s sg bg NA NU ME BA ct n))
  | _ => .none
theorem spec_l03Holds_e (k s : Int) (sg bg : Bool) (NA NU ME BA : List (List TC)) (ct n : Int) : runF tab FT D27 live 56 noLoops [(true, [(.int .i64, TC.i k), (.int .i64, TC.i s), (.bool, TC.b sg), (.bool, TC.b bg), (.slice 9, TC.l NA), (.slice 2, TC.l NU), (.slice 77, TC.l ME), (.slice 32, TC.l BA), (.int .i64, TC.i ct)]), (false, [(.int .i64, TC.i n)])] = (spec_l03Holds_t k s sg bg NA NU ME BA ct n).run fun p => some (spec_l03Holds_mk p) := by kernel_rfl
theorem spec_l03Holds_s : ∀ xs r, spec_l03Holds_S xs = some (true, r) → runF tab FT D27 live 56 noLoops xs = some r := by
  intro xs r h
  unfold spec_l03Holds_S at h
  split at h
  · simp only [Option.some.injEq, Prod.mk.injEq] at h
    obtain ⟨h1, rfl⟩ := h
    exact fun_told (spec_l03Holds_e _ _ _ _ _ _ _ _ _ _) (spec_l03Holds_l _ _ _ _ _ _ _ _ _ _) h1
  · cases h
noncomputable def D28 : Dt := also D27 56 spec_l03Holds_S
theorem d28 : DOk Go.Proofs.Try.prog tab D28 := d27.also mixed_ok tab_ok names_ok noLoops_ok spec_l03Holds_s
/-! spec_l02Byte -/
noncomputable def spec_l02Byte_t (n : Int) : Tr (List UInt8) := .ok ([[TC.i (IntKind.wrap .u8 n)]].map byteOf)
def spec_l02Byte_mk (p : List UInt8) : Res := [(false, [⟨.str, .sh, TC.s p⟩])]
noncomputable def spec_l02Byte_c (n : Int) : Bool := true
noncomputable def spec_l02Byte_v (n : Int) : List UInt8 := hid (bytesL n 1)
theorem spec_l02Byte_l (n : Int) : (spec_l02Byte_c n) = true → (spec_l02Byte_t n).val = some (spec_l02Byte_v n) := by
  intro _
  unfold spec_l02Byte_t spec_l02Byte_v
  rw [hid_eq, ← byte1]
  rfl
noncomputable def spec_l02Byte_S : List Arg → Option (Bool × Res) := fun xs => match xs with
  | [(false, [(.int .i64, TC.i n)])] => some (true, spec_l02Byte_mk (spec_l02Byte_v n))
  | _ => .none
theorem spec_l02Byte_e (n : Int) : runF tab FT D28 live 96 noLoops [(false, [(.int .i64, TC.i n)])] = (spec_l02Byte_t n).run fun p => some (spec_l02Byte_mk p) := by kernel_rfl
theorem spec_l02Byte_s : ∀ xs r, spec_l02Byte_S xs = some (true, r) → runF tab FT D28 live 96 noLoops xs = some r := by
  intro xs r h
  unfold spec_l02Byte_S at h
  split at h
  · simp only [Option.some.injEq, Prod.mk.injEq] at h
    obtain ⟨h1, rfl⟩ := h
    exact fun_told (spec_l02Byte_e _) (spec_l02Byte_l _) rfl
  · cases h
noncomputable def D29 : Dt := also D28 96 spec_l02Byte_S
theorem d29 : DOk Go.Proofs.Try.prog tab D29 := d28.also mixed_ok tab_ok names_ok noLoops_ok spec_l02Byte_s
theorem spec_l02Byte_h {n : Int} : spec_l02Byte_v n = bytesL n 1 := hid_eq _
theorem spec_l02Byte_len {n : Int} : (spec_l02Byte_v n).length = 1 := by rw [spec_l02Byte_h]; exact bytesL_len
/-! spec_l02Put -/
abbrev spec_l02Put_3_σ := Int × Int × Bool × List UInt8 × Int
abbrev spec_l02Put_3_ω := (List UInt8)
noncomputable def spec_l02Put_3_step (n size : Int) (bg : Bool) (out : List UInt8) (k : Int) : Tr (spec_l02Put_3_σ ⊕ spec_l02Put_3_ω) := (.ite ((decide (k < size)) = true) (.ite (0 ≤ (IntKind.wrap .u64 (IntKind.wrap .i64 ((8 : Int) * k)))) (.ite (bg = true) (.ite ((((spec_l02Byte_v (bits .i64 (fun a b => a &&& b) (Int.fdiv n (2 ^ (min ((IntKind.wrap .u64 (IntKind.wrap .i64 ((8 : Int) * k)))).toNat 64))) (255 : Int))).length + out.length : Nat) : Int) ≤ 9223372036854775807) (.ok (.inl (n, size, bg, ((spec_l02Byte_v (bits .i64 (fun a b => a &&& b) (Int.fdiv n (2 ^ (min ((IntKind.wrap .u64 (IntKind.wrap .i64 ((8 : Int) * k)))).toNat 64))) (255 : Int))) ++ out), (IntKind.wrap .i64 (k + (1 : Int))))))
     .no)
    (.ite (((out.length + (spec_l02Byte_v (bits .i64 (fun a b => a &&& b) (Int.fdiv n (2 ^ (min ((IntKind.wrap .u64 (IntKind.wrap .i64 ((8 : Int) * k)))).toNat 64))) (255 : Int))).length : Nat) : Int) ≤ 9223372036854775807) (.ok (.inl (n, size, bg, (out ++ (spec_l02Byte_v (bits .i64 (fun a b => a &&& b) (Int.fdiv n (2 ^ (min ((IntKind.wrap .u64 (IntKind.wrap .i64 ((8 : Int) * k)))).toNat 64))) (255 : Int)))), (IntKind.wrap .i64 (k + (1 : Int))))))
     .no))
   .no)
  (.ok (.inr out)))
noncomputable def spec_l02Put_3_st : spec_l02Put_3_σ → Tr (spec_l02Put_3_σ ⊕ spec_l02Put_3_ω) := fun x => (spec_l02Put_3_step (x.1) (x.2.1) (x.2.2.1) (x.2.2.2.1) (x.2.2.2.2))
noncomputable def spec_l02Put_o3_1 (n size : Int) (bg : Bool) (out : List UInt8) (k : Int) : Bool := is (∃ sz : Nat, size = (sz : Int) ∧ sz ≤ 8 ∧ out = [] ∧ k = 0)
noncomputable def spec_l02Put_u3_1 (n size : Int) (bg : Bool) (out : List UInt8) (k : Int) : List UInt8 := putB n size.toNat bg
noncomputable def spec_l02Put_3_fin (n size : Int) (bg : Bool) (out : List UInt8) (k : Int) : Told spec_l02Put_3_ω := (.leaf (spec_l02Put_o3_1 n size bg out k) (spec_l02Put_u3_1 n size bg out k))
def spec_l02Put_3_sl (x : spec_l02Put_3_σ) : List Slot := [⟨.val false [⟨.int .i64, .sh, TC.i (x.1)⟩], ⟨0, 0⟩⟩, ⟨.val false [⟨.int .i64, .sh, TC.i (x.2.1)⟩], ⟨0, 0⟩⟩, ⟨.val false [⟨.bool, .sh, TC.b (x.2.2.1)⟩], ⟨0, 0⟩⟩, ⟨.val false [⟨.str, .sh, TC.s (x.2.2.2.1)⟩], ⟨0, 0⟩⟩, ⟨.val false [⟨.int .i64, .sh, TC.i (x.2.2.2.2)⟩], ⟨0, 0⟩⟩]
def spec_l02Put_3_out : spec_l02Put_3_ω → Ex × List Slot := (fun x => (.exit 0, [Slot.none, ⟨.val false [⟨.str, .sh, TC.s x⟩], ⟨0, 0⟩⟩]))
noncomputable def spec_l02Put_lo3 : List Slot → Option (Told (Ex × List Slot)) := fun s => match s with
  | [⟨.val false [⟨.int .i64, .sh, TC.i n⟩], ⟨0, 0⟩⟩, ⟨.val false [⟨.int .i64, .sh, TC.i size⟩], ⟨0, 0⟩⟩, ⟨.val false [⟨.bool, .sh, TC.b bg⟩], ⟨0, 0⟩⟩, ⟨.val false [⟨.str, .sh, TC.s out⟩], ⟨0, 0⟩⟩, ⟨.val false [⟨.int .i64, .sh, TC.i k⟩], ⟨0, 0⟩⟩] => some (((spec_l02Put_3_fin n size bg out k)).map spec_l02Put_3_out)
  | _ => .none
noncomputable def spec_l02Put_lo : LoopTeller := fun r s => bif Nat.beq r 3 then spec_l02Put_lo3 s else .none
theorem spec_l02Put_3_r (n size : Int) (bg : Bool) (out : List UInt8) (k : Int) (fuel : Nat) : rounds (rnd tab FT D29 live 90 spec_l02Put_lo 0 3) leave (fuel + 1) (spec_l02Put_3_sl (n, size, bg, out, k)) = ((spec_l02Put_3_step n size bg out k)).run (goOn (fun s => rounds (rnd tab FT D29 live 90 spec_l02Put_lo 0 3) leave fuel (spec_l02Put_3_sl s)) fun w => some (spec_l02Put_3_out w)) := by kernel_rfl
theorem spec_l02Put_3_h (n size : Int) (bg : Bool) (out : List UInt8) (k : Int) (ow : spec_l02Put_3_ω) : ((spec_l02Put_3_fin n size bg out k)).val = some ow → ∃ fuel, loopN spec_l02Put_3_st fuel (n, size, bg, out, k) = some ow := by
  intro h
  refine auto_leaf (R := putB n size.toNat bg) (fun ho => ?_) h
  obtain ⟨sz, rfl, h8, rfl, rfl⟩ := is_iff.1 ho
  refine ⟨sz + 1, Eq.trans (congrArg (loopN spec_l02Put_3_st (sz + 1)) (by cases bg <;> rfl)) (loopN_run (step := spec_l02Put_3_st) (N := sz) (fun j => (n, (sz : Int), bg, putB n j bg, (j : Int))) (fun j hj => ?_) ?_ sz 0 (by omega))⟩
  · have e1 : IntKind.wrap .u64 (IntKind.wrap .i64 ((8 : Int) * (j : Int))) = ((8 * j : Nat) : Int) := by
      rw [wrap64 (by omega) (by omega), IntKind.wrap_u64]; omega
    have eb : spec_l02Byte_v (bits .i64 (fun a b => a &&& b) (Int.fdiv n (2 ^ (8 * j))) (255 : Int)) = [byteOf (bAt n j)] := by
      rw [spec_l02Byte_h]
      show [byteOf (bAt _ 0)] = _
      unfold bAt
      rw [show Int.fdiv (bits .i64 (fun a b => a &&& b) (Int.fdiv n (2 ^ (8 * j))) (255 : Int)) (2 ^ (8 * 0)) = bits .i64 (fun a b => a &&& b) (Int.fdiv n (2 ^ (8 * j))) (255 : Int) from by simp, u8_and]
    show (spec_l02Put_3_step n (sz : Int) bg (putB n j bg) (j : Int)).val = _
    unfold spec_l02Put_3_step
    rw [e1, Int.toNat_natCast, Nat.min_eq_left (by omega), eb]
    refine Tr.t (by simp; omega) ?_
    refine Tr.t (by omega) ?_
    have hl := putB_len (n := n) (sz := j) (bg := bg)
    cases bg with
    | true =>
      refine Tr.t rfl ?_
      refine Tr.t (by rw [hl, List.length_singleton]; omega) ?_
      rw [Tr.val_ok, wrap64 (i := (j : Int) + 1) (by omega) (by omega)]
      have e2 : putB n (j + 1) true = [byteOf (bAt n j)] ++ putB n j true := by
        show (bytesL n (j + 1)).reverse = _ ++ (bytesL n j).reverse
        rw [bytesL_succ, List.reverse_append]; rfl
      rw [e2]; rfl
    | false =>
      refine Tr.n (by simp) ?_
      refine Tr.t (by rw [hl, List.length_singleton]; omega) ?_
      rw [Tr.val_ok, wrap64 (i := (j : Int) + 1) (by omega) (by omega)]
      have e2 : putB n (j + 1) false = putB n j false ++ [byteOf (bAt n j)] := bytesL_succ
      rw [e2]; rfl
  · show (spec_l02Put_3_step n (sz : Int) bg (putB n sz bg) (sz : Int)).val = _
    unfold spec_l02Put_3_step
    refine Tr.n (by simp) ?_
    rfl
theorem spec_l02Put_is3 : LoopIs tab FT D29 live 90 spec_l02Put_lo 0 3 := by
  refine loop_told (sl := spec_l02Put_3_sl) (step := spec_l02Put_3_st) (out := spec_l02Put_3_out) (lor := spec_l02Put_lo3) (fin := fun x => (spec_l02Put_3_fin (x.1) (x.2.1) (x.2.2.1) (x.2.2.2.1) (x.2.2.2.2))) (fun _ => rfl) ?_ (fun x n => spec_l02Put_3_r x.1 x.2.1 x.2.2.1 x.2.2.2.1 x.2.2.2.2 n) (fun x ow => spec_l02Put_3_h x.1 x.2.1 x.2.2.1 x.2.2.2.1 x.2.2.2.2 ow)
  intro s t h
  unfold spec_l02Put_lo3 at h
  split at h
  · cases h; exact ⟨(_, _, _, _, _), rfl, rfl⟩
  · cases h
noncomputable def spec_l02Put_t (n size : Int) (bg : Bool) : Tr (List UInt8) := (.ite ((spec_l02Put_o3_1 n size bg [] (0 : Int)) = true) (.ok (spec_l02Put_u3_1 n size bg [] (0 : Int)))
  .no)
def spec_l02Put_mk (p : List UInt8) : Res := [(false, [⟨.str, .sh, TC.s p⟩])]
noncomputable def spec_l02Put_c (n size : Int) (bg : Bool) : Bool := is (∃ sz : Nat, size = (sz : Int) ∧ sz ≤ 8)
noncomputable def spec_l02Put_v (n size : Int) (bg : Bool) : List UInt8 := hid (putB n size.toNat bg)
theorem spec_l02Put_l (n size : Int) (bg : Bool) : (spec_l02Put_c n size bg) = true → (spec_l02Put_t n size bg).val = some (spec_l02Put_v n size bg) := by
  intro h
  obtain ⟨sz, rfl, h8⟩ := is_iff.1 h
  unfold spec_l02Put_t spec_l02Put_v
  rw [hid_eq]
  refine Tr.t (is_true ⟨sz, rfl, h8, rfl, rfl⟩) ?_
  rfl
noncomputable def spec_l02Put_S : List Arg → Option (Bool × Res) := fun xs => match xs with
  | [(false, [(.int .i64, TC.i n)]), (false, [(.int .i64, TC.i size)]), (false, [(.bool, TC.b bg)])] => some ((spec_l02Put_c n size bg), spec_l02Put_mk (spec_l02Put_v n size bg))
  | _ => .none
theorem spec_l02Put_e (n size : Int) (bg : Bool) : runF tab FT D29 live 90 spec_l02Put_lo [(false, [(.int .i64, TC.i n)]), (false, [(.int .i64, TC.i size)]), (false, [(.bool, TC.b bg)])] = (spec_l02Put_t n size bg).run fun p => some (spec_l02Put_mk p) := by kernel_rfl
theorem spec_l02Put_s : ∀ xs r, spec_l02Put_S xs = some (true, r) → runF tab FT D29 live 90 spec_l02Put_lo xs = some r := by
  intro xs r h
  unfold spec_l02Put_S at h
  split at h
  · simp only [Option.some.injEq, Prod.mk.injEq] at h
    obtain ⟨h1, rfl⟩ := h
    exact fun_told (spec_l02Put_e _ _ _) (spec_l02Put_l _ _ _) h1
  · cases h
noncomputable def D30 : Dt := also D29 90 spec_l02Put_S
theorem d30 : DOk Go.Proofs.Try.prog tab D30 := d29.also mixed_ok tab_ok names_ok (fnLoops_one (by kernel_rfl) spec_l02Put_is3) spec_l02Put_s
theorem spec_l02Put_h {n size : Int} {bg : Bool} : spec_l02Put_v n size bg = putB n size.toNat bg := hid_eq _
/-! spec_l03Bytes -/
noncomputable def spec_l03Bytes_t (k s : Int) (sg bg : Bool) (NA NU ME BA : List (List TC)) (ct n : Int) : Tr (List UInt8) := (.ite ((spec_l03Int_c k s sg bg NA NU ME BA ct) = true) (.ite ((spec_l02Put_c n ((spec_l03Int_v k s sg bg NA NU ME BA ct).2.1) ((spec_l03Int_v k s sg bg NA NU ME BA ct).2.2.2.1)) = true) (.ok (spec_l02Put_v n ((spec_l03Int_v k s sg bg NA NU ME BA ct).2.1) ((spec_l03Int_v k s sg bg NA NU ME BA ct).2.2.2.1)))
   .no)
  .no)
def spec_l03Bytes_mk (p : List UInt8) : Res := [(false, [⟨.str, .sh, TC.s p⟩])]
noncomputable def spec_l03Bytes_c (k s : Int) (sg bg : Bool) (NA NU ME BA : List (List TC)) (ct n : Int) : Bool := ((spec_l03Int_c k s sg bg NA NU ME BA ct) && ((spec_l02Put_c n ((spec_l03Int_v k s sg bg NA NU ME BA ct).2.1) ((spec_l03Int_v k s sg bg NA NU ME BA ct).2.2.2.1)) && true))
noncomputable def spec_l03Bytes_v (k s : Int) (sg bg : Bool) (NA NU ME BA : List (List TC)) (ct n : Int) : List UInt8 := (spec_l02Put_v n ((spec_l03Int_v k s sg bg NA NU ME BA ct).2.1) ((spec_l03Int_v k s sg bg NA NU ME BA ct).2.2.2.1))
theorem spec_l03Bytes_l (k s : Int) (sg bg : Bool) (NA NU ME BA : List (List TC)) (ct n : Int) : (spec_l03Bytes_c k s sg bg NA NU ME BA ct n) = true → (spec_l03Bytes_t k s sg bg NA NU ME BA ct n).val = some (spec_l03Bytes_v k s sg bg NA NU ME BA ct n) := by
  unfold spec_l03Bytes_t spec_l03Bytes_v spec_l03Bytes_c
  exact fun h => (Tr.gb h fun h => (Tr.gb h fun h => rfl))
noncomputable def spec_l03Bytes_S : List Arg → Option (Bool × Res) := fun xs => match xs with
  | [(true, [(.int .i64, TC.i k), (.int .i64, TC.i s), (.bool, TC.b sg), (.bool, TC.b bg), (.slice 9, TC.l NA), (.slice 2, TC.l NU), (.slice 77, TC.l ME), (.slice 32, TC.l BA), (.int .i64, TC.i ct)]), (false, [(.int .i64, TC.i n)])] => some ((spec_l03Bytes_c k s sg bg NA NU ME BA ct n), spec_l03Bytes_mk (spec_l03Bytes_v k s sg bg NA NU ME BA ct n))
  | _ => .none
theorem spec_l03Bytes_e (k s : Int) (sg bg : Bool) (NA NU ME BA : List (List TC)) (ct n : Int) : runF tab FT D30 live 57 noLoops [(true, [(.int .i64, TC.i k), (.int .i64, TC.i s), (.bool, TC.b sg), (.bool, TC.b bg), (.slice 9, TC.l NA), (.slice 2, TC.l NU), (.slice 77, TC.l ME), (.slice 32, TC.l BA), (.int .i64, TC.i ct)]), (false, [(.int .i64, TC.i n)])] = (spec_l03Bytes_t k s sg bg NA NU ME BA ct n).run fun p => some (spec_l03Bytes_mk p) := by kernel_rfl
theorem spec_l03Bytes_s : ∀ xs r, spec_l03Bytes_S xs = some (true, r) → runF tab FT D30 live 57 noLoops xs = some r := by
  intro xs r h
  unfold spec_l03Bytes_S at h
  split at h
  · simp only [Option.some.injEq, Prod.mk.injEq] at h
    obtain ⟨h1, rfl⟩ := h
    exact fun_told (spec_l03Bytes_e _ _ _ _ _ _ _ _ _ _) (spec_l03Bytes_l _ _ _ _ _ _ _ _ _ _) h1
  · cases h
noncomputable def D31 : Dt := also D30 57 spec_l03Bytes_S
theorem d31 : DOk Go.Proofs.Try.prog tab D31 := d30.also mixed_ok tab_ok names_ok noLoops_ok spec_l03Bytes_s
/-! spec_BytesOf -/
noncomputable def spec_BytesOf_t (k s : Int) (sg bg : Bool) (NA NU ME BA : List (List TC)) (ct n : Int) : Tr (List UInt8 × Bool) := (.ite ((spec_l02Ok_rc k s sg bg NA NU ME BA ct) = true) (.ite ((!(spec_l02Ok_rv k s sg bg NA NU ME BA ct)) = true) (.ok ([], false))
   (.ite ((spec_l03Int_c k s sg bg NA NU ME BA ct) = true) (.ite ((!(spec_l03Int_v k s sg bg NA NU ME BA ct).2.2.2.2.2.2.2.2.2) = true) (.ok ([], false))
     (.ite ((spec_l03Holds_c k s sg bg NA NU ME BA ct n) = true) (.ite ((!(spec_l03Holds_v k s sg bg NA NU ME BA ct n)) = true) (.ok ([], false))
       (.ite ((spec_l03Bytes_c k s sg bg NA NU ME BA ct n) = true) (.ok ((spec_l03Bytes_v k s sg bg NA NU ME BA ct n), true))
        .no))
      .no))
    .no))
  .no)
def spec_BytesOf_mk (p : List UInt8 × Bool) : Res := [(false, [⟨.str, .sh, TC.s (p.1)⟩]), (false, [⟨.bool, .sh, TC.b (p.2)⟩])]
noncomputable def spec_BytesOf_c (k s : Int) (sg bg : Bool) (NA NU ME BA : List (List TC)) (ct n : Int) : Bool := ((spec_l02Ok_rc k s sg bg NA NU ME BA ct) && (bif (!(spec_l02Ok_rv k s sg bg NA NU ME BA ct)) then true else ((spec_l03Int_c k s sg bg NA NU ME BA ct) && (bif (!(spec_l03Int_v k s sg bg NA NU ME BA ct).2.2.2.2.2.2.2.2.2) then true else ((spec_l03Holds_c k s sg bg NA NU ME BA ct n) && (bif (!(spec_l03Holds_v k s sg bg NA NU ME BA ct n)) then true else ((spec_l03Bytes_c k s sg bg NA NU ME BA ct n) && true)))))))
noncomputable def spec_BytesOf_v (k s : Int) (sg bg : Bool) (NA NU ME BA : List (List TC)) (ct n : Int) : List UInt8 × Bool := (bif (!(spec_l02Ok_rv k s sg bg NA NU ME BA ct)) then ([], false) else (bif (!(spec_l03Int_v k s sg bg NA NU ME BA ct).2.2.2.2.2.2.2.2.2) then ([], false) else (bif (!(spec_l03Holds_v k s sg bg NA NU ME BA ct n)) then ([], false) else ((spec_l03Bytes_v k s sg bg NA NU ME BA ct n), true))))
theorem spec_BytesOf_l (k s : Int) (sg bg : Bool) (NA NU ME BA : List (List TC)) (ct n : Int) : (spec_BytesOf_c k s sg bg NA NU ME BA ct n) = true → (spec_BytesOf_t k s sg bg NA NU ME BA ct n).val = some (spec_BytesOf_v k s sg bg NA NU ME BA ct n) := by
  unfold spec_BytesOf_t spec_BytesOf_v spec_BytesOf_c
  exact fun h => (Tr.gb h fun h => (Tr.ss h (fun h => rfl) (fun h => (Tr.gb h fun h => (Tr.ss h (fun h => rfl) (fun h => (Tr.gb h fun h => (Tr.ss h (fun h => rfl) (fun h => (Tr.gb h fun h => rfl))))))))))
noncomputable def spec_BytesOf_S : List Arg → Option (Bool × Res) := fun xs => match xs with
  | [(true, [(.int .i64, TC.i k), (.int .i64, TC.i s), (.bool, TC.b sg), (.bool, TC.b bg), (.slice 9, TC.l NA), (.slice 2, TC.l NU), (.slice 77, TC.l ME), (.slice 32, TC.l BA), (.int .i64, TC.i ct)]), (false, [(.int .i64, TC.i n)])] => some ((spec_BytesOf_c k s sg bg NA NU ME BA ct n), spec_BytesOf_mk (spec_BytesOf_v k s sg bg NA NU ME BA ct n))
  | _ => .none
theorem spec_BytesOf_e (k s : Int) (sg bg : Bool) (NA NU ME BA : List (List TC)) (ct n : Int) : runF tab FT D31 live 19 noLoops [(true, [(.int .i64, TC.i k), (.int .i64, TC.i s), (.bool, TC.b sg), (.bool, TC.b bg), (.slice 9, TC.l NA), (.slice 2, TC.l NU), (.slice 77, TC.l ME), (.slice 32, TC.l BA), (.int .i64, TC.i ct)]), (false, [(.int .i64, TC.i n)])] = (spec_BytesOf_t k s sg bg NA NU ME BA ct n).run fun p => some (spec_BytesOf_mk p) := by kernel_rfl
theorem spec_BytesOf_s : ∀ xs r, spec_BytesOf_S xs = some (true, r) → runF tab FT D31 live 19 noLoops xs = some r := by
  intro xs r h
  unfold spec_BytesOf_S at h
  split at h
  · simp only [Option.some.injEq, Prod.mk.injEq] at h
    obtain ⟨h1, rfl⟩ := h
    exact fun_told (spec_BytesOf_e _ _ _ _ _ _ _ _ _ _) (spec_BytesOf_l _ _ _ _ _ _ _ _ _ _) h1
  · cases h
noncomputable def D32 : Dt := also D31 19 spec_BytesOf_S
theorem d32 : DOk Go.Proofs.Try.prog tab D32 := d31.also mixed_ok tab_ok names_ok noLoops_ok spec_BytesOf_s
theorem spec_by {k s : Int} {sg bg : Bool} {NA NU ME BA : List (List TC)} {ct : Int} (h : okV k s sg bg NA NU ME BA ct = true) (hn : numK k = true) (n : Int) : spec_l03Int_c k s sg bg NA NU ME BA ct = true ∧ (spec_l03Int_v k s sg bg NA NU ME BA ct).2.2.2.2.2.2.2.2.2 = true ∧ spec_l03Holds_c k s sg bg NA NU ME BA ct n = true ∧ spec_l03Holds_v k s sg bg NA NU ME BA ct n = elemV k s sg NU n ∧ spec_l03Bytes_c k s sg bg NA NU ME BA ct n = true ∧ spec_l03Bytes_v k s sg bg NA NU ME BA ct n = numB k s bg BA n := by
  rcases okV_kind h with rfl | rfl | rfl | rfl | rfl | rfl
  · have hI := okV_int h
    refine ⟨rfl, rfl, ?_, ?_, ?_, ?_⟩
    · show (true && (spec_l02Range_c 1 s sg bg NA NU ME BA ct && true)) = true
      rw [spec_l02Range_cc]; rfl
    · show spec_l00In_v n (spec_l02Range_v 1 s sg bg NA NU ME BA ct).1 (spec_l02Range_v 1 s sg bg NA NU ME BA ct).2 = inI n (loV s sg) (hiV s sg)
      rw [(range_lo hI).1, (range_lo hI).2]; rfl
    · show (true && (spec_l02Put_c n s bg && true)) = true
      rw [show spec_l02Put_c n s bg = true from is_true (szOk_nat (intV_sz hI))]; rfl
    · show spec_l02Put_v n s bg = putB n s.toNat bg
      exact spec_l02Put_h
  · cases hn
  · obtain ⟨e1, e2, -, e3, e4, e5, -⟩ := okV_enum h
    have hic : spec_l03Int_c 3 s sg bg NA NU ME BA ct = true := by
      show (is ((0 : Int) ≤ (0 : Int) ∧ (0 : Int) < (BA.length : Int)) && true) = true
      exact andT (is_true ⟨by omega, by omega⟩) rfl
    refine ⟨hic, rfl, ?_, ?_, ?_, ?_⟩
    · show (spec_l00Has_c NU n && true) = true
      rw [spec_l00Has_cc (by omega)]; rfl
    · show (bif NU.all (fun x => !((nth x 0).int == n)) then false else true) = !(NU.all (fun x => !((nth x 0).int == n)))
      cases NU.all (fun x => !((nth x 0).int == n)) <;> rfl
    · unfold spec_l03Bytes_c
      rw [hic]
      show (true && (spec_l02Put_c n (nth (row BA (0 : Int)) 1).int (nth (row BA (0 : Int)) 3).bool && true)) = true
      rw [show spec_l02Put_c n (nth (row BA (0 : Int)) 1).int (nth (row BA (0 : Int)) 3).bool = true from is_true (szOk_nat (intV_sz e5))]; rfl
    · show spec_l02Put_v n (nth (row BA (0 : Int)) 1).int (nth (row BA (0 : Int)) 3).bool = putB n (nth (row BA (0 : Int)) 1).int.toNat (nth (row BA (0 : Int)) 3).bool
      exact spec_l02Put_h
  · cases hn
  · cases hn
  · obtain ⟨rfl, rfl⟩ := okV_ref h
    refine ⟨rfl, rfl, ?_, ?_, ?_, ?_⟩
    · show (true && (spec_l02Range_c 1 2 false false [] [] [] [] 0 && true)) = true
      rw [spec_l02Range_cc]; rfl
    · show spec_l00In_v n (spec_l02Range_v 1 2 false false [] [] [] [] 0).1 (spec_l02Range_v 1 2 false false [] [] [] [] 0).2 = inI n 0 65535
      rw [show spec_l02Range_v 1 2 false false [] [] [] [] 0 = (0, 65535) from by unfold spec_l02Range_v; decide]; rfl
    · show (true && (spec_l02Put_c n 2 false && true)) = true
      rw [show spec_l02Put_c n 2 false = true from is_true ⟨2, rfl, by omega⟩]; rfl
    · show spec_l02Put_v n 2 false = putB n 2 false
      exact spec_l02Put_h
theorem spec_l03Int_no {k s : Int} {sg bg : Bool} {NA NU ME BA : List (List TC)} {ct : Int} (hn : numK k = false) : spec_l03Int_c k s sg bg NA NU ME BA ct = true ∧ (spec_l03Int_v k s sg bg NA NU ME BA ct).2.2.2.2.2.2.2.2.2 = false := by
  unfold numK at hn
  unfold spec_l03Int_c spec_l03Int_v
  cases h1 : (k == 1) <;> cases h3 : (k == 3) <;> cases h6 : (k == 6) <;> rw [h1, h3, h6] at hn <;> first | (cases hn; done) | exact ⟨rfl, rfl⟩
theorem elem_no {k s : Int} {sg : Bool} {NU : List (List TC)} {n : Int} (hn : numK k = false) : elemV k s sg NU n = false := by
  cases h : elemV k s sg NU n with
  | false => rfl
  | true => rw [elem_num h] at hn; cases hn
theorem spec_BytesOf_cc {k s : Int} {sg bg : Bool} {NA NU ME BA : List (List TC)} {ct : Int} {n : Int} (okc : spec_l02Ok_rc k s sg bg NA NU ME BA ct = true) : spec_BytesOf_c k s sg bg NA NU ME BA ct n = true := by
  unfold spec_BytesOf_c
  rw [okc, show spec_l02Ok_rv k s sg bg NA NU ME BA ct = okV k s sg bg NA NU ME BA ct from rfl]
  cases h : okV k s sg bg NA NU ME BA ct with
  | false => rfl
  | true =>
    cases hn : numK k with
    | false => rw [(spec_l03Int_no hn).1, (spec_l03Int_no hn).2]; rfl
    | true =>
      obtain ⟨a, b, c, d, e, -⟩ := spec_by h hn n
      rw [a, b, c, d, e]
      cases elemV k s sg NU n <;> rfl
theorem spec_BytesOf_vv (k s : Int) (sg bg : Bool) (NA NU ME BA : List (List TC)) (ct n : Int) : spec_BytesOf_v k s sg bg NA NU ME BA ct n = bytesV k s sg bg NA NU ME BA ct n := by
  unfold spec_BytesOf_v bytesV
  rw [show spec_l02Ok_rv k s sg bg NA NU ME BA ct = okV k s sg bg NA NU ME BA ct from rfl]
  cases h : okV k s sg bg NA NU ME BA ct with
  | false => rfl
  | true =>
    cases hn : numK k with
    | false => rw [(spec_l03Int_no hn).2, elem_no hn]; rfl
    | true =>
      obtain ⟨-, b, -, d, -, e⟩ := spec_by h hn n
      rw [b, d, e]
      cases elemV k s sg NU n <;> rfl
/-! impl_Type_size calls itself -/
section
class impl_Type_size_O where n : Nat
variable [i_impl_Type_size : impl_Type_size_O]
noncomputable def impl_Type_size_rc (k s : Int) (sg bg : Bool) (NA NU ME BA : List (List TC)) (ct : Int) : Bool := is (rowsDep BA < impl_Type_size_O.n ∧ isizeC k BA = true)
noncomputable def impl_Type_size_rv (k s : Int) (sg bg : Bool) (NA NU ME BA : List (List TC)) (ct : Int) : Int := isizeV k s BA ct
def impl_Type_size_rmk (p : Int) : Res := [(false, [⟨.int .i64, .sh, TC.i p⟩])]
noncomputable def impl_Type_size_rS : List Arg → Option (Bool × Res) := fun xs => match xs with
  | [(true, [(.int .i64, TC.i k), (.int .i64, TC.i s), (.bool, TC.b sg), (.bool, TC.b bg), (.slice 9, TC.l NA), (.slice 2, TC.l NU), (.slice 77, TC.l ME), (.slice 32, TC.l BA), (.int .i64, TC.i ct)])] => some ((impl_Type_size_rc k s sg bg NA NU ME BA ct), impl_Type_size_rmk (impl_Type_size_rv k s sg bg NA NU ME BA ct))
  | _ => .none
noncomputable def D33 : Dt := also D32 82 impl_Type_size_rS
class impl_Type_size_G : Prop where ok : DOk Go.Proofs.Try.prog tab D33
variable [g_impl_Type_size : impl_Type_size_G]
theorem d33 : DOk Go.Proofs.Try.prog tab D33 := impl_Type_size_G.ok
/-! impl_Type_size -/
noncomputable def impl_Type_size_t (k s : Int) (sg bg : Bool) (NA NU ME BA : List (List TC)) (ct : Int) : Tr (Int) := (.ite ((k == (3 : Int)) = true) (.ite ((0 : Int) ≤ (0 : Int) ∧ (0 : Int) < (BA.length : Int)) (.ite ((impl_Type_size_rc ((nth (row BA (0 : Int)) 0).int) ((nth (row BA (0 : Int)) 1).int) ((nth (row BA (0 : Int)) 2).bool) ((nth (row BA (0 : Int)) 3).bool) ((nth (row BA (0 : Int)) 4).list) ((nth (row BA (0 : Int)) 5).list) ((nth (row BA (0 : Int)) 6).list) ((nth (row BA (0 : Int)) 7).list) ((nth (row BA (0 : Int)) 8).int)) = true) (.ok (impl_Type_size_rv ((nth (row BA (0 : Int)) 0).int) ((nth (row BA (0 : Int)) 1).int) ((nth (row BA (0 : Int)) 2).bool) ((nth (row BA (0 : Int)) 3).bool) ((nth (row BA (0 : Int)) 4).list) ((nth (row BA (0 : Int)) 5).list) ((nth (row BA (0 : Int)) 6).list) ((nth (row BA (0 : Int)) 7).list) ((nth (row BA (0 : Int)) 8).int)))
    .no)
   .no)
  (.ite ((k == (5 : Int)) = true) (.ite ((0 : Int) ≤ (0 : Int) ∧ (0 : Int) < (BA.length : Int)) (.ite ((impl_Type_size_rc ((nth (row BA (0 : Int)) 0).int) ((nth (row BA (0 : Int)) 1).int) ((nth (row BA (0 : Int)) 2).bool) ((nth (row BA (0 : Int)) 3).bool) ((nth (row BA (0 : Int)) 4).list) ((nth (row BA (0 : Int)) 5).list) ((nth (row BA (0 : Int)) 6).list) ((nth (row BA (0 : Int)) 7).list) ((nth (row BA (0 : Int)) 8).int)) = true) (.ok (IntKind.wrap .i64 (ct * (impl_Type_size_rv ((nth (row BA (0 : Int)) 0).int) ((nth (row BA (0 : Int)) 1).int) ((nth (row BA (0 : Int)) 2).bool) ((nth (row BA (0 : Int)) 3).bool) ((nth (row BA (0 : Int)) 4).list) ((nth (row BA (0 : Int)) 5).list) ((nth (row BA (0 : Int)) 6).list) ((nth (row BA (0 : Int)) 7).list) ((nth (row BA (0 : Int)) 8).int)))))
     .no)
    .no)
   (.ok s)))
def impl_Type_size_mk (p : Int) : Res := [(false, [⟨.int .i64, .sh, TC.i p⟩])]
noncomputable def impl_Type_size_c (k s : Int) (sg bg : Bool) (NA NU ME BA : List (List TC)) (ct : Int) : Bool := (bif (k == (3 : Int)) then (is ((0 : Int) ≤ (0 : Int) ∧ (0 : Int) < (BA.length : Int)) && ((impl_Type_size_rc ((nth (row BA (0 : Int)) 0).int) ((nth (row BA (0 : Int)) 1).int) ((nth (row BA (0 : Int)) 2).bool) ((nth (row BA (0 : Int)) 3).bool) ((nth (row BA (0 : Int)) 4).list) ((nth (row BA (0 : Int)) 5).list) ((nth (row BA (0 : Int)) 6).list) ((nth (row BA (0 : Int)) 7).list) ((nth (row BA (0 : Int)) 8).int)) && true)) else (bif (k == (5 : Int)) then (is ((0 : Int) ≤ (0 : Int) ∧ (0 : Int) < (BA.length : Int)) && ((impl_Type_size_rc ((nth (row BA (0 : Int)) 0).int) ((nth (row BA (0 : Int)) 1).int) ((nth (row BA (0 : Int)) 2).bool) ((nth (row BA (0 : Int)) 3).bool) ((nth (row BA (0 : Int)) 4).list) ((nth (row BA (0 : Int)) 5).list) ((nth (row BA (0 : Int)) 6).list) ((nth (row BA (0 : Int)) 7).list) ((nth (row BA (0 : Int)) 8).int)) && true)) else true))
noncomputable def impl_Type_size_v (k s : Int) (sg bg : Bool) (NA NU ME BA : List (List TC)) (ct : Int) : Int := (bif (k == (3 : Int)) then (impl_Type_size_rv ((nth (row BA (0 : Int)) 0).int) ((nth (row BA (0 : Int)) 1).int) ((nth (row BA (0 : Int)) 2).bool) ((nth (row BA (0 : Int)) 3).bool) ((nth (row BA (0 : Int)) 4).list) ((nth (row BA (0 : Int)) 5).list) ((nth (row BA (0 : Int)) 6).list) ((nth (row BA (0 : Int)) 7).list) ((nth (row BA (0 : Int)) 8).int)) else (bif (k == (5 : Int)) then (IntKind.wrap .i64 (ct * (impl_Type_size_rv ((nth (row BA (0 : Int)) 0).int) ((nth (row BA (0 : Int)) 1).int) ((nth (row BA (0 : Int)) 2).bool) ((nth (row BA (0 : Int)) 3).bool) ((nth (row BA (0 : Int)) 4).list) ((nth (row BA (0 : Int)) 5).list) ((nth (row BA (0 : Int)) 6).list) ((nth (row BA (0 : Int)) 7).list) ((nth (row BA (0 : Int)) 8).int)))) else s))
theorem impl_Type_size_l (k s : Int) (sg bg : Bool) (NA NU ME BA : List (List TC)) (ct : Int) : (impl_Type_size_c k s sg bg NA NU ME BA ct) = true → (impl_Type_size_t k s sg bg NA NU ME BA ct).val = some (impl_Type_size_v k s sg bg NA NU ME BA ct) := by
  unfold impl_Type_size_t impl_Type_size_v impl_Type_size_c
  exact fun h => (Tr.ss h (fun h => (Tr.gs h fun h => (Tr.gb h fun h => rfl))) (fun h => (Tr.ss h (fun h => (Tr.gs h fun h => (Tr.gb h fun h => rfl))) (fun h => rfl))))
noncomputable def impl_Type_size_S : List Arg → Option (Bool × Res) := fun xs => match xs with
  | [(true, [(.int .i64, TC.i k), (.int .i64, TC.i s), (.bool, TC.b sg), (.bool, TC.b bg), (.slice 9, TC.l NA), (.slice 2, TC.l NU), (.slice 77, TC.l ME), (.slice 32, TC.l BA), (.int .i64, TC.i ct)])] => some ((impl_Type_size_c k s sg bg NA NU ME BA ct), impl_Type_size_mk (impl_Type_size_v k s sg bg NA NU ME BA ct))
  | _ => .none
theorem impl_Type_size_e (k s : Int) (sg bg : Bool) (NA NU ME BA : List (List TC)) (ct : Int) : runF tab FT D33 live 82 noLoops [(true, [(.int .i64, TC.i k), (.int .i64, TC.i s), (.bool, TC.b sg), (.bool, TC.b bg), (.slice 9, TC.l NA), (.slice 2, TC.l NU), (.slice 77, TC.l ME), (.slice 32, TC.l BA), (.int .i64, TC.i ct)])] = (impl_Type_size_t k s sg bg NA NU ME BA ct).run fun p => some (impl_Type_size_mk p) := by kernel_rfl
theorem impl_Type_size_s : ∀ xs r, impl_Type_size_S xs = some (true, r) → runF tab FT D33 live 82 noLoops xs = some r := by
  intro xs r h
  unfold impl_Type_size_S at h
  split at h
  · simp only [Option.some.injEq, Prod.mk.injEq] at h
    obtain ⟨h1, rfl⟩ := h
    exact fun_told (impl_Type_size_e _ _ _ _ _ _ _ _ _) (impl_Type_size_l _ _ _ _ _ _ _ _ _) h1
  · cases h
theorem impl_Type_size_nx (k s : Int) (sg bg : Bool) (NA NU ME BA : List (List TC)) (ct : Int) : is (rowsDep BA < impl_Type_size_O.n + 1 ∧ isizeC k BA = true) = true → (impl_Type_size_c k s sg bg NA NU ME BA ct) = true ∧ (impl_Type_size_v k s sg bg NA NU ME BA ct) = isizeV k s BA ct := by
  intro h
  obtain ⟨hM, hC⟩ := is_iff.1 h
  unfold impl_Type_size_c impl_Type_size_v
  rw [isizeC] at hC
  rw [isizeV]
  cases h3 : (k == 3) with
  | true =>
    simp only [h3, Bool.true_or, cond_true] at hC ⊢
    split at hC
    · rename_i hb
      rw [dif_pos hb]
      have := pos_row hb 7
      exact ⟨andT (is_true (by constructor <;> omega)) (andT (is_true ⟨by omega, hC⟩) rfl), rfl⟩
    · cases hC
  | false =>
    cases h5 : (k == 5) with
    | true =>
      simp only [h3, h5, Bool.false_or, cond_true, cond_false] at hC ⊢
      split at hC
      · rename_i hb
        rw [dif_pos hb]
        have := pos_row hb 7
        exact ⟨andT (is_true (by constructor <;> omega)) (andT (is_true ⟨by omega, hC⟩) rfl), rfl⟩
      · cases hC
    | false => exact ⟨rfl, rfl⟩
theorem impl_Type_size_nxr (k s : Int) (sg bg : Bool) (NA NU ME BA : List (List TC)) (ct : Int) : impl_Type_size_rc (i_impl_Type_size := ⟨impl_Type_size_O.n + 1⟩) k s sg bg NA NU ME BA ct = true → (impl_Type_size_c k s sg bg NA NU ME BA ct) = true ∧ (impl_Type_size_v k s sg bg NA NU ME BA ct) = (impl_Type_size_rv k s sg bg NA NU ME BA ct) := fun h => impl_Type_size_nx k s sg bg NA NU ME BA ct h
theorem impl_Type_size_rs : ∀ xs r, impl_Type_size_rS (i_impl_Type_size := ⟨impl_Type_size_O.n + 1⟩) xs = some (true, r) → runF tab FT D33 live 82 noLoops xs = some r := by
  intro xs r h
  unfold impl_Type_size_rS at h
  split at h
  · simp only [Option.some.injEq, Prod.mk.injEq] at h
    obtain ⟨h1, rfl⟩ := h
    have hx := impl_Type_size_nxr _ _ _ _ _ _ _ _ _ h1
    have ht := fun_told (impl_Type_size_e _ _ _ _ _ _ _ _ _) (impl_Type_size_l _ _ _ _ _ _ _ _ _) hx.1
    rw [hx.2] at ht
    exact ht
  · cases h
theorem impl_Type_size_step : impl_Type_size_G (i_impl_Type_size := ⟨impl_Type_size_O.n + 1⟩) := by
  have h := DOk.also2 (S := impl_Type_size_rS (i_impl_Type_size := ⟨impl_Type_size_O.n + 1⟩)) mixed_ok tab_ok names_ok d32 d33 noLoops_ok impl_Type_size_rs
  refine impl_Type_size_G.mk (i_impl_Type_size := ⟨impl_Type_size_O.n + 1⟩) ?_
  exact h
/-! impl_Type_only -/
noncomputable def impl_Type_only_t (a0 a1 : Int) (a2 a3 : Bool) (a4 a5 a6 a7 : List (List TC)) (a8 : Int) : Tr (Int × Int × Bool × Bool × List (List TC) × List (List TC) × List (List TC) × List (List TC) × Int) := (.ite ((a0 == (1 : Int)) = true) (.ok (a0, a1, a2, a3, [], [], [], [], (0 : Int)))
  (.ite ((a0 == (2 : Int)) = true) (.ok (a0, a1, false, false, [], [], [], [], (0 : Int)))
   (.ite ((a0 == (6 : Int)) = true) (.ok (a0, a1, false, false, [], [], [], [], (0 : Int)))
    (.ite ((a0 == (3 : Int)) = true) (.ok (a0, (0 : Int), false, false, a4, a5, [], a7, (0 : Int)))
     (.ite ((a0 == (4 : Int)) = true) (.ok (a0, a1, false, false, [], [], a6, [], (0 : Int)))
      (.ite ((a0 == (5 : Int)) = true) (.ok (a0, (0 : Int), false, false, [], [], [], a7, a8))
       (.ok (a0, (0 : Int), false, false, [], [], [], [], (0 : Int)))))))))
def impl_Type_only_mk (p : Int × Int × Bool × Bool × List (List TC) × List (List TC) × List (List TC) × List (List TC) × Int) : Res := [(true, [⟨.int .i64, .sh, TC.i (p.1)⟩, ⟨.int .i64, .sh, TC.i (p.2.1)⟩, ⟨.bool, .sh, TC.b (p.2.2.1)⟩, ⟨.bool, .sh, TC.b (p.2.2.2.1)⟩, ⟨.slice 9, .sh, TC.l (p.2.2.2.2.1)⟩, ⟨.slice 2, .sh, TC.l (p.2.2.2.2.2.1)⟩, ⟨.slice 77, .sh, TC.l (p.2.2.2.2.2.2.1)⟩, ⟨.slice 32, .sh, TC.l (p.2.2.2.2.2.2.2.1)⟩, ⟨.int .i64, .sh, TC.i (p.2.2.2.2.2.2.2.2)⟩])]
noncomputable def impl_Type_only_c (a0 a1 : Int) (a2 a3 : Bool) (a4 a5 a6 a7 : List (List TC)) (a8 : Int) : Bool := true
noncomputable def impl_Type_only_v (a0 a1 : Int) (a2 a3 : Bool) (a4 a5 a6 a7 : List (List TC)) (a8 : Int) : Int × Int × Bool × Bool × List (List TC) × List (List TC) × List (List TC) × List (List TC) × Int := (bif (a0 == (1 : Int)) then (a0, a1, a2, a3, [], [], [], [], (0 : Int)) else (bif (a0 == (2 : Int)) then (a0, a1, false, false, [], [], [], [], (0 : Int)) else (bif (a0 == (6 : Int)) then (a0, a1, false, false, [], [], [], [], (0 : Int)) else (bif (a0 == (3 : Int)) then (a0, (0 : Int), false, false, a4, a5, [], a7, (0 : Int)) else (bif (a0 == (4 : Int)) then (a0, a1, false, false, [], [], a6, [], (0 : Int)) else (bif (a0 == (5 : Int)) then (a0, (0 : Int), false, false, [], [], [], a7, a8) else (a0, (0 : Int), false, false, [], [], [], [], (0 : Int))))))))
theorem impl_Type_only_l (a0 a1 : Int) (a2 a3 : Bool) (a4 a5 a6 a7 : List (List TC)) (a8 : Int) : (impl_Type_only_c a0 a1 a2 a3 a4 a5 a6 a7 a8) = true → (impl_Type_only_t a0 a1 a2 a3 a4 a5 a6 a7 a8).val = some (impl_Type_only_v a0 a1 a2 a3 a4 a5 a6 a7 a8) := by
  intro h
  skip
  unfold impl_Type_only_t impl_Type_only_v
  exact (Tr.s rfl (Tr.s rfl (Tr.s rfl (Tr.s rfl (Tr.s rfl (Tr.s rfl rfl))))))
noncomputable def impl_Type_only_S : List Arg → Option (Bool × Res) := fun xs => match xs with
  | [(true, [(.int .i64, TC.i a0), (.int .i64, TC.i a1), (.bool, TC.b a2), (.bool, TC.b a3), (.slice 9, TC.l a4), (.slice 2, TC.l a5), (.slice 77, TC.l a6), (.slice 32, TC.l a7), (.int .i64, TC.i a8)])] => some (true, impl_Type_only_mk (impl_Type_only_v a0 a1 a2 a3 a4 a5 a6 a7 a8))
  | _ => .none
theorem impl_Type_only_e (a0 a1 : Int) (a2 a3 : Bool) (a4 a5 a6 a7 : List (List TC)) (a8 : Int) : runF tab FT D33 live 113 noLoops [(true, [(.int .i64, TC.i a0), (.int .i64, TC.i a1), (.bool, TC.b a2), (.bool, TC.b a3), (.slice 9, TC.l a4), (.slice 2, TC.l a5), (.slice 77, TC.l a6), (.slice 32, TC.l a7), (.int .i64, TC.i a8)])] = (impl_Type_only_t a0 a1 a2 a3 a4 a5 a6 a7 a8).run fun p => some (impl_Type_only_mk p) := by kernel_rfl
theorem impl_Type_only_s : ∀ xs r, impl_Type_only_S xs = some (true, r) → runF tab FT D33 live 113 noLoops xs = some r := by
  intro xs r h
  unfold impl_Type_only_S at h
  split at h
  · simp only [Option.some.injEq, Prod.mk.injEq] at h
    obtain ⟨h1, rfl⟩ := h
    exact fun_told (impl_Type_only_e _ _ _ _ _ _ _ _ _) (impl_Type_only_l _ _ _ _ _ _ _ _ _) rfl
  · cases h
noncomputable def D34 : Dt := also D33 113 impl_Type_only_S
theorem d34 : DOk Go.Proofs.Try.prog tab D34 := d33.also mixed_ok tab_ok names_ok noLoops_ok impl_Type_only_s
/-! slices_Equal_string_string -/
def E_9 (x y : List TC) : Bool := ((nth x 0).str == (nth y 0).str)
abbrev slices_Equal_string_string_4_σ := List (List TC) × List (List TC) × Int × Int
abbrev slices_Equal_string_string_4_ω := (Unit) ⊕ (Unit)
noncomputable def slices_Equal_string_string_4_step (A C : List (List TC)) (m i : Int) : Tr (slices_Equal_string_string_4_σ ⊕ slices_Equal_string_string_4_ω) := (.ite ((decide (i < m)) = true) (.ite ((0 : Int) ≤ i ∧ i < (A.length : Int)) (.ite ((0 : Int) ≤ i ∧ i < (C.length : Int)) (.ite ((!((nth (row A i) 0).str == (nth (row C i) 0).str)) = true) (.ok (.inr (.inl ())))
     (.ok (.inl (A, C, m, (IntKind.wrap .i64 (i + (1 : Int)))))))
    .no)
   .no)
  (.ok (.inr (.inr ()))))
noncomputable def slices_Equal_string_string_4_st : slices_Equal_string_string_4_σ → Tr (slices_Equal_string_string_4_σ ⊕ slices_Equal_string_string_4_ω) := fun x => (slices_Equal_string_string_4_step (x.1) (x.2.1) (x.2.2.1) (x.2.2.2))
noncomputable def slices_Equal_string_string_k4_1 (A C : List (List TC)) (m i : Int) : Bool := allEq E_9 A C
noncomputable def slices_Equal_string_string_o4_2 (A C : List (List TC)) (m i : Int) : Bool := is (A.length = C.length ∧ i = 0 ∧ Typed tab (.slice 9) (.l A) ∧ m = (A.length : Int))
noncomputable def slices_Equal_string_string_o4_3 (A C : List (List TC)) (m i : Int) : Bool := is (A.length = C.length ∧ i = 0 ∧ Typed tab (.slice 9) (.l A) ∧ m = (A.length : Int))
noncomputable def slices_Equal_string_string_4_fin (A C : List (List TC)) (m i : Int) : Told slices_Equal_string_string_4_ω := (.br (slices_Equal_string_string_k4_1 A C m i) (.leaf (slices_Equal_string_string_o4_2 A C m i) (.inr ())) (.leaf (slices_Equal_string_string_o4_3 A C m i) (.inl ())))
def slices_Equal_string_string_4_sl (x : slices_Equal_string_string_4_σ) : List Slot := [⟨.val false [⟨.slice 9, .sh, TC.l (x.1)⟩], ⟨0, 0⟩⟩, ⟨.val false [⟨.slice 9, .sh, TC.l (x.2.1)⟩], ⟨0, 0⟩⟩, ⟨.val false [⟨.int .i64, .sh, TC.i (x.2.2.1)⟩], ⟨0, 0⟩⟩, ⟨.val false [⟨.int .i64, .sh, TC.i (x.2.2.2)⟩], ⟨0, 0⟩⟩]
def slices_Equal_string_string_4_out : slices_Equal_string_string_4_ω → Ex × List Slot := (Sum.elim (fun x => (.ret, [⟨.val false [⟨.bool, .sh, TC.b false⟩], ⟨0, 0⟩⟩])) (fun x => (.exit 0, [Slot.none])))
noncomputable def slices_Equal_string_string_lo4 : List Slot → Option (Told (Ex × List Slot)) := fun s => match s with
  | [⟨.val false [⟨.slice 9, .sh, TC.l A⟩], ⟨0, 0⟩⟩, ⟨.val false [⟨.slice 9, .sh, TC.l C⟩], ⟨0, 0⟩⟩, ⟨.val false [⟨.int .i64, .sh, TC.i m⟩], ⟨0, 0⟩⟩, ⟨.val false [⟨.int .i64, .sh, TC.i i⟩], ⟨0, 0⟩⟩] => some (((slices_Equal_string_string_4_fin A C m i)).map slices_Equal_string_string_4_out)
  | _ => .none
noncomputable def slices_Equal_string_string_lo : LoopTeller := fun r s => bif Nat.beq r 4 then slices_Equal_string_string_lo4 s else .none
theorem slices_Equal_string_string_4_r (A C : List (List TC)) (m i : Int) (fuel : Nat) : rounds (rnd tab FT D34 live 139 slices_Equal_string_string_lo 0 4) leave (fuel + 1) (slices_Equal_string_string_4_sl (A, C, m, i)) = ((slices_Equal_string_string_4_step A C m i)).run (goOn (fun s => rounds (rnd tab FT D34 live 139 slices_Equal_string_string_lo 0 4) leave fuel (slices_Equal_string_string_4_sl s)) fun w => some (slices_Equal_string_string_4_out w)) := by kernel_rfl
theorem slices_Equal_string_string_4_h (A C : List (List TC)) (m i : Int) (ow : slices_Equal_string_string_4_ω) : ((slices_Equal_string_string_4_fin A C m i)).val = some ow → ∃ fuel, loopN slices_Equal_string_string_4_st fuel (A, C, m, i) = some ow := by
  intro h
  have key : A.length = C.length → Typed tab (.slice 9) (.l A) → loopN slices_Equal_string_string_4_st (A.length + 1) (A, C, (A.length : Int), 0) = some (if allEq E_9 A C = true then .inr () else .inl ()) := by
    intro hl ht
    have hlen : A.length ≤ 140737488351232 := by have := typed_room ht; simp only [show (tab 9).bytes = 16 from rfl] at this; omega
    refine loopN_allEq A C E_9 (fun i => (A, C, (A.length : Int), (i : Int))) _ _ hl (fun i hi => ?_) ?_ A.length 0 (by omega)
    · show (slices_Equal_string_string_4_step A C (A.length : Int) (i : Int)).val = _
      unfold slices_Equal_string_string_4_step
      refine Tr.t (by simp; omega) ?_
      refine Tr.t (by constructor <;> omega) ?_
      refine Tr.t (by constructor <;> omega) ?_
      rw [wrap64 (i := (i : Int) + 1) (by omega) (by omega)]
      rw [Tr.val_br]
      show (if (!(E_9 (A.getD i []) (C.getD i []))) = true then _ else _) = _
      cases E_9 (A.getD i []) (C.getD i []) <;> rfl
    · show (slices_Equal_string_string_4_step A C (A.length : Int) (A.length : Int)).val = _
      refine Tr.n (by simp) ?_
      rfl
  simp only [slices_Equal_string_string_4_fin, Told.val] at h
  cases hk : allEq E_9 A C with
  | true =>
    rw [if_pos (show slices_Equal_string_string_k4_1 A C m i = true from hk)] at h
    split at h
    · rename_i ho
      obtain ⟨hl, rfl, ht, rfl⟩ := is_iff.1 ho
      cases h
      refine ⟨_, (key hl ht).trans ?_⟩
      rw [hk]; rfl
    · cases h
  | false =>
    rw [if_neg (show ¬slices_Equal_string_string_k4_1 A C m i = true from by rw [show slices_Equal_string_string_k4_1 A C m i = allEq E_9 A C from rfl, hk]; simp)] at h
    split at h
    · rename_i ho
      obtain ⟨hl, rfl, ht, rfl⟩ := is_iff.1 ho
      cases h
      refine ⟨_, (key hl ht).trans ?_⟩
      rw [hk]; rfl
    · cases h
theorem slices_Equal_string_string_is4 : LoopIs tab FT D34 live 139 slices_Equal_string_string_lo 0 4 := by
  refine loop_told (sl := slices_Equal_string_string_4_sl) (step := slices_Equal_string_string_4_st) (out := slices_Equal_string_string_4_out) (lor := slices_Equal_string_string_lo4) (fin := fun x => (slices_Equal_string_string_4_fin (x.1) (x.2.1) (x.2.2.1) (x.2.2.2))) (fun _ => rfl) ?_ (fun x n => slices_Equal_string_string_4_r x.1 x.2.1 x.2.2.1 x.2.2.2 n) (fun x ow => slices_Equal_string_string_4_h x.1 x.2.1 x.2.2.1 x.2.2.2 ow)
  intro s t h
  unfold slices_Equal_string_string_lo4 at h
  split at h
  · cases h; exact ⟨(_, _, _, _), rfl, rfl⟩
  · cases h
noncomputable def slices_Equal_string_string_t (A C : List (List TC)) : Tr (Bool) := (.ite ((!((A.length : Int) == (C.length : Int))) = true) (.ok false)
  (.ite ((slices_Equal_string_string_k4_1 A C (A.length : Int) (0 : Int)) = true) (.ite ((slices_Equal_string_string_o4_2 A C (A.length : Int) (0 : Int)) = true) (.ok true)
    .no)
   (.ite ((slices_Equal_string_string_o4_3 A C (A.length : Int) (0 : Int)) = true) (.ok false)
    .no)))
def slices_Equal_string_string_mk (p : Bool) : Res := [(false, [⟨.bool, .sh, TC.b p⟩])]
noncomputable def slices_Equal_string_string_c (A C : List (List TC)) : Bool := is (Typed tab (.slice 9) (.l A))
noncomputable def slices_Equal_string_string_v (A C : List (List TC)) : Bool := allEq E_9 A C
theorem slices_Equal_string_string_l (A C : List (List TC)) : (slices_Equal_string_string_c A C) = true → (slices_Equal_string_string_t A C).val = some (slices_Equal_string_string_v A C) := by
  intro h
  have ht := is_iff.1 h
  unfold slices_Equal_string_string_t
  by_cases hl : A.length = C.length
  · refine Tr.n (by simp [hl]) ?_
    cases hk : allEq E_9 A C with
    | true =>
      refine Tr.t (show allEq E_9 A C = true from hk) ?_
      refine Tr.t (is_true ⟨hl, rfl, ht, rfl⟩) ?_
      show _ = some (allEq E_9 A C); rw [hk]; rfl
    | false =>
      refine Tr.n (show ¬allEq E_9 A C = true from by rw [hk]; simp) ?_
      refine Tr.t (is_true ⟨hl, rfl, ht, rfl⟩) ?_
      show _ = some (allEq E_9 A C); rw [hk]; rfl
  · refine Tr.t (by simp; omega) ?_
    show _ = some (allEq E_9 A C)
    rw [allEq_ne hl]
    rfl
noncomputable def slices_Equal_string_string_S : List Arg → Option (Bool × Res) := fun xs => match xs with
  | [(false, [(.slice 9, TC.l A)]), (false, [(.slice 9, TC.l C)])] => some ((slices_Equal_string_string_c A C), slices_Equal_string_string_mk (slices_Equal_string_string_v A C))
  | _ => .none
theorem slices_Equal_string_string_e (A C : List (List TC)) : runF tab FT D34 live 139 slices_Equal_string_string_lo [(false, [(.slice 9, TC.l A)]), (false, [(.slice 9, TC.l C)])] = (slices_Equal_string_string_t A C).run fun p => some (slices_Equal_string_string_mk p) := by kernel_rfl
theorem slices_Equal_string_string_s : ∀ xs r, slices_Equal_string_string_S xs = some (true, r) → runF tab FT D34 live 139 slices_Equal_string_string_lo xs = some r := by
  intro xs r h
  unfold slices_Equal_string_string_S at h
  split at h
  · simp only [Option.some.injEq, Prod.mk.injEq] at h
    obtain ⟨h1, rfl⟩ := h
    exact fun_told (slices_Equal_string_string_e _ _) (slices_Equal_string_string_l _ _) h1
  · cases h
noncomputable def D35 : Dt := also D34 139 slices_Equal_string_string_S
theorem d35 : DOk Go.Proofs.Try.prog tab D35 := d34.also mixed_ok tab_ok names_ok (fnLoops_one (by kernel_rfl) slices_Equal_string_string_is4) slices_Equal_string_string_s
/-! slices_Equal_int64_int64 -/
def E_2 (x y : List TC) : Bool := ((nth x 0).int == (nth y 0).int)
abbrev slices_Equal_int64_int64_4_σ := List (List TC) × List (List TC) × Int × Int
abbrev slices_Equal_int64_int64_4_ω := (Unit) ⊕ (Unit)
noncomputable def slices_Equal_int64_int64_4_step (A C : List (List TC)) (m i : Int) : Tr (slices_Equal_int64_int64_4_σ ⊕ slices_Equal_int64_int64_4_ω) := (.ite ((decide (i < m)) = true) (.ite ((0 : Int) ≤ i ∧ i < (A.length : Int)) (.ite ((0 : Int) ≤ i ∧ i < (C.length : Int)) (.ite ((!((nth (row A i) 0).int == (nth (row C i) 0).int)) = true) (.ok (.inr (.inl ())))
     (.ok (.inl (A, C, m, (IntKind.wrap .i64 (i + (1 : Int)))))))
    .no)
   .no)
  (.ok (.inr (.inr ()))))
noncomputable def slices_Equal_int64_int64_4_st : slices_Equal_int64_int64_4_σ → Tr (slices_Equal_int64_int64_4_σ ⊕ slices_Equal_int64_int64_4_ω) := fun x => (slices_Equal_int64_int64_4_step (x.1) (x.2.1) (x.2.2.1) (x.2.2.2))
noncomputable def slices_Equal_int64_int64_k4_1 (A C : List (List TC)) (m i : Int) : Bool := allEq E_2 A C
noncomputable def slices_Equal_int64_int64_o4_2 (A C : List (List TC)) (m i : Int) : Bool := is (A.length = C.length ∧ i = 0 ∧ Typed tab (.slice 2) (.l A) ∧ m = (A.length : Int))
noncomputable def slices_Equal_int64_int64_o4_3 (A C : List (List TC)) (m i : Int) : Bool := is (A.length = C.length ∧ i = 0 ∧ Typed tab (.slice 2) (.l A) ∧ m = (A.length : Int))
noncomputable def slices_Equal_int64_int64_4_fin (A C : List (List TC)) (m i : Int) : Told slices_Equal_int64_int64_4_ω := (.br (slices_Equal_int64_int64_k4_1 A C m i) (.leaf (slices_Equal_int64_int64_o4_2 A C m i) (.inr ())) (.leaf (slices_Equal_int64_int64_o4_3 A C m i) (.inl ())))
def slices_Equal_int64_int64_4_sl (x : slices_Equal_int64_int64_4_σ) : List Slot := [⟨.val false [⟨.slice 2, .sh, TC.l (x.1)⟩], ⟨0, 0⟩⟩, ⟨.val false [⟨.slice 2, .sh, TC.l (x.2.1)⟩], ⟨0, 0⟩⟩, ⟨.val false [⟨.int .i64, .sh, TC.i (x.2.2.1)⟩], ⟨0, 0⟩⟩, ⟨.val false [⟨.int .i64, .sh, TC.i (x.2.2.2)⟩], ⟨0, 0⟩⟩]
def slices_Equal_int64_int64_4_out : slices_Equal_int64_int64_4_ω → Ex × List Slot := (Sum.elim (fun x => (.ret, [⟨.val false [⟨.bool, .sh, TC.b false⟩], ⟨0, 0⟩⟩])) (fun x => (.exit 0, [Slot.none])))
noncomputable def slices_Equal_int64_int64_lo4 : List Slot → Option (Told (Ex × List Slot)) := fun s => match s with
  | [⟨.val false [⟨.slice 2, .sh, TC.l A⟩], ⟨0, 0⟩⟩, ⟨.val false [⟨.slice 2, .sh, TC.l C⟩], ⟨0, 0⟩⟩, ⟨.val false [⟨.int .i64, .sh, TC.i m⟩], ⟨0, 0⟩⟩, ⟨.val false [⟨.int .i64, .sh, TC.i i⟩], ⟨0, 0⟩⟩] => some (((slices_Equal_int64_int64_4_fin A C m i)).map slices_Equal_int64_int64_4_out)
  | _ => .none
noncomputable def slices_Equal_int64_int64_lo : LoopTeller := fun r s => bif Nat.beq r 4 then slices_Equal_int64_int64_lo4 s else .none
theorem slices_Equal_int64_int64_4_r (A C : List (List TC)) (m i : Int) (fuel : Nat) : rounds (rnd tab FT D35 live 140 slices_Equal_int64_int64_lo 0 4) leave (fuel + 1) (slices_Equal_int64_int64_4_sl (A, C, m, i)) = ((slices_Equal_int64_int64_4_step A C m i)).run (goOn (fun s => rounds (rnd tab FT D35 live 140 slices_Equal_int64_int64_lo 0 4) leave fuel (slices_Equal_int64_int64_4_sl s)) fun w => some (slices_Equal_int64_int64_4_out w)) := by kernel_rfl
theorem slices_Equal_int64_int64_4_h (A C : List (List TC)) (m i : Int) (ow : slices_Equal_int64_int64_4_ω) : ((slices_Equal_int64_int64_4_fin A C m i)).val = some ow → ∃ fuel, loopN slices_Equal_int64_int64_4_st fuel (A, C, m, i) = some ow := by
  intro h
  have key : A.length = C.length → Typed tab (.slice 2) (.l A) → loopN slices_Equal_int64_int64_4_st (A.length + 1) (A, C, (A.length : Int), 0) = some (if allEq E_2 A C = true then .inr () else .inl ()) := by
    intro hl ht
    have hlen : A.length ≤ 140737488351232 := by have := typed_room ht; simp only [show (tab 2).bytes = 8 from rfl] at this; omega
    refine loopN_allEq A C E_2 (fun i => (A, C, (A.length : Int), (i : Int))) _ _ hl (fun i hi => ?_) ?_ A.length 0 (by omega)
    · show (slices_Equal_int64_int64_4_step A C (A.length : Int) (i : Int)).val = _
      unfold slices_Equal_int64_int64_4_step
      refine Tr.t (by simp; omega) ?_
      refine Tr.t (by constructor <;> omega) ?_
      refine Tr.t (by constructor <;> omega) ?_
      rw [wrap64 (i := (i : Int) + 1) (by omega) (by omega)]
      rw [Tr.val_br]
      show (if (!(E_2 (A.getD i []) (C.getD i []))) = true then _ else _) = _
      cases E_2 (A.getD i []) (C.getD i []) <;> rfl
    · show (slices_Equal_int64_int64_4_step A C (A.length : Int) (A.length : Int)).val = _
      refine Tr.n (by simp) ?_
      rfl
  simp only [slices_Equal_int64_int64_4_fin, Told.val] at h
  cases hk : allEq E_2 A C with
  | true =>
    rw [if_pos (show slices_Equal_int64_int64_k4_1 A C m i = true from hk)] at h
    split at h
    · rename_i ho
      obtain ⟨hl, rfl, ht, rfl⟩ := is_iff.1 ho
      cases h
      refine ⟨_, (key hl ht).trans ?_⟩
      rw [hk]; rfl
    · cases h
  | false =>
    rw [if_neg (show ¬slices_Equal_int64_int64_k4_1 A C m i = true from by rw [show slices_Equal_int64_int64_k4_1 A C m i = allEq E_2 A C from rfl, hk]; simp)] at h
    split at h
    · rename_i ho
      obtain ⟨hl, rfl, ht, rfl⟩ := is_iff.1 ho
      cases h
      refine ⟨_, (key hl ht).trans ?_⟩
      rw [hk]; rfl
    · cases h
theorem slices_Equal_int64_int64_is4 : LoopIs tab FT D35 live 140 slices_Equal_int64_int64_lo 0 4 := by
  refine loop_told (sl := slices_Equal_int64_int64_4_sl) (step := slices_Equal_int64_int64_4_st) (out := slices_Equal_int64_int64_4_out) (lor := slices_Equal_int64_int64_lo4) (fin := fun x => (slices_Equal_int64_int64_4_fin (x.1) (x.2.1) (x.2.2.1) (x.2.2.2))) (fun _ => rfl) ?_ (fun x n => slices_Equal_int64_int64_4_r x.1 x.2.1 x.2.2.1 x.2.2.2 n) (fun x ow => slices_Equal_int64_int64_4_h x.1 x.2.1 x.2.2.1 x.2.2.2 ow)
  intro s t h
  unfold slices_Equal_int64_int64_lo4 at h
  split at h
  · cases h; exact ⟨(_, _, _, _), rfl, rfl⟩
  · cases h
noncomputable def slices_Equal_int64_int64_t (A C : List (List TC)) : Tr (Bool) := (.ite ((!((A.length : Int) == (C.length : Int))) = true) (.ok false)
  (.ite ((slices_Equal_int64_int64_k4_1 A C (A.length : Int) (0 : Int)) = true) (.ite ((slices_Equal_int64_int64_o4_2 A C (A.length : Int) (0 : Int)) = true) (.ok true)
    .no)
   (.ite ((slices_Equal_int64_int64_o4_3 A C (A.length : Int) (0 : Int)) = true) (.ok false)
    .no)))
def slices_Equal_int64_int64_mk (p : Bool) : Res := [(false, [⟨.bool, .sh, TC.b p⟩])]
noncomputable def slices_Equal_int64_int64_c (A C : List (List TC)) : Bool := is (Typed tab (.slice 2) (.l A))
noncomputable def slices_Equal_int64_int64_v (A C : List (List TC)) : Bool := allEq E_2 A C
theorem slices_Equal_int64_int64_l (A C : List (List TC)) : (slices_Equal_int64_int64_c A C) = true → (slices_Equal_int64_int64_t A C).val = some (slices_Equal_int64_int64_v A C) := by
  intro h
  have ht := is_iff.1 h
  unfold slices_Equal_int64_int64_t
  by_cases hl : A.length = C.length
  · refine Tr.n (by simp [hl]) ?_
    cases hk : allEq E_2 A C with
    | true =>
      refine Tr.t (show allEq E_2 A C = true from hk) ?_
      refine Tr.t (is_true ⟨hl, rfl, ht, rfl⟩) ?_
      show _ = some (allEq E_2 A C); rw [hk]; rfl
    | false =>
      refine Tr.n (show ¬allEq E_2 A C = true from by rw [hk]; simp) ?_
      refine Tr.t (is_true ⟨hl, rfl, ht, rfl⟩) ?_
      show _ = some (allEq E_2 A C); rw [hk]; rfl
  · refine Tr.t (by simp; omega) ?_
    show _ = some (allEq E_2 A C)
    rw [allEq_ne hl]
    rfl
noncomputable def slices_Equal_int64_int64_S : List Arg → Option (Bool × Res) := fun xs => match xs with
  | [(false, [(.slice 2, TC.l A)]), (false, [(.slice 2, TC.l C)])] => some ((slices_Equal_int64_int64_c A C), slices_Equal_int64_int64_mk (slices_Equal_int64_int64_v A C))
  | _ => .none
theorem slices_Equal_int64_int64_e (A C : List (List TC)) : runF tab FT D35 live 140 slices_Equal_int64_int64_lo [(false, [(.slice 2, TC.l A)]), (false, [(.slice 2, TC.l C)])] = (slices_Equal_int64_int64_t A C).run fun p => some (slices_Equal_int64_int64_mk p) := by kernel_rfl
theorem slices_Equal_int64_int64_s : ∀ xs r, slices_Equal_int64_int64_S xs = some (true, r) → runF tab FT D35 live 140 slices_Equal_int64_int64_lo xs = some r := by
  intro xs r h
  unfold slices_Equal_int64_int64_S at h
  split at h
  · simp only [Option.some.injEq, Prod.mk.injEq] at h
    obtain ⟨h1, rfl⟩ := h
    exact fun_told (slices_Equal_int64_int64_e _ _) (slices_Equal_int64_int64_l _ _) h1
  · cases h
noncomputable def D36 : Dt := also D35 140 slices_Equal_int64_int64_S
theorem d36 : DOk Go.Proofs.Try.prog tab D36 := d35.also mixed_ok tab_ok names_ok (fnLoops_one (by kernel_rfl) slices_Equal_int64_int64_is4) slices_Equal_int64_int64_s
/-! impl_SameType calls itself -/
theorem form_9 {A : List (List TC)} (h : Typed tab (.slice 9) (.l A)) {x : List TC} (hx : x ∈ A) : x = [TC.s (nth x 0).str] := by
  obtain ⟨hl, hk⟩ := typed_elem h hx
  have e0 : TC.s (nth x 0).str = nth x 0 := typed_str_eq (hk 0 (by decide))
  rw [e0]
  exact row_eta hl
theorem form_2 {A : List (List TC)} (h : Typed tab (.slice 2) (.l A)) {x : List TC} (hx : x ∈ A) : x = [TC.i (nth x 0).int] := by
  obtain ⟨hl, hk⟩ := typed_elem h hx
  have e0 : TC.i (nth x 0).int = nth x 0 := typed_int_eq (hk 0 (by decide))
  rw [e0]
  exact row_eta hl
theorem form_77 {A : List (List TC)} (h : Typed tab (.slice 77) (.l A)) {x : List TC} (hx : x ∈ A) : x = [TC.s (nth x 0).str, TC.i (nth x 1).int, TC.i (nth x 2).int, TC.i (nth x 3).int, TC.b (nth x 4).bool, TC.b (nth x 5).bool, TC.l (nth x 6).list, TC.l (nth x 7).list, TC.l (nth x 8).list, TC.l (nth x 9).list, TC.i (nth x 10).int] := by
  obtain ⟨hl, hk⟩ := typed_elem h hx
  have e0 : TC.s (nth x 0).str = nth x 0 := typed_str_eq (hk 0 (by decide))
  have e1 : TC.i (nth x 1).int = nth x 1 := typed_int_eq (hk 1 (by decide))
  have e2 : TC.i (nth x 2).int = nth x 2 := typed_int_eq (hk 2 (by decide))
  have e3 : TC.i (nth x 3).int = nth x 3 := typed_int_eq (hk 3 (by decide))
  have e4 : TC.b (nth x 4).bool = nth x 4 := typed_bool_eq (hk 4 (by decide))
  have e5 : TC.b (nth x 5).bool = nth x 5 := typed_bool_eq (hk 5 (by decide))
  have e6 : TC.l (nth x 6).list = nth x 6 := typed_list_eq (hk 6 (by decide))
  have e7 : TC.l (nth x 7).list = nth x 7 := typed_list_eq (hk 7 (by decide))
  have e8 : TC.l (nth x 8).list = nth x 8 := typed_list_eq (hk 8 (by decide))
  have e9 : TC.l (nth x 9).list = nth x 9 := typed_list_eq (hk 9 (by decide))
  have e10 : TC.i (nth x 10).int = nth x 10 := typed_int_eq (hk 10 (by decide))
  rw [e0, e1, e2, e3, e4, e5, e6, e7, e8, e9, e10]
  exact row_eta hl
theorem form_32 {A : List (List TC)} (h : Typed tab (.slice 32) (.l A)) {x : List TC} (hx : x ∈ A) : x = [TC.i (nth x 0).int, TC.i (nth x 1).int, TC.b (nth x 2).bool, TC.b (nth x 3).bool, TC.l (nth x 4).list, TC.l (nth x 5).list, TC.l (nth x 6).list, TC.l (nth x 7).list, TC.i (nth x 8).int] := by
  obtain ⟨hl, hk⟩ := typed_elem h hx
  have e0 : TC.i (nth x 0).int = nth x 0 := typed_int_eq (hk 0 (by decide))
  have e1 : TC.i (nth x 1).int = nth x 1 := typed_int_eq (hk 1 (by decide))
  have e2 : TC.b (nth x 2).bool = nth x 2 := typed_bool_eq (hk 2 (by decide))
  have e3 : TC.b (nth x 3).bool = nth x 3 := typed_bool_eq (hk 3 (by decide))
  have e4 : TC.l (nth x 4).list = nth x 4 := typed_list_eq (hk 4 (by decide))
  have e5 : TC.l (nth x 5).list = nth x 5 := typed_list_eq (hk 5 (by decide))
  have e6 : TC.l (nth x 6).list = nth x 6 := typed_list_eq (hk 6 (by decide))
  have e7 : TC.l (nth x 7).list = nth x 7 := typed_list_eq (hk 7 (by decide))
  have e8 : TC.i (nth x 8).int = nth x 8 := typed_int_eq (hk 8 (by decide))
  rw [e0, e1, e2, e3, e4, e5, e6, e7, e8]
  exact row_eta hl
section
class impl_SameType_O where n : Nat
variable [i_impl_SameType : impl_SameType_O]
noncomputable def impl_SameType_rc (k s : Int) (sg bg : Bool) (NA NU ME BA : List (List TC)) (ct k2 s2 : Int) (sg2 bg2 : Bool) (NA2 NU2 ME2 BA2 : List (List TC)) (ct2 : Int) : Bool := is (max (rowsDep ME) (rowsDep BA) < impl_SameType_O.n ∧ Typed tab (.slice 9) (.l NA) ∧ Typed tab (.slice 2) (.l NU) ∧ Typed tab (.slice 77) (.l ME) ∧ Typed tab (.slice 32) (.l BA) ∧ Typed tab (.slice 9) (.l NA2) ∧ Typed tab (.slice 2) (.l NU2) ∧ Typed tab (.slice 77) (.l ME2) ∧ Typed tab (.slice 32) (.l BA2))
noncomputable def impl_SameType_rv (k s : Int) (sg bg : Bool) (NA NU ME BA : List (List TC)) (ct k2 s2 : Int) (sg2 bg2 : Bool) (NA2 NU2 ME2 BA2 : List (List TC)) (ct2 : Int) : Bool := sameV k s sg bg NA NU ME BA ct k2 s2 sg2 bg2 NA2 NU2 ME2 BA2 ct2
def impl_SameType_rmk (p : Bool) : Res := [(false, [⟨.bool, .sh, TC.b p⟩])]
noncomputable def impl_SameType_rS : List Arg → Option (Bool × Res) := fun xs => match xs with
  | [(true, [(.int .i64, TC.i k), (.int .i64, TC.i s), (.bool, TC.b sg), (.bool, TC.b bg), (.slice 9, TC.l NA), (.slice 2, TC.l NU), (.slice 77, TC.l ME), (.slice 32, TC.l BA), (.int .i64, TC.i ct)]), (true, [(.int .i64, TC.i k2), (.int .i64, TC.i s2), (.bool, TC.b sg2), (.bool, TC.b bg2), (.slice 9, TC.l NA2), (.slice 2, TC.l NU2), (.slice 77, TC.l ME2), (.slice 32, TC.l BA2), (.int .i64, TC.i ct2)])] => some ((impl_SameType_rc k s sg bg NA NU ME BA ct k2 s2 sg2 bg2 NA2 NU2 ME2 BA2 ct2), impl_SameType_rmk (impl_SameType_rv k s sg bg NA NU ME BA ct k2 s2 sg2 bg2 NA2 NU2 ME2 BA2 ct2))
  | _ => .none
noncomputable def D37 : Dt := also D36 112 impl_SameType_rS
class impl_SameType_G : Prop where ok : DOk Go.Proofs.Try.prog tab D37
variable [g_impl_SameType : impl_SameType_G]
theorem d37 : DOk Go.Proofs.Try.prog tab D37 := impl_SameType_G.ok
/-! impl_sameMember -/
noncomputable def impl_sameMember_t (a0 : List UInt8) (a1 a2 a3 : Int) (a4 a5 : Bool) (a6 a7 a8 a9 : List (List TC)) (a10 : Int) (a11 : List UInt8) (a12 a13 a14 : Int) (a15 a16 : Bool) (a17 a18 a19 a20 : List (List TC)) (a21 : Int) : Tr (Bool) := (.ite ((a0 == a11) = true) (.ite ((a1 == a12) = true) (.ite ((impl_SameType_rc a2 a3 a4 a5 a6 a7 a8 a9 a10 a13 a14 a15 a16 a17 a18 a19 a20 a21) = true) (.ok (impl_SameType_rv a2 a3 a4 a5 a6 a7 a8 a9 a10 a13 a14 a15 a16 a17 a18 a19 a20 a21))
    .no)
   (.ok false))
  (.ok false))
def impl_sameMember_mk (p : Bool) : Res := [(false, [⟨.bool, .sh, TC.b p⟩])]
noncomputable def impl_sameMember_c (a0 : List UInt8) (a1 a2 a3 : Int) (a4 a5 : Bool) (a6 a7 a8 a9 : List (List TC)) (a10 : Int) (a11 : List UInt8) (a12 a13 a14 : Int) (a15 a16 : Bool) (a17 a18 a19 a20 : List (List TC)) (a21 : Int) : Bool := (bif (a0 == a11) then (bif (a1 == a12) then ((impl_SameType_rc a2 a3 a4 a5 a6 a7 a8 a9 a10 a13 a14 a15 a16 a17 a18 a19 a20 a21) && true) else true) else true)
noncomputable def impl_sameMember_v (a0 : List UInt8) (a1 a2 a3 : Int) (a4 a5 : Bool) (a6 a7 a8 a9 : List (List TC)) (a10 : Int) (a11 : List UInt8) (a12 a13 a14 : Int) (a15 a16 : Bool) (a17 a18 a19 a20 : List (List TC)) (a21 : Int) : Bool := (bif (a0 == a11) then (bif (a1 == a12) then (impl_SameType_rv a2 a3 a4 a5 a6 a7 a8 a9 a10 a13 a14 a15 a16 a17 a18 a19 a20 a21) else false) else false)
theorem impl_sameMember_l (a0 : List UInt8) (a1 a2 a3 : Int) (a4 a5 : Bool) (a6 a7 a8 a9 : List (List TC)) (a10 : Int) (a11 : List UInt8) (a12 a13 a14 : Int) (a15 a16 : Bool) (a17 a18 a19 a20 : List (List TC)) (a21 : Int) : (impl_sameMember_c a0 a1 a2 a3 a4 a5 a6 a7 a8 a9 a10 a11 a12 a13 a14 a15 a16 a17 a18 a19 a20 a21) = true → (impl_sameMember_t a0 a1 a2 a3 a4 a5 a6 a7 a8 a9 a10 a11 a12 a13 a14 a15 a16 a17 a18 a19 a20 a21).val = some (impl_sameMember_v a0 a1 a2 a3 a4 a5 a6 a7 a8 a9 a10 a11 a12 a13 a14 a15 a16 a17 a18 a19 a20 a21) := by
  unfold impl_sameMember_t impl_sameMember_v impl_sameMember_c
  exact fun h => (Tr.ss h (fun h => (Tr.ss h (fun h => (Tr.gb h fun h => rfl)) (fun h => rfl))) (fun h => rfl))
noncomputable def impl_sameMember_S : List Arg → Option (Bool × Res) := fun xs => match xs with
  | [(true, [(.str, TC.s a0), (.int .i64, TC.i a1), (.int .i64, TC.i a2), (.int .i64, TC.i a3), (.bool, TC.b a4), (.bool, TC.b a5), (.slice 9, TC.l a6), (.slice 2, TC.l a7), (.slice 77, TC.l a8), (.slice 32, TC.l a9), (.int .i64, TC.i a10)]), (true, [(.str, TC.s a11), (.int .i64, TC.i a12), (.int .i64, TC.i a13), (.int .i64, TC.i a14), (.bool, TC.b a15), (.bool, TC.b a16), (.slice 9, TC.l a17), (.slice 2, TC.l a18), (.slice 77, TC.l a19), (.slice 32, TC.l a20), (.int .i64, TC.i a21)])] => some ((impl_sameMember_c a0 a1 a2 a3 a4 a5 a6 a7 a8 a9 a10 a11 a12 a13 a14 a15 a16 a17 a18 a19 a20 a21), impl_sameMember_mk (impl_sameMember_v a0 a1 a2 a3 a4 a5 a6 a7 a8 a9 a10 a11 a12 a13 a14 a15 a16 a17 a18 a19 a20 a21))
  | _ => .none
theorem impl_sameMember_e (a0 : List UInt8) (a1 a2 a3 : Int) (a4 a5 : Bool) (a6 a7 a8 a9 : List (List TC)) (a10 : Int) (a11 : List UInt8) (a12 a13 a14 : Int) (a15 a16 : Bool) (a17 a18 a19 a20 : List (List TC)) (a21 : Int) : runF tab FT D37 live 142 noLoops [(true, [(.str, TC.s a0), (.int .i64, TC.i a1), (.int .i64, TC.i a2), (.int .i64, TC.i a3), (.bool, TC.b a4), (.bool, TC.b a5), (.slice 9, TC.l a6), (.slice 2, TC.l a7), (.slice 77, TC.l a8), (.slice 32, TC.l a9), (.int .i64, TC.i a10)]), (true, [(.str, TC.s a11), (.int .i64, TC.i a12), (.int .i64, TC.i a13), (.int .i64, TC.i a14), (.bool, TC.b a15), (.bool, TC.b a16), (.slice 9, TC.l a17), (.slice 2, TC.l a18), (.slice 77, TC.l a19), (.slice 32, TC.l a20), (.int .i64, TC.i a21)])] = (impl_sameMember_t a0 a1 a2 a3 a4 a5 a6 a7 a8 a9 a10 a11 a12 a13 a14 a15 a16 a17 a18 a19 a20 a21).run fun p => some (impl_sameMember_mk p) := by kernel_rfl
theorem impl_sameMember_s : ∀ xs r, impl_sameMember_S xs = some (true, r) → runF tab FT D37 live 142 noLoops xs = some r := by
  intro xs r h
  unfold impl_sameMember_S at h
  split at h
  · simp only [Option.some.injEq, Prod.mk.injEq] at h
    obtain ⟨h1, rfl⟩ := h
    exact fun_told (impl_sameMember_e _ _ _ _ _ _ _ _ _ _ _ _ _ _ _ _ _ _ _ _ _ _) (impl_sameMember_l _ _ _ _ _ _ _ _ _ _ _ _ _ _ _ _ _ _ _ _ _ _) h1
  · cases h
noncomputable def D38 : Dt := also D37 142 impl_sameMember_S
theorem d38 : DOk Go.Proofs.Try.prog tab D38 := d37.also mixed_ok tab_ok names_ok noLoops_ok impl_sameMember_s
/-! slices_EqualFunc_impl_Member_impl_Member_impl_Member_impl_Member -/
noncomputable def slices_EqualFunc_impl_Member_impl_Member_impl_Member_impl_Member_E (x y : List TC) : Bool := impl_sameMember_v ((nth x 0).str) ((nth x 1).int) ((nth x 2).int) ((nth x 3).int) ((nth x 4).bool) ((nth x 5).bool) ((nth x 6).list) ((nth x 7).list) ((nth x 8).list) ((nth x 9).list) ((nth x 10).int) ((nth y 0).str) ((nth y 1).int) ((nth y 2).int) ((nth y 3).int) ((nth y 4).bool) ((nth y 5).bool) ((nth y 6).list) ((nth y 7).list) ((nth y 8).list) ((nth y 9).list) ((nth y 10).int)
abbrev slices_EqualFunc_impl_Member_impl_Member_impl_Member_impl_Member_4_σ := List (List TC) × List (List TC) × Int × Int
abbrev slices_EqualFunc_impl_Member_impl_Member_impl_Member_impl_Member_4_ω := (Unit) ⊕ (Unit)
noncomputable def slices_EqualFunc_impl_Member_impl_Member_impl_Member_impl_Member_4_step (C A : List (List TC)) (m i : Int) : Tr (slices_EqualFunc_impl_Member_impl_Member_impl_Member_impl_Member_4_σ ⊕ slices_EqualFunc_impl_Member_impl_Member_impl_Member_impl_Member_4_ω) := (.ite ((decide (i < m)) = true) (.ite ((0 : Int) ≤ i ∧ i < (A.length : Int)) (.ite ((0 : Int) ≤ i ∧ i < (C.length : Int)) (.ite ((impl_sameMember_c ((nth (row A i) 0).str) ((nth (row A i) 1).int) ((nth (row A i) 2).int) ((nth (row A i) 3).int) ((nth (row A i) 4).bool) ((nth (row A i) 5).bool) ((nth (row A i) 6).list) ((nth (row A i) 7).list) ((nth (row A i) 8).list) ((nth (row A i) 9).list) ((nth (row A i) 10).int) ((nth (row C i) 0).str) ((nth (row C i) 1).int) ((nth (row C i) 2).int) ((nth (row C i) 3).int) ((nth (row C i) 4).bool) ((nth (row C i) 5).bool) ((nth (row C i) 6).list) ((nth (row C i) 7).list) ((nth (row C i) 8).list) ((nth (row C i) 9).list) ((nth (row C i) 10).int)) = true) (.ite ((!(impl_sameMember_v ((nth (row A i) 0).str) ((nth (row A i) 1).int) ((nth (row A i) 2).int) ((nth (row A i) 3).int) ((nth (row A i) 4).bool) ((nth (row A i) 5).bool) ((nth (row A i) 6).list) ((nth (row A i) 7).list) ((nth (row A i) 8).list) ((nth (row A i) 9).list) ((nth (row A i) 10).int) ((nth (row C i) 0).str) ((nth (row C i) 1).int) ((nth (row C i) 2).int) ((nth (row C i) 3).int) ((nth (row C i) 4).bool) ((nth (row C i) 5).bool) ((nth (row C i) 6).list) ((nth (row C i) 7).list) ((nth (row C i) 8).list) ((nth (row C i) 9).list) ((nth (row C i) 10).int))) = true) (.ok (.inr (.inl ())))
      (.ok (.inl (C, A, m, (IntKind.wrap .i64 (i + (1 : Int)))))))
     .no)
    .no)
   .no)
  (.ok (.inr (.inr ()))))
noncomputable def slices_EqualFunc_impl_Member_impl_Member_impl_Member_impl_Member_4_st : slices_EqualFunc_impl_Member_impl_Member_impl_Member_impl_Member_4_σ → Tr (slices_EqualFunc_impl_Member_impl_Member_impl_Member_impl_Member_4_σ ⊕ slices_EqualFunc_impl_Member_impl_Member_impl_Member_impl_Member_4_ω) := fun x => (slices_EqualFunc_impl_Member_impl_Member_impl_Member_impl_Member_4_step (x.1) (x.2.1) (x.2.2.1) (x.2.2.2))
noncomputable def slices_EqualFunc_impl_Member_impl_Member_impl_Member_impl_Member_k4_1 (C A : List (List TC)) (m i : Int) : Bool := allEq slices_EqualFunc_impl_Member_impl_Member_impl_Member_impl_Member_E A C
noncomputable def slices_EqualFunc_impl_Member_impl_Member_impl_Member_impl_Member_o4_2 (C A : List (List TC)) (m i : Int) : Bool := is (A.length = C.length ∧ i = 0 ∧ Typed tab (.slice 77) (.l A) ∧ m = (A.length : Int) ∧ (∀ x y : List TC, x ∈ A → y ∈ C → impl_sameMember_c ((nth x 0).str) ((nth x 1).int) ((nth x 2).int) ((nth x 3).int) ((nth x 4).bool) ((nth x 5).bool) ((nth x 6).list) ((nth x 7).list) ((nth x 8).list) ((nth x 9).list) ((nth x 10).int) ((nth y 0).str) ((nth y 1).int) ((nth y 2).int) ((nth y 3).int) ((nth y 4).bool) ((nth y 5).bool) ((nth y 6).list) ((nth y 7).list) ((nth y 8).list) ((nth y 9).list) ((nth y 10).int) = true))
noncomputable def slices_EqualFunc_impl_Member_impl_Member_impl_Member_impl_Member_o4_3 (C A : List (List TC)) (m i : Int) : Bool := is (A.length = C.length ∧ i = 0 ∧ Typed tab (.slice 77) (.l A) ∧ m = (A.length : Int) ∧ (∀ x y : List TC, x ∈ A → y ∈ C → impl_sameMember_c ((nth x 0).str) ((nth x 1).int) ((nth x 2).int) ((nth x 3).int) ((nth x 4).bool) ((nth x 5).bool) ((nth x 6).list) ((nth x 7).list) ((nth x 8).list) ((nth x 9).list) ((nth x 10).int) ((nth y 0).str) ((nth y 1).int) ((nth y 2).int) ((nth y 3).int) ((nth y 4).bool) ((nth y 5).bool) ((nth y 6).list) ((nth y 7).list) ((nth y 8).list) ((nth y 9).list) ((nth y 10).int) = true))
noncomputable def slices_EqualFunc_impl_Member_impl_Member_impl_Member_impl_Member_4_fin (C A : List (List TC)) (m i : Int) : Told slices_EqualFunc_impl_Member_impl_Member_impl_Member_impl_Member_4_ω := (.br (slices_EqualFunc_impl_Member_impl_Member_impl_Member_impl_Member_k4_1 C A m i) (.leaf (slices_EqualFunc_impl_Member_impl_Member_impl_Member_impl_Member_o4_2 C A m i) (.inr ())) (.leaf (slices_EqualFunc_impl_Member_impl_Member_impl_Member_impl_Member_o4_3 C A m i) (.inl ())))
def slices_EqualFunc_impl_Member_impl_Member_impl_Member_impl_Member_4_sl (x : slices_EqualFunc_impl_Member_impl_Member_impl_Member_impl_Member_4_σ) : List Slot := [⟨.val false [⟨.slice 77, .sh, TC.l (x.1)⟩], ⟨0, 0⟩⟩, ⟨.val false [⟨.func, .sh, TC.f 142 []⟩], ⟨0, 0⟩⟩, ⟨.val false [⟨.slice 77, .sh, TC.l (x.2.1)⟩], ⟨0, 0⟩⟩, ⟨.val false [⟨.int .i64, .sh, TC.i (x.2.2.1)⟩], ⟨0, 0⟩⟩, ⟨.val false [⟨.int .i64, .sh, TC.i (x.2.2.2)⟩], ⟨0, 0⟩⟩]
def slices_EqualFunc_impl_Member_impl_Member_impl_Member_impl_Member_4_out : slices_EqualFunc_impl_Member_impl_Member_impl_Member_impl_Member_4_ω → Ex × List Slot := (Sum.elim (fun x => (.ret, [⟨.val false [⟨.bool, .sh, TC.b false⟩], ⟨0, 0⟩⟩])) (fun x => (.exit 0, [Slot.none])))
noncomputable def slices_EqualFunc_impl_Member_impl_Member_impl_Member_impl_Member_lo4 : List Slot → Option (Told (Ex × List Slot)) := fun s => match s with
  | [⟨.val false [⟨.slice 77, .sh, TC.l C⟩], ⟨0, 0⟩⟩, ⟨.val false [⟨.func, .sh, TC.f 142 []⟩], ⟨0, 0⟩⟩, ⟨.val false [⟨.slice 77, .sh, TC.l A⟩], ⟨0, 0⟩⟩, ⟨.val false [⟨.int .i64, .sh, TC.i m⟩], ⟨0, 0⟩⟩, ⟨.val false [⟨.int .i64, .sh, TC.i i⟩], ⟨0, 0⟩⟩] => some (((slices_EqualFunc_impl_Member_impl_Member_impl_Member_impl_Member_4_fin C A m i)).map slices_EqualFunc_impl_Member_impl_Member_impl_Member_impl_Member_4_out)
  | _ => .none
noncomputable def slices_EqualFunc_impl_Member_impl_Member_impl_Member_impl_Member_lo : LoopTeller := fun r s => bif Nat.beq r 4 then slices_EqualFunc_impl_Member_impl_Member_impl_Member_impl_Member_lo4 s else .none
theorem slices_EqualFunc_impl_Member_impl_Member_impl_Member_impl_Member_4_r (C A : List (List TC)) (m i : Int) (fuel : Nat) : rounds (rnd tab FT D38 live 141 slices_EqualFunc_impl_Member_impl_Member_impl_Member_impl_Member_lo 0 4) leave (fuel + 1) (slices_EqualFunc_impl_Member_impl_Member_impl_Member_impl_Member_4_sl (C, A, m, i)) = ((slices_EqualFunc_impl_Member_impl_Member_impl_Member_impl_Member_4_step C A m i)).run (goOn (fun s => rounds (rnd tab FT D38 live 141 slices_EqualFunc_impl_Member_impl_Member_impl_Member_impl_Member_lo 0 4) leave fuel (slices_EqualFunc_impl_Member_impl_Member_impl_Member_impl_Member_4_sl s)) fun w => some (slices_EqualFunc_impl_Member_impl_Member_impl_Member_impl_Member_4_out w)) := by kernel_rfl
theorem slices_EqualFunc_impl_Member_impl_Member_impl_Member_impl_Member_4_h (C A : List (List TC)) (m i : Int) (ow : slices_EqualFunc_impl_Member_impl_Member_impl_Member_impl_Member_4_ω) : ((slices_EqualFunc_impl_Member_impl_Member_impl_Member_impl_Member_4_fin C A m i)).val = some ow → ∃ fuel, loopN slices_EqualFunc_impl_Member_impl_Member_impl_Member_impl_Member_4_st fuel (C, A, m, i) = some ow := by
  intro h
  have key : A.length = C.length → Typed tab (.slice 77) (.l A) → (∀ x y : List TC, x ∈ A → y ∈ C → impl_sameMember_c ((nth x 0).str) ((nth x 1).int) ((nth x 2).int) ((nth x 3).int) ((nth x 4).bool) ((nth x 5).bool) ((nth x 6).list) ((nth x 7).list) ((nth x 8).list) ((nth x 9).list) ((nth x 10).int) ((nth y 0).str) ((nth y 1).int) ((nth y 2).int) ((nth y 3).int) ((nth y 4).bool) ((nth y 5).bool) ((nth y 6).list) ((nth y 7).list) ((nth y 8).list) ((nth y 9).list) ((nth y 10).int) = true) → loopN slices_EqualFunc_impl_Member_impl_Member_impl_Member_impl_Member_4_st (A.length + 1) (C, A, (A.length : Int), 0) = some (if allEq slices_EqualFunc_impl_Member_impl_Member_impl_Member_impl_Member_E A C = true then .inr () else .inl ()) := by
    intro hl ht hr
    have hlen : A.length ≤ 140737488351232 := by have := typed_room ht; simp only [show (tab 77).bytes = 152 from rfl] at this; omega
    refine loopN_allEq A C slices_EqualFunc_impl_Member_impl_Member_impl_Member_impl_Member_E (fun i => (C, A, (A.length : Int), (i : Int))) _ _ hl (fun i hi => ?_) ?_ A.length 0 (by omega)
    · show (slices_EqualFunc_impl_Member_impl_Member_impl_Member_impl_Member_4_step C A (A.length : Int) (i : Int)).val = _
      unfold slices_EqualFunc_impl_Member_impl_Member_impl_Member_impl_Member_4_step
      refine Tr.t (by simp; omega) ?_
      refine Tr.t (by constructor <;> omega) ?_
      refine Tr.t (by constructor <;> omega) ?_
      refine Tr.t (hr _ _ (mem_getD hi) (mem_getD (by omega))) ?_
      rw [wrap64 (i := (i : Int) + 1) (by omega) (by omega)]
      rw [Tr.val_br]
      show (if (!(slices_EqualFunc_impl_Member_impl_Member_impl_Member_impl_Member_E (A.getD i []) (C.getD i []))) = true then _ else _) = _
      cases slices_EqualFunc_impl_Member_impl_Member_impl_Member_impl_Member_E (A.getD i []) (C.getD i []) <;> rfl
    · show (slices_EqualFunc_impl_Member_impl_Member_impl_Member_impl_Member_4_step C A (A.length : Int) (A.length : Int)).val = _
      refine Tr.n (by simp) ?_
      rfl
  simp only [slices_EqualFunc_impl_Member_impl_Member_impl_Member_impl_Member_4_fin, Told.val] at h
  cases hk : allEq slices_EqualFunc_impl_Member_impl_Member_impl_Member_impl_Member_E A C with
  | true =>
    rw [if_pos (show slices_EqualFunc_impl_Member_impl_Member_impl_Member_impl_Member_k4_1 C A m i = true from hk)] at h
    split at h
    · rename_i ho
      obtain ⟨hl, rfl, ht, rfl, hr⟩ := is_iff.1 ho
      cases h
      refine ⟨_, (key hl ht hr).trans ?_⟩
      rw [hk]; rfl
    · cases h
  | false =>
    rw [if_neg (show ¬slices_EqualFunc_impl_Member_impl_Member_impl_Member_impl_Member_k4_1 C A m i = true from by rw [show slices_EqualFunc_impl_Member_impl_Member_impl_Member_impl_Member_k4_1 C A m i = allEq slices_EqualFunc_impl_Member_impl_Member_impl_Member_impl_Member_E A C from rfl, hk]; simp)] at h
    split at h
    · rename_i ho
      obtain ⟨hl, rfl, ht, rfl, hr⟩ := is_iff.1 ho
      cases h
      refine ⟨_, (key hl ht hr).trans ?_⟩
      rw [hk]; rfl
    · cases h
theorem slices_EqualFunc_impl_Member_impl_Member_impl_Member_impl_Member_is4 : LoopIs tab FT D38 live 141 slices_EqualFunc_impl_Member_impl_Member_impl_Member_impl_Member_lo 0 4 := by
  refine loop_told (sl := slices_EqualFunc_impl_Member_impl_Member_impl_Member_impl_Member_4_sl) (step := slices_EqualFunc_impl_Member_impl_Member_impl_Member_impl_Member_4_st) (out := slices_EqualFunc_impl_Member_impl_Member_impl_Member_impl_Member_4_out) (lor := slices_EqualFunc_impl_Member_impl_Member_impl_Member_impl_Member_lo4) (fin := fun x => (slices_EqualFunc_impl_Member_impl_Member_impl_Member_impl_Member_4_fin (x.1) (x.2.1) (x.2.2.1) (x.2.2.2))) (fun _ => rfl) ?_ (fun x n => slices_EqualFunc_impl_Member_impl_Member_impl_Member_impl_Member_4_r x.1 x.2.1 x.2.2.1 x.2.2.2 n) (fun x ow => slices_EqualFunc_impl_Member_impl_Member_impl_Member_impl_Member_4_h x.1 x.2.1 x.2.2.1 x.2.2.2 ow)
  intro s t h
  unfold slices_EqualFunc_impl_Member_impl_Member_impl_Member_impl_Member_lo4 at h
  split at h
  · cases h; exact ⟨(_, _, _, _), rfl, rfl⟩
  · cases h
noncomputable def slices_EqualFunc_impl_Member_impl_Member_impl_Member_impl_Member_t (A C : List (List TC)) : Tr (Bool) := (.ite ((!((A.length : Int) == (C.length : Int))) = true) (.ok false)
  (.ite ((slices_EqualFunc_impl_Member_impl_Member_impl_Member_impl_Member_k4_1 C A (A.length : Int) (0 : Int)) = true) (.ite ((slices_EqualFunc_impl_Member_impl_Member_impl_Member_impl_Member_o4_2 C A (A.length : Int) (0 : Int)) = true) (.ok true)
    .no)
   (.ite ((slices_EqualFunc_impl_Member_impl_Member_impl_Member_impl_Member_o4_3 C A (A.length : Int) (0 : Int)) = true) (.ok false)
    .no)))
def slices_EqualFunc_impl_Member_impl_Member_impl_Member_impl_Member_mk (p : Bool) : Res := [(false, [⟨.bool, .sh, TC.b p⟩])]
noncomputable def slices_EqualFunc_impl_Member_impl_Member_impl_Member_impl_Member_c (A C : List (List TC)) : Bool := is (Typed tab (.slice 77) (.l A) ∧ (∀ x y : List TC, x ∈ A → y ∈ C → impl_sameMember_c ((nth x 0).str) ((nth x 1).int) ((nth x 2).int) ((nth x 3).int) ((nth x 4).bool) ((nth x 5).bool) ((nth x 6).list) ((nth x 7).list) ((nth x 8).list) ((nth x 9).list) ((nth x 10).int) ((nth y 0).str) ((nth y 1).int) ((nth y 2).int) ((nth y 3).int) ((nth y 4).bool) ((nth y 5).bool) ((nth y 6).list) ((nth y 7).list) ((nth y 8).list) ((nth y 9).list) ((nth y 10).int) = true))
noncomputable def slices_EqualFunc_impl_Member_impl_Member_impl_Member_impl_Member_v (A C : List (List TC)) : Bool := allEq slices_EqualFunc_impl_Member_impl_Member_impl_Member_impl_Member_E A C
theorem slices_EqualFunc_impl_Member_impl_Member_impl_Member_impl_Member_l (A C : List (List TC)) : (slices_EqualFunc_impl_Member_impl_Member_impl_Member_impl_Member_c A C) = true → (slices_EqualFunc_impl_Member_impl_Member_impl_Member_impl_Member_t A C).val = some (slices_EqualFunc_impl_Member_impl_Member_impl_Member_impl_Member_v A C) := by
  intro h
  obtain ⟨ht, hr⟩ := is_iff.1 h
  unfold slices_EqualFunc_impl_Member_impl_Member_impl_Member_impl_Member_t
  by_cases hl : A.length = C.length
  · refine Tr.n (by simp [hl]) ?_
    cases hk : allEq slices_EqualFunc_impl_Member_impl_Member_impl_Member_impl_Member_E A C with
    | true =>
      refine Tr.t (show allEq slices_EqualFunc_impl_Member_impl_Member_impl_Member_impl_Member_E A C = true from hk) ?_
      refine Tr.t (is_true ⟨hl, rfl, ht, rfl, hr⟩) ?_
      show _ = some (allEq slices_EqualFunc_impl_Member_impl_Member_impl_Member_impl_Member_E A C); rw [hk]; rfl
    | false =>
      refine Tr.n (show ¬allEq slices_EqualFunc_impl_Member_impl_Member_impl_Member_impl_Member_E A C = true from by rw [hk]; simp) ?_
      refine Tr.t (is_true ⟨hl, rfl, ht, rfl, hr⟩) ?_
      show _ = some (allEq slices_EqualFunc_impl_Member_impl_Member_impl_Member_impl_Member_E A C); rw [hk]; rfl
  · refine Tr.t (by simp; omega) ?_
    show _ = some (allEq slices_EqualFunc_impl_Member_impl_Member_impl_Member_impl_Member_E A C)
    rw [allEq_ne hl]; rfl
noncomputable def slices_EqualFunc_impl_Member_impl_Member_impl_Member_impl_Member_S : List Arg → Option (Bool × Res) := fun xs => match xs with
  | [(false, [(.slice 77, TC.l A)]), (false, [(.slice 77, TC.l C)]), (false, [(.func, TC.f 142 [])])] => some ((slices_EqualFunc_impl_Member_impl_Member_impl_Member_impl_Member_c A C), slices_EqualFunc_impl_Member_impl_Member_impl_Member_impl_Member_mk (slices_EqualFunc_impl_Member_impl_Member_impl_Member_impl_Member_v A C))
  | _ => .none
theorem slices_EqualFunc_impl_Member_impl_Member_impl_Member_impl_Member_e (A C : List (List TC)) : runF tab FT D38 live 141 slices_EqualFunc_impl_Member_impl_Member_impl_Member_impl_Member_lo [(false, [(.slice 77, TC.l A)]), (false, [(.slice 77, TC.l C)]), (false, [(.func, TC.f 142 [])])] = (slices_EqualFunc_impl_Member_impl_Member_impl_Member_impl_Member_t A C).run fun p => some (slices_EqualFunc_impl_Member_impl_Member_impl_Member_impl_Member_mk p) := by kernel_rfl
theorem slices_EqualFunc_impl_Member_impl_Member_impl_Member_impl_Member_s : ∀ xs r, slices_EqualFunc_impl_Member_impl_Member_impl_Member_impl_Member_S xs = some (true, r) → runF tab FT D38 live 141 slices_EqualFunc_impl_Member_impl_Member_impl_Member_impl_Member_lo xs = some r := by
  intro xs r h
  unfold slices_EqualFunc_impl_Member_impl_Member_impl_Member_impl_Member_S at h
  split at h
  · simp only [Option.some.injEq, Prod.mk.injEq] at h
    obtain ⟨h1, rfl⟩ := h
    exact fun_told (slices_EqualFunc_impl_Member_impl_Member_impl_Member_impl_Member_e _ _) (slices_EqualFunc_impl_Member_impl_Member_impl_Member_impl_Member_l _ _) h1
  · cases h
noncomputable def D39 : Dt := also D38 141 slices_EqualFunc_impl_Member_impl_Member_impl_Member_impl_Member_S
theorem d39 : DOk Go.Proofs.Try.prog tab D39 := d38.also mixed_ok tab_ok names_ok (fnLoops_one (by kernel_rfl) slices_EqualFunc_impl_Member_impl_Member_impl_Member_impl_Member_is4) slices_EqualFunc_impl_Member_impl_Member_impl_Member_impl_Member_s
/-! slices_EqualFunc_impl_Type_impl_Type_impl_Type_impl_Type -/
noncomputable def slices_EqualFunc_impl_Type_impl_Type_impl_Type_impl_Type_E (x y : List TC) : Bool := impl_SameType_rv ((nth x 0).int) ((nth x 1).int) ((nth x 2).bool) ((nth x 3).bool) ((nth x 4).list) ((nth x 5).list) ((nth x 6).list) ((nth x 7).list) ((nth x 8).int) ((nth y 0).int) ((nth y 1).int) ((nth y 2).bool) ((nth y 3).bool) ((nth y 4).list) ((nth y 5).list) ((nth y 6).list) ((nth y 7).list) ((nth y 8).int)
abbrev slices_EqualFunc_impl_Type_impl_Type_impl_Type_impl_Type_4_σ := List (List TC) × List (List TC) × Int × Int
abbrev slices_EqualFunc_impl_Type_impl_Type_impl_Type_impl_Type_4_ω := (Unit) ⊕ (Unit)
noncomputable def slices_EqualFunc_impl_Type_impl_Type_impl_Type_impl_Type_4_step (C A : List (List TC)) (m i : Int) : Tr (slices_EqualFunc_impl_Type_impl_Type_impl_Type_impl_Type_4_σ ⊕ slices_EqualFunc_impl_Type_impl_Type_impl_Type_impl_Type_4_ω) := (.ite ((decide (i < m)) = true) (.ite ((0 : Int) ≤ i ∧ i < (A.length : Int)) (.ite ((0 : Int) ≤ i ∧ i < (C.length : Int)) (.ite ((impl_SameType_rc ((nth (row A i) 0).int) ((nth (row A i) 1).int) ((nth (row A i) 2).bool) ((nth (row A i) 3).bool) ((nth (row A i) 4).list) ((nth (row A i) 5).list) ((nth (row A i) 6).list) ((nth (row A i) 7).list) ((nth (row A i) 8).int) ((nth (row C i) 0).int) ((nth (row C i) 1).int) ((nth (row C i) 2).bool) ((nth (row C i) 3).bool) ((nth (row C i) 4).list) ((nth (row C i) 5).list) ((nth (row C i) 6).list) ((nth (row C i) 7).list) ((nth (row C i) 8).int)) = true) (.ite ((!(impl_SameType_rv ((nth (row A i) 0).int) ((nth (row A i) 1).int) ((nth (row A i) 2).bool) ((nth (row A i) 3).bool) ((nth (row A i) 4).list) ((nth (row A i) 5).list) ((nth (row A i) 6).list) ((nth (row A i) 7).list) ((nth (row A i) 8).int) ((nth (row C i) 0).int) ((nth (row C i) 1).int) ((nth (row C i) 2).bool) ((nth (row C i) 3).bool) ((nth (row C i) 4).list) ((nth (row C i) 5).list) ((nth (row C i) 6).list) ((nth (row C i) 7).list) ((nth (row C i) 8).int))) = true) (.ok (.inr (.inl ())))
      (.ok (.inl (C, A, m, (IntKind.wrap .i64 (i + (1 : Int)))))))
     .no)
    .no)
   .no)
  (.ok (.inr (.inr ()))))
noncomputable def slices_EqualFunc_impl_Type_impl_Type_impl_Type_impl_Type_4_st : slices_EqualFunc_impl_Type_impl_Type_impl_Type_impl_Type_4_σ → Tr (slices_EqualFunc_impl_Type_impl_Type_impl_Type_impl_Type_4_σ ⊕ slices_EqualFunc_impl_Type_impl_Type_impl_Type_impl_Type_4_ω) := fun x => (slices_EqualFunc_impl_Type_impl_Type_impl_Type_impl_Type_4_step (x.1) (x.2.1) (x.2.2.1) (x.2.2.2))
noncomputable def slices_EqualFunc_impl_Type_impl_Type_impl_Type_impl_Type_k4_1 (C A : List (List TC)) (m i : Int) : Bool := allEq slices_EqualFunc_impl_Type_impl_Type_impl_Type_impl_Type_E A C
noncomputable def slices_EqualFunc_impl_Type_impl_Type_impl_Type_impl_Type_o4_2 (C A : List (List TC)) (m i : Int) : Bool := is (A.length = C.length ∧ i = 0 ∧ Typed tab (.slice 32) (.l A) ∧ m = (A.length : Int) ∧ (∀ x y : List TC, x ∈ A → y ∈ C → impl_SameType_rc ((nth x 0).int) ((nth x 1).int) ((nth x 2).bool) ((nth x 3).bool) ((nth x 4).list) ((nth x 5).list) ((nth x 6).list) ((nth x 7).list) ((nth x 8).int) ((nth y 0).int) ((nth y 1).int) ((nth y 2).bool) ((nth y 3).bool) ((nth y 4).list) ((nth y 5).list) ((nth y 6).list) ((nth y 7).list) ((nth y 8).int) = true))
noncomputable def slices_EqualFunc_impl_Type_impl_Type_impl_Type_impl_Type_o4_3 (C A : List (List TC)) (m i : Int) : Bool := is (A.length = C.length ∧ i = 0 ∧ Typed tab (.slice 32) (.l A) ∧ m = (A.length : Int) ∧ (∀ x y : List TC, x ∈ A → y ∈ C → impl_SameType_rc ((nth x 0).int) ((nth x 1).int) ((nth x 2).bool) ((nth x 3).bool) ((nth x 4).list) ((nth x 5).list) ((nth x 6).list) ((nth x 7).list) ((nth x 8).int) ((nth y 0).int) ((nth y 1).int) ((nth y 2).bool) ((nth y 3).bool) ((nth y 4).list) ((nth y 5).list) ((nth y 6).list) ((nth y 7).list) ((nth y 8).int) = true))
noncomputable def slices_EqualFunc_impl_Type_impl_Type_impl_Type_impl_Type_4_fin (C A : List (List TC)) (m i : Int) : Told slices_EqualFunc_impl_Type_impl_Type_impl_Type_impl_Type_4_ω := (.br (slices_EqualFunc_impl_Type_impl_Type_impl_Type_impl_Type_k4_1 C A m i) (.leaf (slices_EqualFunc_impl_Type_impl_Type_impl_Type_impl_Type_o4_2 C A m i) (.inr ())) (.leaf (slices_EqualFunc_impl_Type_impl_Type_impl_Type_impl_Type_o4_3 C A m i) (.inl ())))
def slices_EqualFunc_impl_Type_impl_Type_impl_Type_impl_Type_4_sl (x : slices_EqualFunc_impl_Type_impl_Type_impl_Type_impl_Type_4_σ) : List Slot := [⟨.val false [⟨.slice 32, .sh, TC.l (x.1)⟩], ⟨0, 0⟩⟩, ⟨.val false [⟨.func, .sh, TC.f 112 []⟩], ⟨0, 0⟩⟩, ⟨.val false [⟨.slice 32, .sh, TC.l (x.2.1)⟩], ⟨0, 0⟩⟩, ⟨.val false [⟨.int .i64, .sh, TC.i (x.2.2.1)⟩], ⟨0, 0⟩⟩, ⟨.val false [⟨.int .i64, .sh, TC.i (x.2.2.2)⟩], ⟨0, 0⟩⟩]
def slices_EqualFunc_impl_Type_impl_Type_impl_Type_impl_Type_4_out : slices_EqualFunc_impl_Type_impl_Type_impl_Type_impl_Type_4_ω → Ex × List Slot := (Sum.elim (fun x => (.ret, [⟨.val false [⟨.bool, .sh, TC.b false⟩], ⟨0, 0⟩⟩])) (fun x => (.exit 0, [Slot.none])))
noncomputable def slices_EqualFunc_impl_Type_impl_Type_impl_Type_impl_Type_lo4 : List Slot → Option (Told (Ex × List Slot)) := fun s => match s with
  | [⟨.val false [⟨.slice 32, .sh, TC.l C⟩], ⟨0, 0⟩⟩, ⟨.val false [⟨.func, .sh, TC.f 112 []⟩], ⟨0, 0⟩⟩, ⟨.val false [⟨.slice 32, .sh, TC.l A⟩], ⟨0, 0⟩⟩, ⟨.val false [⟨.int .i64, .sh, TC.i m⟩], ⟨0, 0⟩⟩, ⟨.val false [⟨.int .i64, .sh, TC.i i⟩], ⟨0, 0⟩⟩] => some (((slices_EqualFunc_impl_Type_impl_Type_impl_Type_impl_Type_4_fin C A m i)).map slices_EqualFunc_impl_Type_impl_Type_impl_Type_impl_Type_4_out)
  | _ => .none
noncomputable def slices_EqualFunc_impl_Type_impl_Type_impl_Type_impl_Type_lo : LoopTeller := fun r s => bif Nat.beq r 4 then slices_EqualFunc_impl_Type_impl_Type_impl_Type_impl_Type_lo4 s else .none
theorem slices_EqualFunc_impl_Type_impl_Type_impl_Type_impl_Type_4_r (C A : List (List TC)) (m i : Int) (fuel : Nat) : rounds (rnd tab FT D39 live 143 slices_EqualFunc_impl_Type_impl_Type_impl_Type_impl_Type_lo 0 4) leave (fuel + 1) (slices_EqualFunc_impl_Type_impl_Type_impl_Type_impl_Type_4_sl (C, A, m, i)) = ((slices_EqualFunc_impl_Type_impl_Type_impl_Type_impl_Type_4_step C A m i)).run (goOn (fun s => rounds (rnd tab FT D39 live 143 slices_EqualFunc_impl_Type_impl_Type_impl_Type_impl_Type_lo 0 4) leave fuel (slices_EqualFunc_impl_Type_impl_Type_impl_Type_impl_Type_4_sl s)) fun w => some (slices_EqualFunc_impl_Type_impl_Type_impl_Type_impl_Type_4_out w)) := by kernel_rfl
theorem slices_EqualFunc_impl_Type_impl_Type_impl_Type_impl_Type_4_h (C A : List (List TC)) (m i : Int) (ow : slices_EqualFunc_impl_Type_impl_Type_impl_Type_impl_Type_4_ω) : ((slices_EqualFunc_impl_Type_impl_Type_impl_Type_impl_Type_4_fin C A m i)).val = some ow → ∃ fuel, loopN slices_EqualFunc_impl_Type_impl_Type_impl_Type_impl_Type_4_st fuel (C, A, m, i) = some ow := by
  intro h
  have key : A.length = C.length → Typed tab (.slice 32) (.l A) → (∀ x y : List TC, x ∈ A → y ∈ C → impl_SameType_rc ((nth x 0).int) ((nth x 1).int) ((nth x 2).bool) ((nth x 3).bool) ((nth x 4).list) ((nth x 5).list) ((nth x 6).list) ((nth x 7).list) ((nth x 8).int) ((nth y 0).int) ((nth y 1).int) ((nth y 2).bool) ((nth y 3).bool) ((nth y 4).list) ((nth y 5).list) ((nth y 6).list) ((nth y 7).list) ((nth y 8).int) = true) → loopN slices_EqualFunc_impl_Type_impl_Type_impl_Type_impl_Type_4_st (A.length + 1) (C, A, (A.length : Int), 0) = some (if allEq slices_EqualFunc_impl_Type_impl_Type_impl_Type_impl_Type_E A C = true then .inr () else .inl ()) := by
    intro hl ht hr
    have hlen : A.length ≤ 140737488351232 := by have := typed_room ht; simp only [show (tab 32).bytes = 128 from rfl] at this; omega
    refine loopN_allEq A C slices_EqualFunc_impl_Type_impl_Type_impl_Type_impl_Type_E (fun i => (C, A, (A.length : Int), (i : Int))) _ _ hl (fun i hi => ?_) ?_ A.length 0 (by omega)
    · show (slices_EqualFunc_impl_Type_impl_Type_impl_Type_impl_Type_4_step C A (A.length : Int) (i : Int)).val = _
      unfold slices_EqualFunc_impl_Type_impl_Type_impl_Type_impl_Type_4_step
      refine Tr.t (by simp; omega) ?_
      refine Tr.t (by constructor <;> omega) ?_
      refine Tr.t (by constructor <;> omega) ?_
      refine Tr.t (hr _ _ (mem_getD hi) (mem_getD (by omega))) ?_
      rw [wrap64 (i := (i : Int) + 1) (by omega) (by omega)]
      rw [Tr.val_br]
      show (if (!(slices_EqualFunc_impl_Type_impl_Type_impl_Type_impl_Type_E (A.getD i []) (C.getD i []))) = true then _ else _) = _
      cases slices_EqualFunc_impl_Type_impl_Type_impl_Type_impl_Type_E (A.getD i []) (C.getD i []) <;> rfl
    · show (slices_EqualFunc_impl_Type_impl_Type_impl_Type_impl_Type_4_step C A (A.length : Int) (A.length : Int)).val = _
      refine Tr.n (by simp) ?_
      rfl
  simp only [slices_EqualFunc_impl_Type_impl_Type_impl_Type_impl_Type_4_fin, Told.val] at h
  cases hk : allEq slices_EqualFunc_impl_Type_impl_Type_impl_Type_impl_Type_E A C with
  | true =>
    rw [if_pos (show slices_EqualFunc_impl_Type_impl_Type_impl_Type_impl_Type_k4_1 C A m i = true from hk)] at h
    split at h
    · rename_i ho
      obtain ⟨hl, rfl, ht, rfl, hr⟩ := is_iff.1 ho
      cases h
      refine ⟨_, (key hl ht hr).trans ?_⟩
      rw [hk]; rfl
    · cases h
  | false =>
    rw [if_neg (show ¬slices_EqualFunc_impl_Type_impl_Type_impl_Type_impl_Type_k4_1 C A m i = true from by rw [show slices_EqualFunc_impl_Type_impl_Type_impl_Type_impl_Type_k4_1 C A m i = allEq slices_EqualFunc_impl_Type_impl_Type_impl_Type_impl_Type_E A C from rfl, hk]; simp)] at h
    split at h
    · rename_i ho
      obtain ⟨hl, rfl, ht, rfl, hr⟩ := is_iff.1 ho
      cases h
      refine ⟨_, (key hl ht hr).trans ?_⟩
      rw [hk]; rfl
    · cases h
theorem slices_EqualFunc_impl_Type_impl_Type_impl_Type_impl_Type_is4 : LoopIs tab FT D39 live 143 slices_EqualFunc_impl_Type_impl_Type_impl_Type_impl_Type_lo 0 4 := by
  refine loop_told (sl := slices_EqualFunc_impl_Type_impl_Type_impl_Type_impl_Type_4_sl) (step := slices_EqualFunc_impl_Type_impl_Type_impl_Type_impl_Type_4_st) (out := slices_EqualFunc_impl_Type_impl_Type_impl_Type_impl_Type_4_out) (lor := slices_EqualFunc_impl_Type_impl_Type_impl_Type_impl_Type_lo4) (fin := fun x => (slices_EqualFunc_impl_Type_impl_Type_impl_Type_impl_Type_4_fin (x.1) (x.2.1) (x.2.2.1) (x.2.2.2))) (fun _ => rfl) ?_ (fun x n => slices_EqualFunc_impl_Type_impl_Type_impl_Type_impl_Type_4_r x.1 x.2.1 x.2.2.1 x.2.2.2 n) (fun x ow => slices_EqualFunc_impl_Type_impl_Type_impl_Type_impl_Type_4_h x.1 x.2.1 x.2.2.1 x.2.2.2 ow)
  intro s t h
  unfold slices_EqualFunc_impl_Type_impl_Type_impl_Type_impl_Type_lo4 at h
  split at h
  · cases h; exact ⟨(_, _, _, _), rfl, rfl⟩
  · cases h
noncomputable def slices_EqualFunc_impl_Type_impl_Type_impl_Type_impl_Type_t (A C : List (List TC)) : Tr (Bool) := (.ite ((!((A.length : Int) == (C.length : Int))) = true) (.ok false)
  (.ite ((slices_EqualFunc_impl_Type_impl_Type_impl_Type_impl_Type_k4_1 C A (A.length : Int) (0 : Int)) = true) (.ite ((slices_EqualFunc_impl_Type_impl_Type_impl_Type_impl_Type_o4_2 C A (A.length : Int) (0 : Int)) = true) (.ok true)
    .no)
   (.ite ((slices_EqualFunc_impl_Type_impl_Type_impl_Type_impl_Type_o4_3 C A (A.length : Int) (0 : Int)) = true) (.ok false)
    .no)))
def slices_EqualFunc_impl_Type_impl_Type_impl_Type_impl_Type_mk (p : Bool) : Res := [(false, [⟨.bool, .sh, TC.b p⟩])]
noncomputable def slices_EqualFunc_impl_Type_impl_Type_impl_Type_impl_Type_c (A C : List (List TC)) : Bool := is (Typed tab (.slice 32) (.l A) ∧ (∀ x y : List TC, x ∈ A → y ∈ C → impl_SameType_rc ((nth x 0).int) ((nth x 1).int) ((nth x 2).bool) ((nth x 3).bool) ((nth x 4).list) ((nth x 5).list) ((nth x 6).list) ((nth x 7).list) ((nth x 8).int) ((nth y 0).int) ((nth y 1).int) ((nth y 2).bool) ((nth y 3).bool) ((nth y 4).list) ((nth y 5).list) ((nth y 6).list) ((nth y 7).list) ((nth y 8).int) = true))
noncomputable def slices_EqualFunc_impl_Type_impl_Type_impl_Type_impl_Type_v (A C : List (List TC)) : Bool := allEq slices_EqualFunc_impl_Type_impl_Type_impl_Type_impl_Type_E A C
theorem slices_EqualFunc_impl_Type_impl_Type_impl_Type_impl_Type_l (A C : List (List TC)) : (slices_EqualFunc_impl_Type_impl_Type_impl_Type_impl_Type_c A C) = true → (slices_EqualFunc_impl_Type_impl_Type_impl_Type_impl_Type_t A C).val = some (slices_EqualFunc_impl_Type_impl_Type_impl_Type_impl_Type_v A C) := by
  intro h
  obtain ⟨ht, hr⟩ := is_iff.1 h
  unfold slices_EqualFunc_impl_Type_impl_Type_impl_Type_impl_Type_t
  by_cases hl : A.length = C.length
  · refine Tr.n (by simp [hl]) ?_
    cases hk : allEq slices_EqualFunc_impl_Type_impl_Type_impl_Type_impl_Type_E A C with
    | true =>
      refine Tr.t (show allEq slices_EqualFunc_impl_Type_impl_Type_impl_Type_impl_Type_E A C = true from hk) ?_
      refine Tr.t (is_true ⟨hl, rfl, ht, rfl, hr⟩) ?_
      show _ = some (allEq slices_EqualFunc_impl_Type_impl_Type_impl_Type_impl_Type_E A C); rw [hk]; rfl
    | false =>
      refine Tr.n (show ¬allEq slices_EqualFunc_impl_Type_impl_Type_impl_Type_impl_Type_E A C = true from by rw [hk]; simp) ?_
      refine Tr.t (is_true ⟨hl, rfl, ht, rfl, hr⟩) ?_
      show _ = some (allEq slices_EqualFunc_impl_Type_impl_Type_impl_Type_impl_Type_E A C); rw [hk]; rfl
  · refine Tr.t (by simp; omega) ?_
    show _ = some (allEq slices_EqualFunc_impl_Type_impl_Type_impl_Type_impl_Type_E A C)
    rw [allEq_ne hl]; rfl
noncomputable def slices_EqualFunc_impl_Type_impl_Type_impl_Type_impl_Type_S : List Arg → Option (Bool × Res) := fun xs => match xs with
  | [(false, [(.slice 32, TC.l A)]), (false, [(.slice 32, TC.l C)]), (false, [(.func, TC.f 112 [])])] => some ((slices_EqualFunc_impl_Type_impl_Type_impl_Type_impl_Type_c A C), slices_EqualFunc_impl_Type_impl_Type_impl_Type_impl_Type_mk (slices_EqualFunc_impl_Type_impl_Type_impl_Type_impl_Type_v A C))
  | _ => .none
theorem slices_EqualFunc_impl_Type_impl_Type_impl_Type_impl_Type_e (A C : List (List TC)) : runF tab FT D39 live 143 slices_EqualFunc_impl_Type_impl_Type_impl_Type_impl_Type_lo [(false, [(.slice 32, TC.l A)]), (false, [(.slice 32, TC.l C)]), (false, [(.func, TC.f 112 [])])] = (slices_EqualFunc_impl_Type_impl_Type_impl_Type_impl_Type_t A C).run fun p => some (slices_EqualFunc_impl_Type_impl_Type_impl_Type_impl_Type_mk p) := by kernel_rfl
theorem slices_EqualFunc_impl_Type_impl_Type_impl_Type_impl_Type_s : ∀ xs r, slices_EqualFunc_impl_Type_impl_Type_impl_Type_impl_Type_S xs = some (true, r) → runF tab FT D39 live 143 slices_EqualFunc_impl_Type_impl_Type_impl_Type_impl_Type_lo xs = some r := by
  intro xs r h
  unfold slices_EqualFunc_impl_Type_impl_Type_impl_Type_impl_Type_S at h
  split at h
  · simp only [Option.some.injEq, Prod.mk.injEq] at h
    obtain ⟨h1, rfl⟩ := h
    exact fun_told (slices_EqualFunc_impl_Type_impl_Type_impl_Type_impl_Type_e _ _) (slices_EqualFunc_impl_Type_impl_Type_impl_Type_impl_Type_l _ _) h1
  · cases h
noncomputable def D40 : Dt := also D39 143 slices_EqualFunc_impl_Type_impl_Type_impl_Type_impl_Type_S
theorem d40 : DOk Go.Proofs.Try.prog tab D40 := d39.also mixed_ok tab_ok names_ok (fnLoops_one (by kernel_rfl) slices_EqualFunc_impl_Type_impl_Type_impl_Type_impl_Type_is4) slices_EqualFunc_impl_Type_impl_Type_impl_Type_impl_Type_s
/-! impl_SameType -/
noncomputable def impl_SameType_t (k s : Int) (sg bg : Bool) (NA NU ME BA : List (List TC)) (ct k2 s2 : Int) (sg2 bg2 : Bool) (NA2 NU2 ME2 BA2 : List (List TC)) (ct2 : Int) : Tr (Bool) := (.ite ((k == k2) = true) (.ite ((s == s2) = true) (.ite ((sg == sg2) = true) (.ite ((bg == bg2) = true) (.ite ((ct == ct2) = true) (.ite ((slices_Equal_string_string_c NA NA2) = true) (.ite ((slices_Equal_string_string_v NA NA2) = true) (.ite ((slices_Equal_int64_int64_c NU NU2) = true) (.ite ((slices_Equal_int64_int64_v NU NU2) = true) (.ite ((slices_EqualFunc_impl_Member_impl_Member_impl_Member_impl_Member_c ME ME2) = true) (.ite ((slices_EqualFunc_impl_Member_impl_Member_impl_Member_impl_Member_v ME ME2) = true) (.ite ((slices_EqualFunc_impl_Type_impl_Type_impl_Type_impl_Type_c BA BA2) = true) (.ok (slices_EqualFunc_impl_Type_impl_Type_impl_Type_impl_Type_v BA BA2))
             .no)
            (.ok false))
           .no)
          (.ok false))
         .no)
        (.ok false))
       .no)
      (.ok false))
     (.ok false))
    (.ok false))
   (.ok false))
  (.ok false))
def impl_SameType_mk (p : Bool) : Res := [(false, [⟨.bool, .sh, TC.b p⟩])]
noncomputable def impl_SameType_c (k s : Int) (sg bg : Bool) (NA NU ME BA : List (List TC)) (ct k2 s2 : Int) (sg2 bg2 : Bool) (NA2 NU2 ME2 BA2 : List (List TC)) (ct2 : Int) : Bool := (bif (k == k2) then (bif (s == s2) then (bif (sg == sg2) then (bif (bg == bg2) then (bif (ct == ct2) then ((slices_Equal_string_string_c NA NA2) && (bif (slices_Equal_string_string_v NA NA2) then ((slices_Equal_int64_int64_c NU NU2) && (bif (slices_Equal_int64_int64_v NU NU2) then ((slices_EqualFunc_impl_Member_impl_Member_impl_Member_impl_Member_c ME ME2) && (bif (slices_EqualFunc_impl_Member_impl_Member_impl_Member_impl_Member_v ME ME2) then ((slices_EqualFunc_impl_Type_impl_Type_impl_Type_impl_Type_c BA BA2) && true) else true)) else true)) else true)) else true) else true) else true) else true) else true)
noncomputable def impl_SameType_v (k s : Int) (sg bg : Bool) (NA NU ME BA : List (List TC)) (ct k2 s2 : Int) (sg2 bg2 : Bool) (NA2 NU2 ME2 BA2 : List (List TC)) (ct2 : Int) : Bool := (bif (k == k2) then (bif (s == s2) then (bif (sg == sg2) then (bif (bg == bg2) then (bif (ct == ct2) then (bif (slices_Equal_string_string_v NA NA2) then (bif (slices_Equal_int64_int64_v NU NU2) then (bif (slices_EqualFunc_impl_Member_impl_Member_impl_Member_impl_Member_v ME ME2) then (slices_EqualFunc_impl_Type_impl_Type_impl_Type_impl_Type_v BA BA2) else false) else false) else false) else false) else false) else false) else false) else false)
theorem impl_SameType_l (k s : Int) (sg bg : Bool) (NA NU ME BA : List (List TC)) (ct k2 s2 : Int) (sg2 bg2 : Bool) (NA2 NU2 ME2 BA2 : List (List TC)) (ct2 : Int) : (impl_SameType_c k s sg bg NA NU ME BA ct k2 s2 sg2 bg2 NA2 NU2 ME2 BA2 ct2) = true → (impl_SameType_t k s sg bg NA NU ME BA ct k2 s2 sg2 bg2 NA2 NU2 ME2 BA2 ct2).val = some (impl_SameType_v k s sg bg NA NU ME BA ct k2 s2 sg2 bg2 NA2 NU2 ME2 BA2 ct2) := by
  unfold impl_SameType_t impl_SameType_v impl_SameType_c
  exact fun h => (Tr.ss h (fun h => (Tr.ss h (fun h => (Tr.ss h (fun h => (Tr.ss h (fun h => (Tr.ss h (fun h => (Tr.gb h fun h => (Tr.ss h (fun h => (Tr.gb h fun h => (Tr.ss h (fun h => (Tr.gb h fun h => (Tr.ss h (fun h => (Tr.gb h fun h => rfl)) (fun h => rfl)))) (fun h => rfl)))) (fun h => rfl)))) (fun h => rfl))) (fun h => rfl))) (fun h => rfl))) (fun h => rfl))) (fun h => rfl))
noncomputable def impl_SameType_S : List Arg → Option (Bool × Res) := fun xs => match xs with
  | [(true, [(.int .i64, TC.i k), (.int .i64, TC.i s), (.bool, TC.b sg), (.bool, TC.b bg), (.slice 9, TC.l NA), (.slice 2, TC.l NU), (.slice 77, TC.l ME), (.slice 32, TC.l BA), (.int .i64, TC.i ct)]), (true, [(.int .i64, TC.i k2), (.int .i64, TC.i s2), (.bool, TC.b sg2), (.bool, TC.b bg2), (.slice 9, TC.l NA2), (.slice 2, TC.l NU2), (.slice 77, TC.l ME2), (.slice 32, TC.l BA2), (.int .i64, TC.i ct2)])] => some ((impl_SameType_c k s sg bg NA NU ME BA ct k2 s2 sg2 bg2 NA2 NU2 ME2 BA2 ct2), impl_SameType_mk (impl_SameType_v k s sg bg NA NU ME BA ct k2 s2 sg2 bg2 NA2 NU2 ME2 BA2 ct2))
  | _ => .none
theorem impl_SameType_e (k s : Int) (sg bg : Bool) (NA NU ME BA : List (List TC)) (ct k2 s2 : Int) (sg2 bg2 : Bool) (NA2 NU2 ME2 BA2 : List (List TC)) (ct2 : Int) : runF tab FT D40 live 112 noLoops [(true, [(.int .i64, TC.i k), (.int .i64, TC.i s), (.bool, TC.b sg), (.bool, TC.b bg), (.slice 9, TC.l NA), (.slice 2, TC.l NU), (.slice 77, TC.l ME), (.slice 32, TC.l BA), (.int .i64, TC.i ct)]), (true, [(.int .i64, TC.i k2), (.int .i64, TC.i s2), (.bool, TC.b sg2), (.bool, TC.b bg2), (.slice 9, TC.l NA2), (.slice 2, TC.l NU2), (.slice 77, TC.l ME2), (.slice 32, TC.l BA2), (.int .i64, TC.i ct2)])] = (impl_SameType_t k s sg bg NA NU ME BA ct k2 s2 sg2 bg2 NA2 NU2 ME2 BA2 ct2).run fun p => some (impl_SameType_mk p) := by kernel_rfl
theorem impl_SameType_s : ∀ xs r, impl_SameType_S xs = some (true, r) → runF tab FT D40 live 112 noLoops xs = some r := by
  intro xs r h
  unfold impl_SameType_S at h
  split at h
  · simp only [Option.some.injEq, Prod.mk.injEq] at h
    obtain ⟨h1, rfl⟩ := h
    exact fun_told (impl_SameType_e _ _ _ _ _ _ _ _ _ _ _ _ _ _ _ _ _ _) (impl_SameType_l _ _ _ _ _ _ _ _ _ _ _ _ _ _ _ _ _ _) h1
  · cases h
theorem impl_SameType_nx (k s : Int) (sg bg : Bool) (NA NU ME BA : List (List TC)) (ct k2 s2 : Int) (sg2 bg2 : Bool) (NA2 NU2 ME2 BA2 : List (List TC)) (ct2 : Int) : is (max (rowsDep ME) (rowsDep BA) < impl_SameType_O.n + 1 ∧ Typed tab (.slice 9) (.l NA) ∧ Typed tab (.slice 2) (.l NU) ∧ Typed tab (.slice 77) (.l ME) ∧ Typed tab (.slice 32) (.l BA) ∧ Typed tab (.slice 9) (.l NA2) ∧ Typed tab (.slice 2) (.l NU2) ∧ Typed tab (.slice 77) (.l ME2) ∧ Typed tab (.slice 32) (.l BA2)) = true → (impl_SameType_c k s sg bg NA NU ME BA ct k2 s2 sg2 bg2 NA2 NU2 ME2 BA2 ct2) = true ∧ (impl_SameType_v k s sg bg NA NU ME BA ct k2 s2 sg2 bg2 NA2 NU2 ME2 BA2 ct2) = sameV k s sg bg NA NU ME BA ct k2 s2 sg2 bg2 NA2 NU2 ME2 BA2 ct2 := by
  intro h
  obtain ⟨hM, a4, a5, a6, a7, b4, b5, b6, b7⟩ := is_iff.1 h
  have q6 : ∀ x y, x ∈ ME → y ∈ ME2 → impl_SameType_rc (nth x 2).int (nth x 3).int (nth x 4).bool (nth x 5).bool (nth x 6).list (nth x 7).list (nth x 8).list (nth x 9).list (nth x 10).int (nth y 2).int (nth y 3).int (nth y 4).bool (nth y 5).bool (nth y 6).list (nth y 7).list (nth y 8).list (nth y 9).list (nth y 10).int = true := fun x y hx hy => is_true ⟨by have a := dep_cell hx 8; have b := dep_cell hx 9; omega, typed_list ((typed_elem a6 hx).2 6 (by decide)), typed_list ((typed_elem a6 hx).2 7 (by decide)), typed_list ((typed_elem a6 hx).2 8 (by decide)), typed_list ((typed_elem a6 hx).2 9 (by decide)), typed_list ((typed_elem b6 hy).2 6 (by decide)), typed_list ((typed_elem b6 hy).2 7 (by decide)), typed_list ((typed_elem b6 hy).2 8 (by decide)), typed_list ((typed_elem b6 hy).2 9 (by decide))⟩
  have q7 : ∀ x y, x ∈ BA → y ∈ BA2 → impl_SameType_rc (nth x 0).int (nth x 1).int (nth x 2).bool (nth x 3).bool (nth x 4).list (nth x 5).list (nth x 6).list (nth x 7).list (nth x 8).int (nth y 0).int (nth y 1).int (nth y 2).bool (nth y 3).bool (nth y 4).list (nth y 5).list (nth y 6).list (nth y 7).list (nth y 8).int = true := fun x y hx hy => is_true ⟨by have a := dep_cell hx 6; have b := dep_cell hx 7; omega, typed_list ((typed_elem a7 hx).2 4 (by decide)), typed_list ((typed_elem a7 hx).2 5 (by decide)), typed_list ((typed_elem a7 hx).2 6 (by decide)), typed_list ((typed_elem a7 hx).2 7 (by decide)), typed_list ((typed_elem b7 hy).2 4 (by decide)), typed_list ((typed_elem b7 hy).2 5 (by decide)), typed_list ((typed_elem b7 hy).2 6 (by decide)), typed_list ((typed_elem b7 hy).2 7 (by decide))⟩
  have c4 : slices_Equal_string_string_c NA NA2 = true := is_true a4
  have c5 : slices_Equal_int64_int64_c NU NU2 = true := is_true a5
  have c6 : slices_EqualFunc_impl_Member_impl_Member_impl_Member_impl_Member_c ME ME2 = true := is_true ⟨a6, fun x y hx hy => by simp only [impl_sameMember_c, q6 x y hx hy, Bool.and_true, bif_same]⟩
  have c7 : slices_EqualFunc_impl_Type_impl_Type_impl_Type_impl_Type_c BA BA2 = true := is_true ⟨a7, q7⟩
  have v4 : slices_Equal_string_string_v NA NA2 = eqL NA NA2 := allEq_eqL (E := E_9) (fun x y hx hy => by
    constructor
    · intro h
      have hh : (nth x 0).str = (nth y 0).str := by
        simpa [E_9] using h
      have e0 := hh
      have hx' := form_9 a4 hx
      have hy' := form_9 b4 hy
      rw [hx', hy', e0]
    · rintro rfl
      simp [E_9])
  have v5 : slices_Equal_int64_int64_v NU NU2 = eqL NU NU2 := allEq_eqL (E := E_2) (fun x y hx hy => by
    constructor
    · intro h
      have hh : (nth x 0).int = (nth y 0).int := by
        simpa [E_2] using h
      have e0 := hh
      have hx' := form_2 a5 hx
      have hy' := form_2 b5 hy
      rw [hx', hy', e0]
    · rintro rfl
      simp [E_2])
  have v6 : slices_EqualFunc_impl_Member_impl_Member_impl_Member_impl_Member_v ME ME2 = eqL ME ME2 := allEq_eqL (E := slices_EqualFunc_impl_Member_impl_Member_impl_Member_impl_Member_E) (fun x y hx hy => by
    constructor
    · intro h
      have hh : (nth x 0).str = (nth y 0).str ∧ (nth x 1).int = (nth y 1).int ∧ (nth x 2).int = (nth y 2).int ∧ (nth x 3).int = (nth y 3).int ∧ (nth x 4).bool = (nth y 4).bool ∧ (nth x 5).bool = (nth y 5).bool ∧ (nth x 6).list = (nth y 6).list ∧ (nth x 7).list = (nth y 7).list ∧ (nth x 8).list = (nth y 8).list ∧ (nth x 9).list = (nth y 9).list ∧ (nth x 10).int = (nth y 10).int := by
        have h : (bif ((nth x 0).str == (nth y 0).str) then (bif ((nth x 1).int == (nth y 1).int) then sameV (nth x 2).int (nth x 3).int (nth x 4).bool (nth x 5).bool (nth x 6).list (nth x 7).list (nth x 8).list (nth x 9).list (nth x 10).int (nth y 2).int (nth y 3).int (nth y 4).bool (nth y 5).bool (nth y 6).list (nth y 7).list (nth y 8).list (nth y 9).list (nth y 10).int else false) else false) = true := h
        simp only [bif_ft, sameV, Bool.and_eq_true, beq_iff_eq, eqL_iff] at h
        obtain ⟨n, o, h⟩ := h
        exact ⟨n, o, h.1, h.2.1, h.2.2.1, h.2.2.2.1, h.2.2.2.2.2.1, h.2.2.2.2.2.2.1, h.2.2.2.2.2.2.2.1, h.2.2.2.2.2.2.2.2, h.2.2.2.2.1⟩
      obtain ⟨e0, e1, e2, e3, e4, e5, e6, e7, e8, e9, e10⟩ := hh
      have hx' := form_77 a6 hx
      have hy' := form_77 b6 hy
      rw [hx', hy', e0, e1, e2, e3, e4, e5, e6, e7, e8, e9, e10]
    · rintro rfl
      show (bif ((nth x 0).str == (nth x 0).str) then (bif ((nth x 1).int == (nth x 1).int) then sameV (nth x 2).int (nth x 3).int (nth x 4).bool (nth x 5).bool (nth x 6).list (nth x 7).list (nth x 8).list (nth x 9).list (nth x 10).int (nth x 2).int (nth x 3).int (nth x 4).bool (nth x 5).bool (nth x 6).list (nth x 7).list (nth x 8).list (nth x 9).list (nth x 10).int else false) else false) = true
      simp [sameV, eqL_refl])
  have v7 : slices_EqualFunc_impl_Type_impl_Type_impl_Type_impl_Type_v BA BA2 = eqL BA BA2 := allEq_eqL (E := slices_EqualFunc_impl_Type_impl_Type_impl_Type_impl_Type_E) (fun x y hx hy => by
    constructor
    · intro h
      have hh : (nth x 0).int = (nth y 0).int ∧ (nth x 1).int = (nth y 1).int ∧ (nth x 2).bool = (nth y 2).bool ∧ (nth x 3).bool = (nth y 3).bool ∧ (nth x 4).list = (nth y 4).list ∧ (nth x 5).list = (nth y 5).list ∧ (nth x 6).list = (nth y 6).list ∧ (nth x 7).list = (nth y 7).list ∧ (nth x 8).int = (nth y 8).int := by
        have h : sameV (nth x 0).int (nth x 1).int (nth x 2).bool (nth x 3).bool (nth x 4).list (nth x 5).list (nth x 6).list (nth x 7).list (nth x 8).int (nth y 0).int (nth y 1).int (nth y 2).bool (nth y 3).bool (nth y 4).list (nth y 5).list (nth y 6).list (nth y 7).list (nth y 8).int = true := h
        simp only [sameV, Bool.and_eq_true, beq_iff_eq, eqL_iff] at h
        exact ⟨h.1, h.2.1, h.2.2.1, h.2.2.2.1, h.2.2.2.2.2.1, h.2.2.2.2.2.2.1, h.2.2.2.2.2.2.2.1, h.2.2.2.2.2.2.2.2, h.2.2.2.2.1⟩
      obtain ⟨e0, e1, e2, e3, e4, e5, e6, e7, e8⟩ := hh
      have hx' := form_32 a7 hx
      have hy' := form_32 b7 hy
      rw [hx', hy', e0, e1, e2, e3, e4, e5, e6, e7, e8]
    · rintro rfl
      show sameV (nth x 0).int (nth x 1).int (nth x 2).bool (nth x 3).bool (nth x 4).list (nth x 5).list (nth x 6).list (nth x 7).list (nth x 8).int (nth x 0).int (nth x 1).int (nth x 2).bool (nth x 3).bool (nth x 4).list (nth x 5).list (nth x 6).list (nth x 7).list (nth x 8).int = true
      simp [sameV, eqL_refl])
  constructor
  · unfold impl_SameType_c
    simp only [c4, c5, c6, c7, Bool.true_and, Bool.and_true, bif_same]
  · unfold impl_SameType_v sameV
    rw [v4, v5, v6, v7]
    simp only [bif_ft]
theorem impl_SameType_nxr (k s : Int) (sg bg : Bool) (NA NU ME BA : List (List TC)) (ct k2 s2 : Int) (sg2 bg2 : Bool) (NA2 NU2 ME2 BA2 : List (List TC)) (ct2 : Int) : impl_SameType_rc (i_impl_SameType := ⟨impl_SameType_O.n + 1⟩) k s sg bg NA NU ME BA ct k2 s2 sg2 bg2 NA2 NU2 ME2 BA2 ct2 = true → (impl_SameType_c k s sg bg NA NU ME BA ct k2 s2 sg2 bg2 NA2 NU2 ME2 BA2 ct2) = true ∧ (impl_SameType_v k s sg bg NA NU ME BA ct k2 s2 sg2 bg2 NA2 NU2 ME2 BA2 ct2) = (impl_SameType_rv k s sg bg NA NU ME BA ct k2 s2 sg2 bg2 NA2 NU2 ME2 BA2 ct2) := fun h => impl_SameType_nx k s sg bg NA NU ME BA ct k2 s2 sg2 bg2 NA2 NU2 ME2 BA2 ct2 h
theorem impl_SameType_rs : ∀ xs r, impl_SameType_rS (i_impl_SameType := ⟨impl_SameType_O.n + 1⟩) xs = some (true, r) → runF tab FT D40 live 112 noLoops xs = some r := by
  intro xs r h
  unfold impl_SameType_rS at h
  split at h
  · simp only [Option.some.injEq, Prod.mk.injEq] at h
    obtain ⟨h1, rfl⟩ := h
    have hx := impl_SameType_nxr _ _ _ _ _ _ _ _ _ _ _ _ _ _ _ _ _ _ h1
    have ht := fun_told (impl_SameType_e _ _ _ _ _ _ _ _ _ _ _ _ _ _ _ _ _ _) (impl_SameType_l _ _ _ _ _ _ _ _ _ _ _ _ _ _ _ _ _ _) hx.1
    rw [hx.2] at ht
    exact ht
  · cases h
theorem impl_SameType_step : impl_SameType_G (i_impl_SameType := ⟨impl_SameType_O.n + 1⟩) := by
  have h := DOk.also2 (S := impl_SameType_rS (i_impl_SameType := ⟨impl_SameType_O.n + 1⟩)) mixed_ok tab_ok names_ok d36 d40 noLoops_ok impl_SameType_rs
  refine impl_SameType_G.mk (i_impl_SameType := ⟨impl_SameType_O.n + 1⟩) ?_
  exact h
/-! slices_Index_int64_int64 -/
abbrev slices_Index_int64_int64_2_σ := List (List TC) × Int × Int × Int
abbrev slices_Index_int64_int64_2_ω := (Int) ⊕ (Unit)
noncomputable def slices_Index_int64_int64_2_step (A : List (List TC)) (v m i : Int) : Tr (slices_Index_int64_int64_2_σ ⊕ slices_Index_int64_int64_2_ω) := (.ite ((decide (i < m)) = true) (.ite ((0 : Int) ≤ i ∧ i < (A.length : Int)) (.ite ((v == (nth (row A i) 0).int) = true) (.ok (.inr (.inl i)))
    (.ok (.inl (A, v, m, (IntKind.wrap .i64 (i + (1 : Int)))))))
   .no)
  (.ok (.inr (.inr ()))))
noncomputable def slices_Index_int64_int64_2_st : slices_Index_int64_int64_2_σ → Tr (slices_Index_int64_int64_2_σ ⊕ slices_Index_int64_int64_2_ω) := fun x => (slices_Index_int64_int64_2_step (x.1) (x.2.1) (x.2.2.1) (x.2.2.2))
noncomputable def slices_Index_int64_int64_k2_1 (A : List (List TC)) (v m i : Int) : Bool := A.all (fun x => !(v == (nth x 0).int))
noncomputable def slices_Index_int64_int64_o2_2 (A : List (List TC)) (v m i : Int) : Bool := is (i = 0 ∧ A.length ≤ 140737488351232 ∧ m = (A.length : Int))
noncomputable def slices_Index_int64_int64_o2_3 (A : List (List TC)) (v m i : Int) : Bool := is (i = 0 ∧ A.length ≤ 140737488351232 ∧ m = (A.length : Int))
noncomputable def slices_Index_int64_int64_u2_3 (A : List (List TC)) (v m i : Int) : Int := (Int.ofNat (A.findIdx fun x => !(fun x => !(v == (nth x 0).int)) x))
noncomputable def slices_Index_int64_int64_2_fin (A : List (List TC)) (v m i : Int) : Told slices_Index_int64_int64_2_ω := (.br (slices_Index_int64_int64_k2_1 A v m i) (.leaf (slices_Index_int64_int64_o2_2 A v m i) (.inr ())) (.leaf (slices_Index_int64_int64_o2_3 A v m i) (.inl (slices_Index_int64_int64_u2_3 A v m i))))
def slices_Index_int64_int64_2_sl (x : slices_Index_int64_int64_2_σ) : List Slot := [⟨.val false [⟨.slice 2, .sh, TC.l (x.1)⟩], ⟨0, 0⟩⟩, ⟨.val false [⟨.int .i64, .sh, TC.i (x.2.1)⟩], ⟨0, 0⟩⟩, ⟨.val false [⟨.int .i64, .sh, TC.i (x.2.2.1)⟩], ⟨0, 0⟩⟩, ⟨.val false [⟨.int .i64, .sh, TC.i (x.2.2.2)⟩], ⟨0, 0⟩⟩]
def slices_Index_int64_int64_2_out : slices_Index_int64_int64_2_ω → Ex × List Slot := (Sum.elim (fun x => (.ret, [⟨.val false [⟨.int .i64, .sh, TC.i x⟩], ⟨0, 0⟩⟩])) (fun x => (.exit 0, [Slot.none])))
noncomputable def slices_Index_int64_int64_lo2 : List Slot → Option (Told (Ex × List Slot)) := fun s => match s with
  | [⟨.val false [⟨.slice 2, .sh, TC.l A⟩], ⟨0, 0⟩⟩, ⟨.val false [⟨.int .i64, .sh, TC.i v⟩], ⟨0, 0⟩⟩, ⟨.val false [⟨.int .i64, .sh, TC.i m⟩], ⟨0, 0⟩⟩, ⟨.val false [⟨.int .i64, .sh, TC.i i⟩], ⟨0, 0⟩⟩] => some (((slices_Index_int64_int64_2_fin A v m i)).map slices_Index_int64_int64_2_out)
  | _ => .none
noncomputable def slices_Index_int64_int64_lo : LoopTeller := fun r s => bif Nat.beq r 2 then slices_Index_int64_int64_lo2 s else .none
theorem slices_Index_int64_int64_2_r (A : List (List TC)) (v m i : Int) (fuel : Nat) : rounds (rnd tab FT D40 live 122 slices_Index_int64_int64_lo 0 2) leave (fuel + 1) (slices_Index_int64_int64_2_sl (A, v, m, i)) = ((slices_Index_int64_int64_2_step A v m i)).run (goOn (fun s => rounds (rnd tab FT D40 live 122 slices_Index_int64_int64_lo 0 2) leave fuel (slices_Index_int64_int64_2_sl s)) fun w => some (slices_Index_int64_int64_2_out w)) := by kernel_rfl
theorem slices_Index_int64_int64_2_h (A : List (List TC)) (v m i : Int) (ow : slices_Index_int64_int64_2_ω) : ((slices_Index_int64_int64_2_fin A v m i)).val = some ow → ∃ fuel, loopN slices_Index_int64_int64_2_st fuel (A, v, m, i) = some ow := by
  intro h
  have key : A.length ≤ 140737488351232 → loopN slices_Index_int64_int64_2_st (A.length + 1) (A, v, (A.length : Int), (0 : Int)) = some (if A.all (fun x => !(v == (nth x 0).int)) = true then (.inr ()) else (.inl (Int.ofNat (A.findIdx fun x => !(fun x => !(v == (nth x 0).int)) x)))) := by
    intro ht
    have hlen : A.length ≤ 140737488351232 := ht
    have key := loopN_scan (step := slices_Index_int64_int64_2_st) A [] (fun x => !(v == (nth x 0).int)) (fun a _ => a) (fun i a => (A, v, (A.length : Int), (i : Int))) (fun a => (.inr ())) (fun i a => (.inl (i : Int))) (fun i a hi => ?_) (fun a => ?_) A.length 0 () (by omega)
    · first | (rw [Nat.zero_add] at key; exact key) | exact key
    · skip
      show (slices_Index_int64_int64_2_step A v (A.length : Int) (i : Int)).val = _
      unfold slices_Index_int64_int64_2_step
      refine Tr.t (by simp; omega) ?_
      skip
      refine Tr.t (by first | omega | (constructor <;> omega)) ?_
      refine Tr.b2 (fun hP => ?_) (fun _ => rfl)
      rw [Tr.val_ok, wrap64 (i := (i : Int) + 1) (by omega) (by omega)]; rfl
    · show (slices_Index_int64_int64_2_step A v (A.length : Int) (A.length : Int)).val = _
      refine Tr.n (by simp) ?_
      rfl
  simp only [slices_Index_int64_int64_2_fin, Told.val] at h
  cases hk : A.all (fun x => !(v == (nth x 0).int)) with
  | true =>
    rw [if_pos (show slices_Index_int64_int64_k2_1 A v m i = true from hk)] at h
    split at h
    · rename_i ho
      obtain ⟨rfl, ht, rfl⟩ := is_iff.1 ho
      cases h
      refine ⟨_, (key ht).trans ?_⟩
      rw [hk]; rfl
    · cases h
  | false =>
    rw [if_neg (show ¬slices_Index_int64_int64_k2_1 A v m i = true from by rw [show slices_Index_int64_int64_k2_1 A v m i = (A.all (fun x => !(v == (nth x 0).int))) from rfl, hk]; simp)] at h
    split at h
    · rename_i ho
      obtain ⟨rfl, ht, rfl⟩ := is_iff.1 ho
      cases h
      refine ⟨_, (key ht).trans ?_⟩
      rw [hk]; rfl
    · cases h
theorem slices_Index_int64_int64_is2 : LoopIs tab FT D40 live 122 slices_Index_int64_int64_lo 0 2 := by
  refine loop_told (sl := slices_Index_int64_int64_2_sl) (step := slices_Index_int64_int64_2_st) (out := slices_Index_int64_int64_2_out) (lor := slices_Index_int64_int64_lo2) (fin := fun x => (slices_Index_int64_int64_2_fin (x.1) (x.2.1) (x.2.2.1) (x.2.2.2))) (fun _ => rfl) ?_ (fun x n => slices_Index_int64_int64_2_r x.1 x.2.1 x.2.2.1 x.2.2.2 n) (fun x ow => slices_Index_int64_int64_2_h x.1 x.2.1 x.2.2.1 x.2.2.2 ow)
  intro s t h
  unfold slices_Index_int64_int64_lo2 at h
  split at h
  · cases h; exact ⟨(_, _, _, _), rfl, rfl⟩
  · cases h
noncomputable def slices_Index_int64_int64_t (A : List (List TC)) (v : Int) : Tr (Int) := (.ite ((slices_Index_int64_int64_k2_1 A v (A.length : Int) (0 : Int)) = true) (.ite ((slices_Index_int64_int64_o2_2 A v (A.length : Int) (0 : Int)) = true) (.ok (-1 : Int))
   .no)
  (.ite ((slices_Index_int64_int64_o2_3 A v (A.length : Int) (0 : Int)) = true) (.ok (slices_Index_int64_int64_u2_3 A v (A.length : Int) (0 : Int)))
   .no))
def slices_Index_int64_int64_mk (p : Int) : Res := [(false, [⟨.int .i64, .sh, TC.i p⟩])]
noncomputable def slices_Index_int64_int64_c (A : List (List TC)) (v : Int) : Bool := (bif (slices_Index_int64_int64_k2_1 A v (A.length : Int) (0 : Int)) then ((slices_Index_int64_int64_o2_2 A v (A.length : Int) (0 : Int)) && true) else ((slices_Index_int64_int64_o2_3 A v (A.length : Int) (0 : Int)) && true))
noncomputable def slices_Index_int64_int64_v (A : List (List TC)) (v : Int) : Int := (bif (slices_Index_int64_int64_k2_1 A v (A.length : Int) (0 : Int)) then (-1 : Int) else (slices_Index_int64_int64_u2_3 A v (A.length : Int) (0 : Int)))
theorem slices_Index_int64_int64_l (A : List (List TC)) (v : Int) : (slices_Index_int64_int64_c A v) = true → (slices_Index_int64_int64_t A v).val = some (slices_Index_int64_int64_v A v) := by
  unfold slices_Index_int64_int64_t slices_Index_int64_int64_v slices_Index_int64_int64_c
  exact fun h => (Tr.ss h (fun h => (Tr.gb h fun h => rfl)) (fun h => (Tr.gb h fun h => rfl)))
noncomputable def slices_Index_int64_int64_S : List Arg → Option (Bool × Res) := fun xs => match xs with
  | [(false, [(.slice 2, TC.l A)]), (false, [(.int .i64, TC.i v)])] => some ((slices_Index_int64_int64_c A v), slices_Index_int64_int64_mk (slices_Index_int64_int64_v A v))
  | _ => .none
theorem slices_Index_int64_int64_e (A : List (List TC)) (v : Int) : runF tab FT D40 live 122 slices_Index_int64_int64_lo [(false, [(.slice 2, TC.l A)]), (false, [(.int .i64, TC.i v)])] = (slices_Index_int64_int64_t A v).run fun p => some (slices_Index_int64_int64_mk p) := by kernel_rfl
theorem slices_Index_int64_int64_s : ∀ xs r, slices_Index_int64_int64_S xs = some (true, r) → runF tab FT D40 live 122 slices_Index_int64_int64_lo xs = some r := by
  intro xs r h
  unfold slices_Index_int64_int64_S at h
  split at h
  · simp only [Option.some.injEq, Prod.mk.injEq] at h
    obtain ⟨h1, rfl⟩ := h
    exact fun_told (slices_Index_int64_int64_e _ _) (slices_Index_int64_int64_l _ _) h1
  · cases h
noncomputable def D41 : Dt := also D40 122 slices_Index_int64_int64_S
theorem d41 : DOk Go.Proofs.Try.prog tab D41 := d40.also mixed_ok tab_ok names_ok (fnLoops_one (by kernel_rfl) slices_Index_int64_int64_is2) slices_Index_int64_int64_s
theorem slices_Index_int64_int64_cc {A : List (List TC)} {v : Int} (hl : A.length ≤ 140737488351232) : (slices_Index_int64_int64_c A v) = true := by
  unfold slices_Index_int64_int64_c
  refine bifT (fun b1 => ?_) (fun b1 => ?_)
  · skip
    refine andT (by exact is_true ⟨rfl, hl, rfl⟩) ?_
    rfl
  · skip
    refine andT (by exact is_true ⟨rfl, hl, rfl⟩) ?_
    rfl
/-! slices_Contains_int64_int64 -/
noncomputable def slices_Contains_int64_int64_t (a0 : List (List TC)) (a1 : Int) : Tr (Bool) := (.ite ((slices_Index_int64_int64_c a0 a1) = true) (.ok (decide ((slices_Index_int64_int64_v a0 a1) ≥ (0 : Int))))
  .no)
def slices_Contains_int64_int64_mk (p : Bool) : Res := [(false, [⟨.bool, .sh, TC.b p⟩])]
noncomputable def slices_Contains_int64_int64_c (a0 : List (List TC)) (a1 : Int) : Bool := (slices_Index_int64_int64_c a0 a1)
noncomputable def slices_Contains_int64_int64_v (a0 : List (List TC)) (a1 : Int) : Bool := (decide ((slices_Index_int64_int64_v a0 a1) ≥ (0 : Int)))
theorem slices_Contains_int64_int64_l (a0 : List (List TC)) (a1 : Int) : (slices_Contains_int64_int64_c a0 a1) = true → (slices_Contains_int64_int64_t a0 a1).val = some (slices_Contains_int64_int64_v a0 a1) := by
  intro h
  have hc0 : (slices_Index_int64_int64_c a0 a1) = true := h
  unfold slices_Contains_int64_int64_t
  exact (Tr.t hc0 rfl)
noncomputable def slices_Contains_int64_int64_S : List Arg → Option (Bool × Res) := fun xs => match xs with
  | [(false, [(.slice 2, TC.l a0)]), (false, [(.int .i64, TC.i a1)])] => some ((slices_Contains_int64_int64_c a0 a1), slices_Contains_int64_int64_mk (slices_Contains_int64_int64_v a0 a1))
  | _ => .none
theorem slices_Contains_int64_int64_e (a0 : List (List TC)) (a1 : Int) : runF tab FT D41 live 93 noLoops [(false, [(.slice 2, TC.l a0)]), (false, [(.int .i64, TC.i a1)])] = (slices_Contains_int64_int64_t a0 a1).run fun p => some (slices_Contains_int64_int64_mk p) := by kernel_rfl
theorem slices_Contains_int64_int64_s : ∀ xs r, slices_Contains_int64_int64_S xs = some (true, r) → runF tab FT D41 live 93 noLoops xs = some r := by
  intro xs r h
  unfold slices_Contains_int64_int64_S at h
  split at h
  · simp only [Option.some.injEq, Prod.mk.injEq] at h
    obtain ⟨h1, rfl⟩ := h
    exact fun_told (slices_Contains_int64_int64_e _ _) (slices_Contains_int64_int64_l _ _) h1
  · cases h
noncomputable def D42 : Dt := also D41 93 slices_Contains_int64_int64_S
theorem d42 : DOk Go.Proofs.Try.prog tab D42 := d41.also mixed_ok tab_ok names_ok noLoops_ok slices_Contains_int64_int64_s
/-! impl_Type_intOk -/
noncomputable def impl_Type_intOk_t (k s : Int) (sg bg : Bool) (NA NU ME BA : List (List TC)) (ct : Int) : Tr (Bool) := (.ite ((slices_Contains_int64_int64_c [[TC.i (1 : Int)], [TC.i (2 : Int)], [TC.i (4 : Int)], [TC.i (8 : Int)]] s) = true) (.ite ((slices_Contains_int64_int64_v [[TC.i (1 : Int)], [TC.i (2 : Int)], [TC.i (4 : Int)], [TC.i (8 : Int)]] s) = true) (.ite (sg = true) (.ite (bg = true) (.ok (!(s == (1 : Int))))
     (.ok true))
    (.ite ((decide (s < (8 : Int))) = true) (.ite (bg = true) (.ok (!(s == (1 : Int))))
      (.ok true))
     (.ok false)))
   (.ok false))
  .no)
def impl_Type_intOk_mk (p : Bool) : Res := [(false, [⟨.bool, .sh, TC.b p⟩])]
noncomputable def impl_Type_intOk_c (k s : Int) (sg bg : Bool) (NA NU ME BA : List (List TC)) (ct : Int) : Bool := ((slices_Contains_int64_int64_c [[TC.i (1 : Int)], [TC.i (2 : Int)], [TC.i (4 : Int)], [TC.i (8 : Int)]] s) && (bif (slices_Contains_int64_int64_v [[TC.i (1 : Int)], [TC.i (2 : Int)], [TC.i (4 : Int)], [TC.i (8 : Int)]] s) then (bif sg then (bif bg then true else true) else (bif (decide (s < (8 : Int))) then (bif bg then true else true) else true)) else true))
noncomputable def impl_Type_intOk_v (k s : Int) (sg bg : Bool) (NA NU ME BA : List (List TC)) (ct : Int) : Bool := (bif (slices_Contains_int64_int64_v [[TC.i (1 : Int)], [TC.i (2 : Int)], [TC.i (4 : Int)], [TC.i (8 : Int)]] s) then (bif sg then (bif bg then (!(s == (1 : Int))) else true) else (bif (decide (s < (8 : Int))) then (bif bg then (!(s == (1 : Int))) else true) else false)) else false)
theorem impl_Type_intOk_l (k s : Int) (sg bg : Bool) (NA NU ME BA : List (List TC)) (ct : Int) : (impl_Type_intOk_c k s sg bg NA NU ME BA ct) = true → (impl_Type_intOk_t k s sg bg NA NU ME BA ct).val = some (impl_Type_intOk_v k s sg bg NA NU ME BA ct) := by
  unfold impl_Type_intOk_t impl_Type_intOk_v impl_Type_intOk_c
  exact fun h => (Tr.gb h fun h => (Tr.ss h (fun h => (Tr.ss h (fun h => (Tr.ss h (fun h => rfl) (fun h => rfl))) (fun h => (Tr.ss h (fun h => (Tr.ss h (fun h => rfl) (fun h => rfl))) (fun h => rfl))))) (fun h => rfl)))
noncomputable def impl_Type_intOk_S : List Arg → Option (Bool × Res) := fun xs => match xs with
  | [(true, [(.int .i64, TC.i k), (.int .i64, TC.i s), (.bool, TC.b sg), (.bool, TC.b bg), (.slice 9, TC.l NA), (.slice 2, TC.l NU), (.slice 77, TC.l ME), (.slice 32, TC.l BA), (.int .i64, TC.i ct)])] => some ((impl_Type_intOk_c k s sg bg NA NU ME BA ct), impl_Type_intOk_mk (impl_Type_intOk_v k s sg bg NA NU ME BA ct))
  | _ => .none
theorem impl_Type_intOk_e (k s : Int) (sg bg : Bool) (NA NU ME BA : List (List TC)) (ct : Int) : runF tab FT D42 live 114 noLoops [(true, [(.int .i64, TC.i k), (.int .i64, TC.i s), (.bool, TC.b sg), (.bool, TC.b bg), (.slice 9, TC.l NA), (.slice 2, TC.l NU), (.slice 77, TC.l ME), (.slice 32, TC.l BA), (.int .i64, TC.i ct)])] = (impl_Type_intOk_t k s sg bg NA NU ME BA ct).run fun p => some (impl_Type_intOk_mk p) := by kernel_rfl
theorem impl_Type_intOk_s : ∀ xs r, impl_Type_intOk_S xs = some (true, r) → runF tab FT D42 live 114 noLoops xs = some r := by
  intro xs r h
  unfold impl_Type_intOk_S at h
  split at h
  · simp only [Option.some.injEq, Prod.mk.injEq] at h
    obtain ⟨h1, rfl⟩ := h
    exact fun_told (impl_Type_intOk_e _ _ _ _ _ _ _ _ _) (impl_Type_intOk_l _ _ _ _ _ _ _ _ _) h1
  · cases h
noncomputable def D43 : Dt := also D42 114 impl_Type_intOk_S
theorem d43 : DOk Go.Proofs.Try.prog tab D43 := d42.also mixed_ok tab_ok names_ok noLoops_ok impl_Type_intOk_s
theorem impl_Type_intOk_cc1 (k s : Int) (sg bg : Bool) (NA NU ME BA : List (List TC)) (ct : Int) : impl_Type_intOk_c k s sg bg NA NU ME BA ct = true := by
  unfold impl_Type_intOk_c
  rw [show slices_Contains_int64_int64_c [[TC.i (1 : Int)], [TC.i (2 : Int)], [TC.i (4 : Int)], [TC.i (8 : Int)]] s = true from slices_Index_int64_int64_cc (by show 4 ≤ 140737488351232; omega)]
  simp only [bif_same, Bool.and_self]
theorem impl_Type_intOk_vv (k s : Int) (sg bg : Bool) (NA NU ME BA : List (List TC)) (ct : Int) : impl_Type_intOk_v k s sg bg NA NU ME BA ct = (has4 s && (!((s == 8) && !sg) && !((s == 1) && bg))) := by
  unfold impl_Type_intOk_v
  rw [show slices_Contains_int64_int64_v [[TC.i (1 : Int)], [TC.i (2 : Int)], [TC.i (4 : Int)], [TC.i (8 : Int)]] s = has4 s from by
    show decide ((bif [[TC.i (1 : Int)], [TC.i (2 : Int)], [TC.i (4 : Int)], [TC.i (8 : Int)]].all (fun x => !(s == (nth x 0).int)) then -1 else Int.ofNat _) ≥ 0) = _
    rw [show [[TC.i (1 : Int)], [TC.i (2 : Int)], [TC.i (4 : Int)], [TC.i (8 : Int)]].all (fun x => !(s == (nth x 0).int)) = !(has4 s) from by
      show (!(s == (1 : Int)) && (!(s == (2 : Int)) && (!(s == (4 : Int)) && (!(s == (8 : Int)) && true)))) = _
      unfold has4
      cases (s == 1) <;> cases (s == 2) <;> cases (s == 4) <;> cases (s == 8) <;> rfl]
    cases has4 s <;> simp]
  cases h4 : has4 s with
  | false => rfl
  | true =>
    rw [show decide (s < 8) = !(s == 8) from by
      unfold has4 at h4
      simp only [Bool.or_eq_true, beq_iff_eq] at h4
      rcases h4 with ((rfl | rfl) | rfl) | rfl <;> decide]
    cases sg <;> cases (s == 8) <;> cases bg <;> cases (s == 1) <;> rfl
/-! impl_within -/
noncomputable def impl_within_t (a0 a1 a2 : Int) : Tr (Bool) := (.ite ((decide (a0 ≥ a1)) = true) (.ok (decide (a0 ≤ a2)))
  (.ok false))
def impl_within_mk (p : Bool) : Res := [(false, [⟨.bool, .sh, TC.b p⟩])]
noncomputable def impl_within_c (a0 a1 a2 : Int) : Bool := true
noncomputable def impl_within_v (a0 a1 a2 : Int) : Bool := (bif (decide (a0 ≥ a1)) then (decide (a0 ≤ a2)) else false)
theorem impl_within_l (a0 a1 a2 : Int) : (impl_within_c a0 a1 a2) = true → (impl_within_t a0 a1 a2).val = some (impl_within_v a0 a1 a2) := by
  intro h
  skip
  unfold impl_within_t impl_within_v
  exact (Tr.s rfl rfl)
noncomputable def impl_within_S : List Arg → Option (Bool × Res) := fun xs => match xs with
  | [(false, [(.int .i64, TC.i a0)]), (false, [(.int .i64, TC.i a1)]), (false, [(.int .i64, TC.i a2)])] => some (true, impl_within_mk (impl_within_v a0 a1 a2))
  | _ => .none
theorem impl_within_e (a0 a1 a2 : Int) : runF tab FT D43 live 92 noLoops [(false, [(.int .i64, TC.i a0)]), (false, [(.int .i64, TC.i a1)]), (false, [(.int .i64, TC.i a2)])] = (impl_within_t a0 a1 a2).run fun p => some (impl_within_mk p) := by kernel_rfl
theorem impl_within_s : ∀ xs r, impl_within_S xs = some (true, r) → runF tab FT D43 live 92 noLoops xs = some r := by
  intro xs r h
  unfold impl_within_S at h
  split at h
  · simp only [Option.some.injEq, Prod.mk.injEq] at h
    obtain ⟨h1, rfl⟩ := h
    exact fun_told (impl_within_e _ _ _) (impl_within_l _ _ _) rfl
  · cases h
noncomputable def D44 : Dt := also D43 92 impl_within_S
theorem d44 : DOk Go.Proofs.Try.prog tab D44 := d43.also mixed_ok tab_ok names_ok noLoops_ok impl_within_s
/-! impl_Type_valid calls itself -/
section
class impl_Type_valid_O where n : Nat
variable [i_impl_Type_valid : impl_Type_valid_O]
noncomputable def impl_Type_valid_rc (k s : Int) (sg bg : Bool) (NA NU ME BA : List (List TC)) (ct d : Int) : Bool := is (max (rowsDep ME) (rowsDep BA) < impl_Type_valid_O.n ∧ d ≤ 3 ∧ max (rowsDep ME) (rowsDep BA) < impl_SameType_O.n ∧ max (rowsDep ME) (rowsDep BA) < impl_Type_size_O.n ∧ Typed tab (.slice 9) (.l NA) ∧ Typed tab (.slice 2) (.l NU) ∧ Typed tab (.slice 77) (.l ME) ∧ Typed tab (.slice 32) (.l BA))
noncomputable def impl_Type_valid_rv (k s : Int) (sg bg : Bool) (NA NU ME BA : List (List TC)) (ct d : Int) : Bool := validV k s sg bg NA NU ME BA ct d
def impl_Type_valid_rmk (p : Bool) : Res := [(false, [⟨.bool, .sh, TC.b p⟩])]
noncomputable def impl_Type_valid_rS : List Arg → Option (Bool × Res) := fun xs => match xs with
  | [(true, [(.int .i64, TC.i k), (.int .i64, TC.i s), (.bool, TC.b sg), (.bool, TC.b bg), (.slice 9, TC.l NA), (.slice 2, TC.l NU), (.slice 77, TC.l ME), (.slice 32, TC.l BA), (.int .i64, TC.i ct)]), (false, [(.int .i64, TC.i d)])] => some ((impl_Type_valid_rc k s sg bg NA NU ME BA ct d), impl_Type_valid_rmk (impl_Type_valid_rv k s sg bg NA NU ME BA ct d))
  | _ => .none
noncomputable def D45 : Dt := also D44 80 impl_Type_valid_rS
class impl_Type_valid_G : Prop where ok : DOk Go.Proofs.Try.prog tab D45
variable [g_impl_Type_valid : impl_Type_valid_G]
theorem d45 : DOk Go.Proofs.Try.prog tab D45 := impl_Type_valid_G.ok
/-! impl_Type_intRange -/
noncomputable def impl_Type_intRange_t (k s : Int) (sg bg : Bool) (NA NU ME BA : List (List TC)) (ct : Int) : Tr (Int × Int) := (.ite (sg = true) (.ite (0 ≤ (IntKind.wrap .i64 ((IntKind.wrap .i64 ((8 : Int) * s)) - (1 : Int)))) (.ite (0 ≤ (IntKind.wrap .i64 ((IntKind.wrap .i64 ((8 : Int) * s)) - (1 : Int)))) (.ok ((IntKind.wrap .i64 ((-1 : Int) * (2 ^ (min ((IntKind.wrap .i64 ((IntKind.wrap .i64 ((8 : Int) * s)) - (1 : Int)))).toNat 64)))), (IntKind.wrap .i64 ((IntKind.wrap .i64 ((1 : Int) * (2 ^ (min ((IntKind.wrap .i64 ((IntKind.wrap .i64 ((8 : Int) * s)) - (1 : Int)))).toNat 64)))) - (1 : Int)))))
    .no)
   .no)
  (.ite (0 ≤ (IntKind.wrap .i64 ((8 : Int) * s))) (.ok ((0 : Int), (IntKind.wrap .i64 ((IntKind.wrap .i64 ((1 : Int) * (2 ^ (min ((IntKind.wrap .i64 ((8 : Int) * s))).toNat 64)))) - (1 : Int)))))
   .no))
def impl_Type_intRange_mk (p : Int × Int) : Res := [(false, [⟨.int .i64, .sh, TC.i (p.1)⟩]), (false, [⟨.int .i64, .sh, TC.i (p.2)⟩])]
noncomputable def impl_Type_intRange_c (k s : Int) (sg bg : Bool) (NA NU ME BA : List (List TC)) (ct : Int) : Bool := (bif sg then (is (0 ≤ (IntKind.wrap .i64 ((IntKind.wrap .i64 ((8 : Int) * s)) - (1 : Int)))) && (is (0 ≤ (IntKind.wrap .i64 ((IntKind.wrap .i64 ((8 : Int) * s)) - (1 : Int)))) && true)) else (is (0 ≤ (IntKind.wrap .i64 ((8 : Int) * s))) && true))
noncomputable def impl_Type_intRange_v (k s : Int) (sg bg : Bool) (NA NU ME BA : List (List TC)) (ct : Int) : Int × Int := (bif sg then ((IntKind.wrap .i64 ((-1 : Int) * (2 ^ (min ((IntKind.wrap .i64 ((IntKind.wrap .i64 ((8 : Int) * s)) - (1 : Int)))).toNat 64)))), (IntKind.wrap .i64 ((IntKind.wrap .i64 ((1 : Int) * (2 ^ (min ((IntKind.wrap .i64 ((IntKind.wrap .i64 ((8 : Int) * s)) - (1 : Int)))).toNat 64)))) - (1 : Int)))) else ((0 : Int), (IntKind.wrap .i64 ((IntKind.wrap .i64 ((1 : Int) * (2 ^ (min ((IntKind.wrap .i64 ((8 : Int) * s))).toNat 64)))) - (1 : Int)))))
theorem impl_Type_intRange_l (k s : Int) (sg bg : Bool) (NA NU ME BA : List (List TC)) (ct : Int) : (impl_Type_intRange_c k s sg bg NA NU ME BA ct) = true → (impl_Type_intRange_t k s sg bg NA NU ME BA ct).val = some (impl_Type_intRange_v k s sg bg NA NU ME BA ct) := by
  unfold impl_Type_intRange_t impl_Type_intRange_v impl_Type_intRange_c
  exact fun h => (Tr.ss h (fun h => (Tr.gs h fun h => (Tr.gs h fun h => rfl))) (fun h => (Tr.gs h fun h => rfl)))
noncomputable def impl_Type_intRange_S : List Arg → Option (Bool × Res) := fun xs => match xs with
  | [(true, [(.int .i64, TC.i k), (.int .i64, TC.i s), (.bool, TC.b sg), (.bool, TC.b bg), (.slice 9, TC.l NA), (.slice 2, TC.l NU), (.slice 77, TC.l ME), (.slice 32, TC.l BA), (.int .i64, TC.i ct)])] => some ((impl_Type_intRange_c k s sg bg NA NU ME BA ct), impl_Type_intRange_mk (impl_Type_intRange_v k s sg bg NA NU ME BA ct))
  | _ => .none
theorem impl_Type_intRange_e (k s : Int) (sg bg : Bool) (NA NU ME BA : List (List TC)) (ct : Int) : runF tab FT D45 live 91 noLoops [(true, [(.int .i64, TC.i k), (.int .i64, TC.i s), (.bool, TC.b sg), (.bool, TC.b bg), (.slice 9, TC.l NA), (.slice 2, TC.l NU), (.slice 77, TC.l ME), (.slice 32, TC.l BA), (.int .i64, TC.i ct)])] = (impl_Type_intRange_t k s sg bg NA NU ME BA ct).run fun p => some (impl_Type_intRange_mk p) := by kernel_rfl
theorem impl_Type_intRange_s : ∀ xs r, impl_Type_intRange_S xs = some (true, r) → runF tab FT D45 live 91 noLoops xs = some r := by
  intro xs r h
  unfold impl_Type_intRange_S at h
  split at h
  · simp only [Option.some.injEq, Prod.mk.injEq] at h
    obtain ⟨h1, rfl⟩ := h
    exact fun_told (impl_Type_intRange_e _ _ _ _ _ _ _ _ _) (impl_Type_intRange_l _ _ _ _ _ _ _ _ _) h1
  · cases h
noncomputable def D46 : Dt := also D45 91 impl_Type_intRange_S
theorem d46 : DOk Go.Proofs.Try.prog tab D46 := d45.also mixed_ok tab_ok names_ok noLoops_ok impl_Type_intRange_s
theorem irange {k s : Int} {sg bg : Bool} {NA NU ME BA : List (List TC)} {ct : Int} (h : intV s sg bg NA NU ME BA ct = true) : impl_Type_intRange_c k s sg bg NA NU ME BA ct = true ∧ (impl_Type_intRange_v k s sg bg NA NU ME BA ct).1 = loV s sg ∧ (impl_Type_intRange_v k s sg bg NA NU ME BA ct).2 = hiV s sg := by
  unfold intV has4 at h
  simp only [Bool.and_eq_true, Bool.or_eq_true, beq_iff_eq] at h
  have hs := h.1.1.1
  have h8 := h.1.1.2
  rcases hs with ((rfl | rfl) | rfl) | rfl <;> cases sg <;> first | (exact ⟨by unfold impl_Type_intRange_c; first | exact andT (is_true (by decide)) (andT (is_true (by decide)) rfl) | exact andT (is_true (by decide)) rfl, by unfold impl_Type_intRange_v loV; decide, by unfold impl_Type_intRange_v hiV; decide⟩) | (exact absurd h8 (by decide))
/-! impl_IsName -/
noncomputable def impl_IsName_f2 (s : List UInt8) (m i : Int) : (Unit) ⊕ ((List UInt8) ⊕ (List UInt8)) := (bif (decide (((s.getD (i).toNat 0).toNat : Int) ≥ (65 : Int))) then (bif (decide (((s.getD (i).toNat 0).toNat : Int) ≤ (90 : Int))) then (.inl ()) else (bif (decide (((s.getD (i).toNat 0).toNat : Int) ≥ (97 : Int))) then (bif (!(decide (((s.getD (i).toNat 0).toNat : Int) ≤ (122 : Int)))) then (bif (i == (0 : Int)) then (.inr (.inl s)) else (bif (decide (((s.getD (i).toNat 0).toNat : Int) < (48 : Int))) then (bif (!(((s.getD (i).toNat 0).toNat : Int) == (95 : Int))) then (.inr (.inl s)) else (.inl ())) else (bif (decide (((s.getD (i).toNat 0).toNat : Int) > (57 : Int))) then (bif (!(((s.getD (i).toNat 0).toNat : Int) == (95 : Int))) then (.inr (.inl s)) else (.inl ())) else (.inl ())))) else (.inl ())) else (bif (i == (0 : Int)) then (.inr (.inl s)) else (bif (decide (((s.getD (i).toNat 0).toNat : Int) < (48 : Int))) then (bif (!(((s.getD (i).toNat 0).toNat : Int) == (95 : Int))) then (.inr (.inl s)) else (.inl ())) else (bif (decide (((s.getD (i).toNat 0).toNat : Int) > (57 : Int))) then (bif (!(((s.getD (i).toNat 0).toNat : Int) == (95 : Int))) then (.inr (.inl s)) else (.inl ())) else (.inl ())))))) else (bif (decide (((s.getD (i).toNat 0).toNat : Int) ≥ (97 : Int))) then (bif (!(decide (((s.getD (i).toNat 0).toNat : Int) ≤ (122 : Int)))) then (bif (i == (0 : Int)) then (.inr (.inl s)) else (bif (decide (((s.getD (i).toNat 0).toNat : Int) < (48 : Int))) then (bif (!(((s.getD (i).toNat 0).toNat : Int) == (95 : Int))) then (.inr (.inl s)) else (.inl ())) else (bif (decide (((s.getD (i).toNat 0).toNat : Int) > (57 : Int))) then (bif (!(((s.getD (i).toNat 0).toNat : Int) == (95 : Int))) then (.inr (.inl s)) else (.inl ())) else (.inl ())))) else (.inl ())) else (bif (i == (0 : Int)) then (.inr (.inl s)) else (bif (decide (((s.getD (i).toNat 0).toNat : Int) < (48 : Int))) then (bif (!(((s.getD (i).toNat 0).toNat : Int) == (95 : Int))) then (.inr (.inl s)) else (.inl ())) else (bif (decide (((s.getD (i).toNat 0).toNat : Int) > (57 : Int))) then (bif (!(((s.getD (i).toNat 0).toNat : Int) == (95 : Int))) then (.inr (.inl s)) else (.inl ())) else (.inl ()))))))
noncomputable def impl_IsName_e2 (s : List UInt8) (m : Int) : (List UInt8) ⊕ (List UInt8) := .inr s
noncomputable def impl_IsName_R2 (s : List UInt8) (m i : Int) : (List UInt8) ⊕ (List UInt8) := iter (fun i a => (impl_IsName_f2 s m (i : Int))) (fun a => (impl_IsName_e2 s m)) (s.length) 0 ()
abbrev impl_IsName_2_σ := List UInt8 × Int × Int
abbrev impl_IsName_2_ω := (List UInt8) ⊕ (List UInt8)
noncomputable def impl_IsName_2_step (s : List UInt8) (m i : Int) : Tr (impl_IsName_2_σ ⊕ impl_IsName_2_ω) := (.ite ((decide (i < m)) = true) (.ite ((0 : Int) ≤ i ∧ i < (s.length : Int)) (.ite ((decide (((s.getD (i).toNat 0).toNat : Int) ≥ (65 : Int))) = true) (.ite ((decide (((s.getD (i).toNat 0).toNat : Int) ≤ (90 : Int))) = true) (.ok (.inl (s, m, (IntKind.wrap .i64 (i + (1 : Int))))))
     (.ite ((decide (((s.getD (i).toNat 0).toNat : Int) ≥ (97 : Int))) = true) (.ite ((!(decide (((s.getD (i).toNat 0).toNat : Int) ≤ (122 : Int)))) = true) (.ite ((i == (0 : Int)) = true) (.ok (.inr (.inl s)))
        (.ite ((decide (((s.getD (i).toNat 0).toNat : Int) < (48 : Int))) = true) (.ite ((!(((s.getD (i).toNat 0).toNat : Int) == (95 : Int))) = true) (.ok (.inr (.inl s)))
          (.ok (.inl (s, m, (IntKind.wrap .i64 (i + (1 : Int)))))))
         (.ite ((decide (((s.getD (i).toNat 0).toNat : Int) > (57 : Int))) = true) (.ite ((!(((s.getD (i).toNat 0).toNat : Int) == (95 : Int))) = true) (.ok (.inr (.inl s)))
           (.ok (.inl (s, m, (IntKind.wrap .i64 (i + (1 : Int)))))))
          (.ok (.inl (s, m, (IntKind.wrap .i64 (i + (1 : Int)))))))))
       (.ok (.inl (s, m, (IntKind.wrap .i64 (i + (1 : Int)))))))
      (.ite ((i == (0 : Int)) = true) (.ok (.inr (.inl s)))
       (.ite ((decide (((s.getD (i).toNat 0).toNat : Int) < (48 : Int))) = true) (.ite ((!(((s.getD (i).toNat 0).toNat : Int) == (95 : Int))) = true) (.ok (.inr (.inl s)))
         (.ok (.inl (s, m, (IntKind.wrap .i64 (i + (1 : Int)))))))
        (.ite ((decide (((s.getD (i).toNat 0).toNat : Int) > (57 : Int))) = true) (.ite ((!(((s.getD (i).toNat 0).toNat : Int) == (95 : Int))) = true) (.ok (.inr (.inl s)))
          (.ok (.inl (s, m, (IntKind.wrap .i64 (i + (1 : Int)))))))
         (.ok (.inl (s, m, (IntKind.wrap .i64 (i + (1 : Int)))))))))))
    (.ite ((decide (((s.getD (i).toNat 0).toNat : Int) ≥ (97 : Int))) = true) (.ite ((!(decide (((s.getD (i).toNat 0).toNat : Int) ≤ (122 : Int)))) = true) (.ite ((i == (0 : Int)) = true) (.ok (.inr (.inl s)))
       (.ite ((decide (((s.getD (i).toNat 0).toNat : Int) < (48 : Int))) = true) (.ite ((!(((s.getD (i).toNat 0).toNat : Int) == (95 : Int))) = true) (.ok (.inr (.inl s)))
         (.ok (.inl (s, m, (IntKind.wrap .i64 (i + (1 : Int)))))))
        (.ite ((decide (((s.getD (i).toNat 0).toNat : Int) > (57 : Int))) = true) (.ite ((!(((s.getD (i).toNat 0).toNat : Int) == (95 : Int))) = true) (.ok (.inr (.inl s)))
          (.ok (.inl (s, m, (IntKind.wrap .i64 (i + (1 : Int)))))))
         (.ok (.inl (s, m, (IntKind.wrap .i64 (i + (1 : Int)))))))))
      (.ok (.inl (s, m, (IntKind.wrap .i64 (i + (1 : Int)))))))
     (.ite ((i == (0 : Int)) = true) (.ok (.inr (.inl s)))
      (.ite ((decide (((s.getD (i).toNat 0).toNat : Int) < (48 : Int))) = true) (.ite ((!(((s.getD (i).toNat 0).toNat : Int) == (95 : Int))) = true) (.ok (.inr (.inl s)))
        (.ok (.inl (s, m, (IntKind.wrap .i64 (i + (1 : Int)))))))
       (.ite ((decide (((s.getD (i).toNat 0).toNat : Int) > (57 : Int))) = true) (.ite ((!(((s.getD (i).toNat 0).toNat : Int) == (95 : Int))) = true) (.ok (.inr (.inl s)))
         (.ok (.inl (s, m, (IntKind.wrap .i64 (i + (1 : Int)))))))
        (.ok (.inl (s, m, (IntKind.wrap .i64 (i + (1 : Int)))))))))))
   .no)
  (.ok (.inr (.inr s))))
noncomputable def impl_IsName_2_st : impl_IsName_2_σ → Tr (impl_IsName_2_σ ⊕ impl_IsName_2_ω) := fun x => (impl_IsName_2_step (x.1) (x.2.1) (x.2.2))
noncomputable def impl_IsName_k2_1 (s : List UInt8) (m i : Int) : Bool := sumIs (impl_IsName_R2 s m i)
noncomputable def impl_IsName_o2_2 (s : List UInt8) (m i : Int) : Bool := is (i = 0 ∧ s.length ≤ 140737488355328 ∧ m = (s.length : Int))
noncomputable def impl_IsName_o2_3 (s : List UInt8) (m i : Int) : Bool := is (i = 0 ∧ s.length ≤ 140737488355328 ∧ m = (s.length : Int))
noncomputable def impl_IsName_2_fin (s : List UInt8) (m i : Int) : Told impl_IsName_2_ω := (.br (impl_IsName_k2_1 s m i) (.leaf (impl_IsName_o2_2 s m i) (.inl s)) (.leaf (impl_IsName_o2_3 s m i) (.inr s)))
def impl_IsName_2_sl (x : impl_IsName_2_σ) : List Slot := [⟨.val false [⟨.str, .sh, TC.s (x.1)⟩], ⟨0, 0⟩⟩, ⟨.val false [⟨.int .i64, .sh, TC.i (x.2.1)⟩], ⟨0, 0⟩⟩, ⟨.val false [⟨.int .i64, .sh, TC.i (x.2.2)⟩], ⟨0, 0⟩⟩]
def impl_IsName_2_out : impl_IsName_2_ω → Ex × List Slot := (Sum.elim (fun x => (.ret, [⟨.val false [⟨.str, .sh, TC.s x⟩], ⟨0, 0⟩⟩, ⟨.val false [⟨.bool, .sh, TC.b false⟩], ⟨0, 0⟩⟩])) (fun x => (.exit 0, [⟨.val false [⟨.str, .sh, TC.s x⟩], ⟨0, 0⟩⟩, Slot.none])))
noncomputable def impl_IsName_lo2 : List Slot → Option (Told (Ex × List Slot)) := fun s => match s with
  | [⟨.val false [⟨.str, .sh, TC.s s⟩], ⟨0, 0⟩⟩, ⟨.val false [⟨.int .i64, .sh, TC.i m⟩], ⟨0, 0⟩⟩, ⟨.val false [⟨.int .i64, .sh, TC.i i⟩], ⟨0, 0⟩⟩] => some (((impl_IsName_2_fin s m i)).map impl_IsName_2_out)
  | _ => .none
noncomputable def impl_IsName_lo : LoopTeller := fun r s => bif Nat.beq r 2 then impl_IsName_lo2 s else .none
theorem impl_IsName_2_r (s : List UInt8) (m i : Int) (fuel : Nat) : rounds (rnd tab FT D46 live 156 impl_IsName_lo 0 2) leave (fuel + 1) (impl_IsName_2_sl (s, m, i)) = ((impl_IsName_2_step s m i)).run (goOn (fun s => rounds (rnd tab FT D46 live 156 impl_IsName_lo 0 2) leave fuel (impl_IsName_2_sl s)) fun w => some (impl_IsName_2_out w)) := by kernel_rfl
theorem impl_IsName_f2_eq (s : List UInt8) (m i : Int) : impl_IsName_f2 s m i = bif nameB i ((s.getD (i).toNat 0).toNat : Int) then Sum.inl () else Sum.inr (Sum.inl s) := by
  unfold impl_IsName_f2 nameB letterB
  simp only [dlt, dgt]
  generalize ((s.getD i.toNat 0).toNat : Int) = c
  generalize decide (c ≥ 65) = p0, decide (c ≤ 90) = p1, decide (c ≥ 97) = p2, decide (c ≤ 122) = p3, decide (c ≥ 48) = p4, decide (c ≤ 57) = p5, (c == 95) = p6, (i == 0) = p7
  cases p0 <;> cases p1 <;> cases p2 <;> cases p3 <;> cases p4 <;> cases p5 <;> cases p6 <;> cases p7 <;> rfl
theorem impl_IsName_R2_eq (s : List UInt8) (m : Int)  : impl_IsName_R2 s m 0 = bif allI (fun i : Nat => nameB (i : Int) ((s.getD ((i : Int)).toNat 0).toNat : Int)) (s.length) then Sum.inr s else (Sum.inl s) := by
  unfold impl_IsName_R2
  exact (iter_all (P := (fun i : Nat => nameB (i : Int) ((s.getD ((i : Int)).toNat 0).toNat : Int))) (g := fun _ a => a) (w := Sum.inl s) fun j a _ => impl_IsName_f2_eq s m _)
theorem impl_IsName_2_h (s : List UInt8) (m i : Int) (ow : impl_IsName_2_ω) : ((impl_IsName_2_fin s m i)).val = some ow → ∃ fuel, loopN impl_IsName_2_st fuel (s, m, i) = some ow := by
  refine auto_const (R := (impl_IsName_R2 s m i)) rfl (iter_onR (f := (fun i a => (impl_IsName_f2 s m (i : Int)))) (fin := (fun a => (impl_IsName_e2 s m))) (Q := endsAs s s) (fun i a => by unfold impl_IsName_f2; exact (onR_bif (onR_bif trivial (onR_bif (onR_bif (onR_bif rfl (onR_bif (onR_bif rfl trivial) (onR_bif (onR_bif rfl trivial) trivial))) trivial) (onR_bif rfl (onR_bif (onR_bif rfl trivial) (onR_bif (onR_bif rfl trivial) trivial))))) (onR_bif (onR_bif (onR_bif rfl (onR_bif (onR_bif rfl trivial) (onR_bif (onR_bif rfl trivial) trivial))) trivial) (onR_bif rfl (onR_bif (onR_bif rfl trivial) (onR_bif (onR_bif rfl trivial) trivial)))))) (fun _ => rfl) _ _ _) ?_
  intro ho
  have ho : is (i = 0 ∧ s.length ≤ 140737488355328 ∧ m = (s.length : Int)) = true := ho.elim id id
  obtain ⟨rfl, hs, rfl⟩ := is_iff.1 ho
  skip
  refine ⟨(s.length) + 1, ?_⟩
  refine iter_loop (step := impl_IsName_2_st) (s.length) (fun i a => (impl_IsName_f2 s (s.length : Int) (i : Int))) (fun a => (impl_IsName_e2 s (s.length : Int))) (fun i a => (s, (s.length : Int), (i : Int))) (fun _ _ => True) trivial (fun i a hi hI => ⟨?_, fun _ _ => trivial⟩) (fun a hI => ?_)
  · show (impl_IsName_2_step s (s.length : Int) (i : Int)).val = _
    unfold impl_IsName_2_step impl_IsName_f2
    skip
    refine Tr.t (by simp; omega) ?_
    exact (Tr.t (by first | omega | (constructor <;> omega)) (Tr.bf (Tr.bf (by rw [Tr.val_ok, wrap64 (i := (i : Int) + 1) (by omega) (by omega)]; rfl) (Tr.bf (Tr.bf (Tr.bf rfl (Tr.bf (Tr.bf rfl (by rw [Tr.val_ok, wrap64 (i := (i : Int) + 1) (by omega) (by omega)]; rfl)) (Tr.bf (Tr.bf rfl (by rw [Tr.val_ok, wrap64 (i := (i : Int) + 1) (by omega) (by omega)]; rfl)) (by rw [Tr.val_ok, wrap64 (i := (i : Int) + 1) (by omega) (by omega)]; rfl)))) (by rw [Tr.val_ok, wrap64 (i := (i : Int) + 1) (by omega) (by omega)]; rfl)) (Tr.bf rfl (Tr.bf (Tr.bf rfl (by rw [Tr.val_ok, wrap64 (i := (i : Int) + 1) (by omega) (by omega)]; rfl)) (Tr.bf (Tr.bf rfl (by rw [Tr.val_ok, wrap64 (i := (i : Int) + 1) (by omega) (by omega)]; rfl)) (by rw [Tr.val_ok, wrap64 (i := (i : Int) + 1) (by omega) (by omega)]; rfl)))))) (Tr.bf (Tr.bf (Tr.bf rfl (Tr.bf (Tr.bf rfl (by rw [Tr.val_ok, wrap64 (i := (i : Int) + 1) (by omega) (by omega)]; rfl)) (Tr.bf (Tr.bf rfl (by rw [Tr.val_ok, wrap64 (i := (i : Int) + 1) (by omega) (by omega)]; rfl)) (by rw [Tr.val_ok, wrap64 (i := (i : Int) + 1) (by omega) (by omega)]; rfl)))) (by rw [Tr.val_ok, wrap64 (i := (i : Int) + 1) (by omega) (by omega)]; rfl)) (Tr.bf rfl (Tr.bf (Tr.bf rfl (by rw [Tr.val_ok, wrap64 (i := (i : Int) + 1) (by omega) (by omega)]; rfl)) (Tr.bf (Tr.bf rfl (by rw [Tr.val_ok, wrap64 (i := (i : Int) + 1) (by omega) (by omega)]; rfl)) (by rw [Tr.val_ok, wrap64 (i := (i : Int) + 1) (by omega) (by omega)]; rfl)))))))
  · show (impl_IsName_2_step s (s.length : Int) (s.length : Int)).val = _
    refine Tr.n (by first | (simp; done) | (simp; omega) | omega) ?_
    rfl
theorem impl_IsName_is2 : LoopIs tab FT D46 live 156 impl_IsName_lo 0 2 := by
  refine loop_told (sl := impl_IsName_2_sl) (step := impl_IsName_2_st) (out := impl_IsName_2_out) (lor := impl_IsName_lo2) (fin := fun x => (impl_IsName_2_fin (x.1) (x.2.1) (x.2.2))) (fun _ => rfl) ?_ (fun x n => impl_IsName_2_r x.1 x.2.1 x.2.2 n) (fun x ow => impl_IsName_2_h x.1 x.2.1 x.2.2 ow)
  intro s t h
  unfold impl_IsName_lo2 at h
  split at h
  · cases h; exact ⟨(_, _, _), rfl, rfl⟩
  · cases h
noncomputable def impl_IsName_t (s : List UInt8) : Tr (Bool) := (.ite ((impl_IsName_k2_1 s (s.length : Int) (0 : Int)) = true) (.ite ((impl_IsName_o2_2 s (s.length : Int) (0 : Int)) = true) (.ok false)
   .no)
  (.ite ((impl_IsName_o2_3 s (s.length : Int) (0 : Int)) = true) (.ite ((decide ((s.length : Int) ≥ (1 : Int))) = true) (.ok (decide ((s.length : Int) ≤ (12 : Int))))
    (.ok false))
   .no))
def impl_IsName_mk (p : Bool) : Res := [(false, [⟨.bool, .sh, TC.b p⟩])]
noncomputable def impl_IsName_c (s : List UInt8) : Bool := (bif (impl_IsName_k2_1 s (s.length : Int) (0 : Int)) then ((impl_IsName_o2_2 s (s.length : Int) (0 : Int)) && true) else ((impl_IsName_o2_3 s (s.length : Int) (0 : Int)) && (bif (decide ((s.length : Int) ≥ (1 : Int))) then true else true)))
noncomputable def impl_IsName_v (s : List UInt8) : Bool := (bif (impl_IsName_k2_1 s (s.length : Int) (0 : Int)) then false else (bif (decide ((s.length : Int) ≥ (1 : Int))) then (decide ((s.length : Int) ≤ (12 : Int))) else false))
theorem impl_IsName_l (s : List UInt8) : (impl_IsName_c s) = true → (impl_IsName_t s).val = some (impl_IsName_v s) := by
  unfold impl_IsName_t impl_IsName_v impl_IsName_c
  exact fun h => (Tr.ss h (fun h => (Tr.gb h fun h => rfl)) (fun h => (Tr.gb h fun h => (Tr.ss h (fun h => rfl) (fun h => rfl)))))
noncomputable def impl_IsName_S : List Arg → Option (Bool × Res) := fun xs => match xs with
  | [(false, [(.str, TC.s s)])] => some ((impl_IsName_c s), impl_IsName_mk (impl_IsName_v s))
  | _ => .none
theorem impl_IsName_e (s : List UInt8) : runF tab FT D46 live 156 impl_IsName_lo [(false, [(.str, TC.s s)])] = (impl_IsName_t s).run fun p => some (impl_IsName_mk p) := by kernel_rfl
theorem impl_IsName_s : ∀ xs r, impl_IsName_S xs = some (true, r) → runF tab FT D46 live 156 impl_IsName_lo xs = some r := by
  intro xs r h
  unfold impl_IsName_S at h
  split at h
  · simp only [Option.some.injEq, Prod.mk.injEq] at h
    obtain ⟨h1, rfl⟩ := h
    exact fun_told (impl_IsName_e _) (impl_IsName_l _) h1
  · cases h
noncomputable def D47 : Dt := also D46 156 impl_IsName_S
theorem d47 : DOk Go.Proofs.Try.prog tab D47 := d46.also mixed_ok tab_ok names_ok (fnLoops_one (by kernel_rfl) impl_IsName_is2) impl_IsName_s
theorem impl_IsName_cc {s : List UInt8} (hs : Typed tab (.str) (.s s)) : (impl_IsName_c s) = true := by
  unfold impl_IsName_c
  refine bifT (fun b1 => ?_) (fun b1 => ?_)
  · skip
    refine andT (by exact is_true ⟨rfl, by have := typed_str_len hs; omega, rfl⟩) ?_
    rfl
  · skip
    refine andT (by exact is_true ⟨rfl, by have := typed_str_len hs; omega, rfl⟩) ?_
    refine bifT (fun b2 => ?_) (fun b2 => ?_)
    · skip
      rfl
    · skip
      rfl
theorem impl_IsName_vv (s : List UInt8) : impl_IsName_v s = nameOk s := by
  unfold impl_IsName_v impl_IsName_k2_1 nameOk
  rw [impl_IsName_R2_eq]
  generalize allI (fun i : Nat => nameB (i : Int) ((s.getD ((i : Int)).toNat 0).toNat : Int)) s.length = q
  cases q
  · simp [sumIs]
  · show (bif decide ((s.length : Int) ≥ 1) then decide ((s.length : Int) ≤ 12) else false) = (decide ((s.length : Int) ≥ 1) && decide ((s.length : Int) ≤ 12) && true)
    generalize decide ((s.length : Int) ≥ 1) = q1, decide ((s.length : Int) ≤ 12) = q2
    cases q1 <;> cases q2 <;> rfl
/-! slices_Index_string_string -/
abbrev slices_Index_string_string_2_σ := List (List TC) × List UInt8 × Int × Int
abbrev slices_Index_string_string_2_ω := (Int) ⊕ (Unit)
noncomputable def slices_Index_string_string_2_step (A : List (List TC)) (s : List UInt8) (m i : Int) : Tr (slices_Index_string_string_2_σ ⊕ slices_Index_string_string_2_ω) := (.ite ((decide (i < m)) = true) (.ite ((0 : Int) ≤ i ∧ i < (A.length : Int)) (.ite ((s == (nth (row A i) 0).str) = true) (.ok (.inr (.inl i)))
    (.ok (.inl (A, s, m, (IntKind.wrap .i64 (i + (1 : Int)))))))
   .no)
  (.ok (.inr (.inr ()))))
noncomputable def slices_Index_string_string_2_st : slices_Index_string_string_2_σ → Tr (slices_Index_string_string_2_σ ⊕ slices_Index_string_string_2_ω) := fun x => (slices_Index_string_string_2_step (x.1) (x.2.1) (x.2.2.1) (x.2.2.2))
noncomputable def slices_Index_string_string_k2_1 (A : List (List TC)) (s : List UInt8) (m i : Int) : Bool := A.all (fun x => !(s == (nth x 0).str))
noncomputable def slices_Index_string_string_o2_2 (A : List (List TC)) (s : List UInt8) (m i : Int) : Bool := is (i = 0 ∧ Typed tab (.slice 9) (.l A) ∧ m = (A.length : Int))
noncomputable def slices_Index_string_string_o2_3 (A : List (List TC)) (s : List UInt8) (m i : Int) : Bool := is (i = 0 ∧ Typed tab (.slice 9) (.l A) ∧ m = (A.length : Int))
noncomputable def slices_Index_string_string_u2_3 (A : List (List TC)) (s : List UInt8) (m i : Int) : Int := (Int.ofNat (A.findIdx fun x => !(fun x => !(s == (nth x 0).str)) x))
noncomputable def slices_Index_string_string_2_fin (A : List (List TC)) (s : List UInt8) (m i : Int) : Told slices_Index_string_string_2_ω := (.br (slices_Index_string_string_k2_1 A s m i) (.leaf (slices_Index_string_string_o2_2 A s m i) (.inr ())) (.leaf (slices_Index_string_string_o2_3 A s m i) (.inl (slices_Index_string_string_u2_3 A s m i))))
def slices_Index_string_string_2_sl (x : slices_Index_string_string_2_σ) : List Slot := [⟨.val false [⟨.slice 9, .sh, TC.l (x.1)⟩], ⟨0, 0⟩⟩, ⟨.val false [⟨.str, .sh, TC.s (x.2.1)⟩], ⟨0, 0⟩⟩, ⟨.val false [⟨.int .i64, .sh, TC.i (x.2.2.1)⟩], ⟨0, 0⟩⟩, ⟨.val false [⟨.int .i64, .sh, TC.i (x.2.2.2)⟩], ⟨0, 0⟩⟩]
def slices_Index_string_string_2_out : slices_Index_string_string_2_ω → Ex × List Slot := (Sum.elim (fun x => (.ret, [⟨.val false [⟨.int .i64, .sh, TC.i x⟩], ⟨0, 0⟩⟩])) (fun x => (.exit 0, [Slot.none])))
noncomputable def slices_Index_string_string_lo2 : List Slot → Option (Told (Ex × List Slot)) := fun s => match s with
  | [⟨.val false [⟨.slice 9, .sh, TC.l A⟩], ⟨0, 0⟩⟩, ⟨.val false [⟨.str, .sh, TC.s s⟩], ⟨0, 0⟩⟩, ⟨.val false [⟨.int .i64, .sh, TC.i m⟩], ⟨0, 0⟩⟩, ⟨.val false [⟨.int .i64, .sh, TC.i i⟩], ⟨0, 0⟩⟩] => some (((slices_Index_string_string_2_fin A s m i)).map slices_Index_string_string_2_out)
  | _ => .none
noncomputable def slices_Index_string_string_lo : LoopTeller := fun r s => bif Nat.beq r 2 then slices_Index_string_string_lo2 s else .none
theorem slices_Index_string_string_2_r (A : List (List TC)) (s : List UInt8) (m i : Int) (fuel : Nat) : rounds (rnd tab FT D47 live 149 slices_Index_string_string_lo 0 2) leave (fuel + 1) (slices_Index_string_string_2_sl (A, s, m, i)) = ((slices_Index_string_string_2_step A s m i)).run (goOn (fun s => rounds (rnd tab FT D47 live 149 slices_Index_string_string_lo 0 2) leave fuel (slices_Index_string_string_2_sl s)) fun w => some (slices_Index_string_string_2_out w)) := by kernel_rfl
theorem slices_Index_string_string_2_h (A : List (List TC)) (s : List UInt8) (m i : Int) (ow : slices_Index_string_string_2_ω) : ((slices_Index_string_string_2_fin A s m i)).val = some ow → ∃ fuel, loopN slices_Index_string_string_2_st fuel (A, s, m, i) = some ow := by
  intro h
  have key : Typed tab (.slice 9) (.l A) → loopN slices_Index_string_string_2_st (A.length + 1) (A, s, (A.length : Int), (0 : Int)) = some (if A.all (fun x => !(s == (nth x 0).str)) = true then (.inr ()) else (.inl (Int.ofNat (A.findIdx fun x => !(fun x => !(s == (nth x 0).str)) x)))) := by
    intro ht
    have hlen : A.length ≤ 140737488351232 := by have := typed_room ht; simp only [show (tab 9).bytes = 16 from rfl] at this; omega
    have key := loopN_scan (step := slices_Index_string_string_2_st) A [] (fun x => !(s == (nth x 0).str)) (fun a _ => a) (fun i a => (A, s, (A.length : Int), (i : Int))) (fun a => (.inr ())) (fun i a => (.inl (i : Int))) (fun i a hi => ?_) (fun a => ?_) A.length 0 () (by omega)
    · first | (rw [Nat.zero_add] at key; exact key) | exact key
    · have c0 : Typed tab (.str) (.s (nth (A.getD i []) 0).str) := typed_s (typed_cell ht (A.getD i []) (mem_getD hi) 0 (by decide))
      show (slices_Index_string_string_2_step A s (A.length : Int) (i : Int)).val = _
      unfold slices_Index_string_string_2_step
      refine Tr.t (by simp; omega) ?_
      skip
      refine Tr.t (by first | omega | (constructor <;> omega)) ?_
      refine Tr.b2 (fun hP => ?_) (fun _ => rfl)
      rw [Tr.val_ok, wrap64 (i := (i : Int) + 1) (by omega) (by omega)]; rfl
    · show (slices_Index_string_string_2_step A s (A.length : Int) (A.length : Int)).val = _
      refine Tr.n (by simp) ?_
      rfl
  simp only [slices_Index_string_string_2_fin, Told.val] at h
  cases hk : A.all (fun x => !(s == (nth x 0).str)) with
  | true =>
    rw [if_pos (show slices_Index_string_string_k2_1 A s m i = true from hk)] at h
    split at h
    · rename_i ho
      obtain ⟨rfl, ht, rfl⟩ := is_iff.1 ho
      cases h
      refine ⟨_, (key ht).trans ?_⟩
      rw [hk]; rfl
    · cases h
  | false =>
    rw [if_neg (show ¬slices_Index_string_string_k2_1 A s m i = true from by rw [show slices_Index_string_string_k2_1 A s m i = (A.all (fun x => !(s == (nth x 0).str))) from rfl, hk]; simp)] at h
    split at h
    · rename_i ho
      obtain ⟨rfl, ht, rfl⟩ := is_iff.1 ho
      cases h
      refine ⟨_, (key ht).trans ?_⟩
      rw [hk]; rfl
    · cases h
theorem slices_Index_string_string_is2 : LoopIs tab FT D47 live 149 slices_Index_string_string_lo 0 2 := by
  refine loop_told (sl := slices_Index_string_string_2_sl) (step := slices_Index_string_string_2_st) (out := slices_Index_string_string_2_out) (lor := slices_Index_string_string_lo2) (fin := fun x => (slices_Index_string_string_2_fin (x.1) (x.2.1) (x.2.2.1) (x.2.2.2))) (fun _ => rfl) ?_ (fun x n => slices_Index_string_string_2_r x.1 x.2.1 x.2.2.1 x.2.2.2 n) (fun x ow => slices_Index_string_string_2_h x.1 x.2.1 x.2.2.1 x.2.2.2 ow)
  intro s t h
  unfold slices_Index_string_string_lo2 at h
  split at h
  · cases h; exact ⟨(_, _, _, _), rfl, rfl⟩
  · cases h
noncomputable def slices_Index_string_string_t (A : List (List TC)) (s : List UInt8) : Tr (Int) := (.ite ((slices_Index_string_string_k2_1 A s (A.length : Int) (0 : Int)) = true) (.ite ((slices_Index_string_string_o2_2 A s (A.length : Int) (0 : Int)) = true) (.ok (-1 : Int))
   .no)
  (.ite ((slices_Index_string_string_o2_3 A s (A.length : Int) (0 : Int)) = true) (.ok (slices_Index_string_string_u2_3 A s (A.length : Int) (0 : Int)))
   .no))
def slices_Index_string_string_mk (p : Int) : Res := [(false, [⟨.int .i64, .sh, TC.i p⟩])]
noncomputable def slices_Index_string_string_c (A : List (List TC)) (s : List UInt8) : Bool := is (((slices_Index_string_string_o2_2 A s (A.length : Int) (0 : Int)) = true) ∧ ((slices_Index_string_string_o2_3 A s (A.length : Int) (0 : Int)) = true))
noncomputable def slices_Index_string_string_v (A : List (List TC)) (s : List UInt8) : Int := (bif (slices_Index_string_string_k2_1 A s (A.length : Int) (0 : Int)) then (-1 : Int) else (slices_Index_string_string_u2_3 A s (A.length : Int) (0 : Int)))
theorem slices_Index_string_string_l (A : List (List TC)) (s : List UInt8) : (slices_Index_string_string_c A s) = true → (slices_Index_string_string_t A s).val = some (slices_Index_string_string_v A s) := by
  intro h
  obtain ⟨g0, g1⟩ := is_iff.1 h
  unfold slices_Index_string_string_t slices_Index_string_string_v
  exact (Tr.s (Tr.t g0 rfl) (Tr.t g1 rfl))
noncomputable def slices_Index_string_string_S : List Arg → Option (Bool × Res) := fun xs => match xs with
  | [(false, [(.slice 9, TC.l A)]), (false, [(.str, TC.s s)])] => some ((slices_Index_string_string_c A s), slices_Index_string_string_mk (slices_Index_string_string_v A s))
  | _ => .none
theorem slices_Index_string_string_e (A : List (List TC)) (s : List UInt8) : runF tab FT D47 live 149 slices_Index_string_string_lo [(false, [(.slice 9, TC.l A)]), (false, [(.str, TC.s s)])] = (slices_Index_string_string_t A s).run fun p => some (slices_Index_string_string_mk p) := by kernel_rfl
theorem slices_Index_string_string_s : ∀ xs r, slices_Index_string_string_S xs = some (true, r) → runF tab FT D47 live 149 slices_Index_string_string_lo xs = some r := by
  intro xs r h
  unfold slices_Index_string_string_S at h
  split at h
  · simp only [Option.some.injEq, Prod.mk.injEq] at h
    obtain ⟨h1, rfl⟩ := h
    exact fun_told (slices_Index_string_string_e _ _) (slices_Index_string_string_l _ _) h1
  · cases h
noncomputable def D48 : Dt := also D47 149 slices_Index_string_string_S
theorem d48 : DOk Go.Proofs.Try.prog tab D48 := d47.also mixed_ok tab_ok names_ok (fnLoops_one (by kernel_rfl) slices_Index_string_string_is2) slices_Index_string_string_s
theorem slices_Index_string_string_vv (A : List (List TC)) (s : List UInt8) : slices_Index_string_string_v A s = slotIdx A s := by
  show (bif A.all (fun x => !(s == (nth x 0).str)) then -1 else Int.ofNat (A.findIdx fun x => !(!(s == (nth x 0).str)))) = slotIdx A s
  unfold slotIdx
  have e : ∀ x : List TC, (s == (nth x 0).str) = ((nth x 0).str == s) := fun x => Bool.beq_comm
  simp only [e]
/-! slices_Contains_string_string -/
noncomputable def slices_Contains_string_string_t (a0 : List (List TC)) (a1 : List UInt8) : Tr (Bool) := (.ite ((slices_Index_string_string_c a0 a1) = true) (.ok (decide ((slices_Index_string_string_v a0 a1) ≥ (0 : Int))))
  .no)
def slices_Contains_string_string_mk (p : Bool) : Res := [(false, [⟨.bool, .sh, TC.b p⟩])]
noncomputable def slices_Contains_string_string_c (a0 : List (List TC)) (a1 : List UInt8) : Bool := (slices_Index_string_string_c a0 a1)
noncomputable def slices_Contains_string_string_v (a0 : List (List TC)) (a1 : List UInt8) : Bool := (decide ((slices_Index_string_string_v a0 a1) ≥ (0 : Int)))
theorem slices_Contains_string_string_l (a0 : List (List TC)) (a1 : List UInt8) : (slices_Contains_string_string_c a0 a1) = true → (slices_Contains_string_string_t a0 a1).val = some (slices_Contains_string_string_v a0 a1) := by
  intro h
  have hc0 : (slices_Index_string_string_c a0 a1) = true := h
  unfold slices_Contains_string_string_t
  exact (Tr.t hc0 rfl)
noncomputable def slices_Contains_string_string_S : List Arg → Option (Bool × Res) := fun xs => match xs with
  | [(false, [(.slice 9, TC.l a0)]), (false, [(.str, TC.s a1)])] => some ((slices_Contains_string_string_c a0 a1), slices_Contains_string_string_mk (slices_Contains_string_string_v a0 a1))
  | _ => .none
theorem slices_Contains_string_string_e (a0 : List (List TC)) (a1 : List UInt8) : runF tab FT D48 live 129 noLoops [(false, [(.slice 9, TC.l a0)]), (false, [(.str, TC.s a1)])] = (slices_Contains_string_string_t a0 a1).run fun p => some (slices_Contains_string_string_mk p) := by kernel_rfl
theorem slices_Contains_string_string_s : ∀ xs r, slices_Contains_string_string_S xs = some (true, r) → runF tab FT D48 live 129 noLoops xs = some r := by
  intro xs r h
  unfold slices_Contains_string_string_S at h
  split at h
  · simp only [Option.some.injEq, Prod.mk.injEq] at h
    obtain ⟨h1, rfl⟩ := h
    exact fun_told (slices_Contains_string_string_e _ _) (slices_Contains_string_string_l _ _) h1
  · cases h
noncomputable def D49 : Dt := also D48 129 slices_Contains_string_string_S
theorem d49 : DOk Go.Proofs.Try.prog tab D49 := d48.also mixed_ok tab_ok names_ok noLoops_ok slices_Contains_string_string_s
/-! impl_differentNames -/
noncomputable def impl_differentNames_f2 (A X : List (List TC)) (m i : Int) : (Unit) ⊕ ((Unit) ⊕ (Unit)) := (bif (!(impl_IsName_v ((nth (row X i) 0).str))) then (.inr (.inl ())) else (bif (slices_Contains_string_string_v ((A.take (i).toNat).drop ((0 : Int)).toNat) ((nth (row X i) 0).str)) then (.inr (.inl ())) else (.inl ())))
noncomputable def impl_differentNames_e2 (A X : List (List TC)) (m : Int) : (Unit) ⊕ (Unit) := .inr ()
noncomputable def impl_differentNames_R2 (A X : List (List TC)) (m i : Int) : (Unit) ⊕ (Unit) := iter (fun i a => (impl_differentNames_f2 A X m (i : Int))) (fun a => (impl_differentNames_e2 A X m)) (A.length) 0 ()
abbrev impl_differentNames_2_σ := List (List TC) × List (List TC) × Int × Int
abbrev impl_differentNames_2_ω := (Unit) ⊕ (Unit)
noncomputable def impl_differentNames_2_step (A X : List (List TC)) (m i : Int) : Tr (impl_differentNames_2_σ ⊕ impl_differentNames_2_ω) := (.ite ((decide (i < m)) = true) (.ite ((0 : Int) ≤ i ∧ i < (X.length : Int)) (.ite ((impl_IsName_c ((nth (row X i) 0).str)) = true) (.ite ((!(impl_IsName_v ((nth (row X i) 0).str))) = true) (.ok (.inr (.inl ())))
     (.ite ((0 : Int) ≤ (0 : Int) ∧ (0 : Int) ≤ i ∧ i ≤ (A.length : Int)) (.ite ((slices_Contains_string_string_c ((A.take (i).toNat).drop ((0 : Int)).toNat) ((nth (row X i) 0).str)) = true) (.ite ((slices_Contains_string_string_v ((A.take (i).toNat).drop ((0 : Int)).toNat) ((nth (row X i) 0).str)) = true) (.ok (.inr (.inl ())))
        (.ok (.inl (A, X, m, (IntKind.wrap .i64 (i + (1 : Int)))))))
       .no)
      .no))
    .no)
   .no)
  (.ok (.inr (.inr ()))))
noncomputable def impl_differentNames_2_st : impl_differentNames_2_σ → Tr (impl_differentNames_2_σ ⊕ impl_differentNames_2_ω) := fun x => (impl_differentNames_2_step (x.1) (x.2.1) (x.2.2.1) (x.2.2.2))
noncomputable def impl_differentNames_k2_1 (A X : List (List TC)) (m i : Int) : Bool := sumIs (impl_differentNames_R2 A X m i)
noncomputable def impl_differentNames_o2_2 (A X : List (List TC)) (m i : Int) : Bool := is (i = 0 ∧ A = X ∧ m = (A.length : Int) ∧ Typed tab (.slice 9) (.l A))
noncomputable def impl_differentNames_o2_3 (A X : List (List TC)) (m i : Int) : Bool := is (i = 0 ∧ A = X ∧ m = (A.length : Int) ∧ Typed tab (.slice 9) (.l A))
noncomputable def impl_differentNames_2_fin (A X : List (List TC)) (m i : Int) : Told impl_differentNames_2_ω := (.br (impl_differentNames_k2_1 A X m i) (.leaf (impl_differentNames_o2_2 A X m i) (.inl ())) (.leaf (impl_differentNames_o2_3 A X m i) (.inr ())))
def impl_differentNames_2_sl (x : impl_differentNames_2_σ) : List Slot := [⟨.val false [⟨.slice 9, .sh, TC.l (x.1)⟩], ⟨0, 0⟩⟩, ⟨.val false [⟨.slice 9, .sh, TC.l (x.2.1)⟩], ⟨0, 0⟩⟩, ⟨.val false [⟨.int .i64, .sh, TC.i (x.2.2.1)⟩], ⟨0, 0⟩⟩, ⟨.val false [⟨.int .i64, .sh, TC.i (x.2.2.2)⟩], ⟨0, 0⟩⟩]
def impl_differentNames_2_out : impl_differentNames_2_ω → Ex × List Slot := (Sum.elim (fun x => (.ret, [⟨.val false [⟨.bool, .sh, TC.b false⟩], ⟨0, 0⟩⟩])) (fun x => (.exit 0, [Slot.none])))
noncomputable def impl_differentNames_lo2 : List Slot → Option (Told (Ex × List Slot)) := fun s => match s with
  | [⟨.val false [⟨.slice 9, .sh, TC.l A⟩], ⟨0, 0⟩⟩, ⟨.val false [⟨.slice 9, .sh, TC.l X⟩], ⟨0, 0⟩⟩, ⟨.val false [⟨.int .i64, .sh, TC.i m⟩], ⟨0, 0⟩⟩, ⟨.val false [⟨.int .i64, .sh, TC.i i⟩], ⟨0, 0⟩⟩] => some (((impl_differentNames_2_fin A X m i)).map impl_differentNames_2_out)
  | _ => .none
noncomputable def impl_differentNames_lo : LoopTeller := fun r s => bif Nat.beq r 2 then impl_differentNames_lo2 s else .none
theorem impl_differentNames_2_r (A X : List (List TC)) (m i : Int) (fuel : Nat) : rounds (rnd tab FT D49 live 144 impl_differentNames_lo 0 2) leave (fuel + 1) (impl_differentNames_2_sl (A, X, m, i)) = ((impl_differentNames_2_step A X m i)).run (goOn (fun s => rounds (rnd tab FT D49 live 144 impl_differentNames_lo 0 2) leave fuel (impl_differentNames_2_sl s)) fun w => some (impl_differentNames_2_out w)) := by kernel_rfl
theorem impl_differentNames_f2_eq (A : List (List TC)) (m : Int) (i : Nat) (hi : i < A.length) : impl_differentNames_f2 A A m (i : Int) = bif dnP A (i : Int) then Sum.inl () else Sum.inr (Sum.inl ()) := by
  unfold impl_differentNames_f2
  have e2 : slices_Contains_string_string_v ((A.take ((i : Int)).toNat).drop ((0 : Int)).toNat) (nth (row A (i : Int)) 0).str = !(noDupN A (i : Int)) := by
    unfold slices_Contains_string_string_v noDupN
    rw [slices_Index_string_string_vv, slotIdx_in, Int.toNat_natCast, show ((0 : Int)).toNat = 0 from rfl, List.drop_zero, allI_take (by omega)]
    rfl
  rw [e2, impl_IsName_vv]
  show _ = bif (nameOk (nth (row A (i : Int)) 0).str && noDupN A (i : Int)) then _ else _
  cases nameOk (nth (row A (i : Int)) 0).str <;> cases noDupN A (i : Int) <;> rfl
theorem impl_differentNames_R2_eq (A : List (List TC)) (m : Int) : impl_differentNames_R2 A A m 0 = bif allI (fun i : Nat => dnP A (i : Int)) A.length then Sum.inr () else Sum.inl () := by
  unfold impl_differentNames_R2
  exact (iter_all (P := fun i : Nat => dnP A (i : Int)) (g := fun _ a => a) (w := Sum.inl ()) fun j a hj => impl_differentNames_f2_eq A m j hj)
theorem impl_differentNames_2_h (A X : List (List TC)) (m i : Int) (ow : impl_differentNames_2_ω) : ((impl_differentNames_2_fin A X m i)).val = some ow → ∃ fuel, loopN impl_differentNames_2_st fuel (A, X, m, i) = some ow := by
  refine auto_const (R := (impl_differentNames_R2 A X m i)) rfl (iter_onR (f := (fun i a => (impl_differentNames_f2 A X m (i : Int)))) (fin := (fun a => (impl_differentNames_e2 A X m))) (Q := endsAs () ()) (fun i a => by unfold impl_differentNames_f2; exact (onR_bif rfl (onR_bif rfl trivial))) (fun _ => rfl) _ _ _) ?_
  intro ho
  have ho : is (i = 0 ∧ A = X ∧ m = (A.length : Int) ∧ Typed tab (.slice 9) (.l A)) = true := ho.elim id id
  obtain ⟨rfl, rfl, rfl, ht⟩ := is_iff.1 ho
  have hlen : A.length ≤ 140737488351232 := by have := typed_room ht; simp only [show (tab 9).bytes = 16 from rfl] at this; omega
  refine ⟨(A.length) + 1, ?_⟩
  refine iter_loop (step := impl_differentNames_2_st) (A.length) (fun i a => (impl_differentNames_f2 A A (A.length : Int) (i : Int))) (fun a => (impl_differentNames_e2 A A (A.length : Int))) (fun i a => (A, A, (A.length : Int), (i : Int))) (fun _ _ => True) trivial (fun i a hi hI => ⟨?_, fun _ _ => trivial⟩) (fun a hI => ?_)
  · show (impl_differentNames_2_step A A (A.length : Int) (i : Int)).val = _
    unfold impl_differentNames_2_step impl_differentNames_f2
    have c0 : Typed tab (.str) (.s (nth (A.getD i []) 0).str) := typed_s (typed_cell ht (A.getD i []) (mem_getD hi) 0 (by decide))
    refine Tr.t (by simp; omega) ?_
    exact (Tr.t (by first | omega | (constructor <;> omega) | ((show slices_Index_string_string_c _ _ = true; exact is_true ⟨is_true ⟨rfl, typed_take ht, rfl⟩, is_true ⟨rfl, typed_take ht, rfl⟩⟩))) (Tr.t (by first | ((show slices_Index_string_string_c _ _ = true; exact is_true ⟨is_true ⟨rfl, typed_take ht, rfl⟩, is_true ⟨rfl, typed_take ht, rfl⟩⟩)) | (first | (apply impl_IsName_cc <;> assumption) | (first | (apply is_true; and_intros <;> (first | rfl | assumption | (apply laws_szStringS_cc <;> assumption) | (apply laws_szMember_cc <;> assumption) | (apply laws_szMemberS_cc <;> assumption) | (apply laws_szTypeS_cc <;> assumption) | (apply spec_l00Has_cc <;> assumption) | (apply spec_l02Range_cc <;> assumption) | (apply spec_IsName_cc <;> assumption) | (apply spec_l02Enum_cc <;> assumption) | (apply spec_l02Compound_cc <;> assumption) | (apply spec_l02Array_cc <;> assumption) | (apply slices_Index_int64_int64_cc <;> assumption) | (apply impl_IsName_cc <;> assumption) | (first | (apply is_true; and_intros <;> (first | rfl | assumption | (apply laws_szStringS_cc <;> assumption) | (apply laws_szMember_cc <;> assumption) | (apply laws_szMemberS_cc <;> assumption) | (apply laws_szTypeS_cc <;> assumption) | (apply spec_l00Has_cc <;> assumption) | (apply spec_l02Range_cc <;> assumption) | (apply spec_IsName_cc <;> assumption) | (apply spec_l02Enum_cc <;> assumption) | (apply spec_l02Compound_cc <;> assumption) | (apply spec_l02Array_cc <;> assumption) | (apply slices_Index_int64_int64_cc <;> assumption) | (apply impl_IsName_cc <;> assumption))) | (apply laws_szStringS_cc <;> assumption) | (apply laws_szMember_cc <;> assumption) | (apply laws_szMemberS_cc <;> assumption) | (apply laws_szTypeS_cc <;> assumption) | (apply spec_l00Has_cc <;> assumption) | (apply spec_l02Range_cc <;> assumption) | (apply spec_IsName_cc <;> assumption) | (apply spec_l02Enum_cc <;> assumption) | (apply spec_l02Compound_cc <;> assumption) | (apply spec_l02Array_cc <;> assumption) | (apply slices_Index_int64_int64_cc <;> assumption) | (apply impl_IsName_cc <;> assumption)))) | (apply laws_szStringS_cc <;> assumption) | (apply laws_szMember_cc <;> assumption) | (apply laws_szMemberS_cc <;> assumption) | (apply laws_szTypeS_cc <;> assumption) | (apply spec_l00Has_cc <;> assumption) | (apply spec_l02Range_cc <;> assumption) | (apply spec_IsName_cc <;> assumption) | (apply spec_l02Enum_cc <;> assumption) | (apply spec_l02Compound_cc <;> assumption) | (apply spec_l02Array_cc <;> assumption) | (apply slices_Index_int64_int64_cc <;> assumption) | (apply impl_IsName_cc <;> assumption)))) (Tr.bf rfl (Tr.t (by first | omega | (constructor <;> omega) | ((show slices_Index_string_string_c _ _ = true; exact is_true ⟨is_true ⟨rfl, typed_take ht, rfl⟩, is_true ⟨rfl, typed_take ht, rfl⟩⟩))) (Tr.t (by first | ((show slices_Index_string_string_c _ _ = true; exact is_true ⟨is_true ⟨rfl, typed_take ht, rfl⟩, is_true ⟨rfl, typed_take ht, rfl⟩⟩)) | (first | (apply is_true; and_intros <;> (first | rfl | assumption | (apply laws_szStringS_cc <;> assumption) | (apply laws_szMember_cc <;> assumption) | (apply laws_szMemberS_cc <;> assumption) | (apply laws_szTypeS_cc <;> assumption) | (apply spec_l00Has_cc <;> assumption) | (apply spec_l02Range_cc <;> assumption) | (apply spec_IsName_cc <;> assumption) | (apply spec_l02Enum_cc <;> assumption) | (apply spec_l02Compound_cc <;> assumption) | (apply spec_l02Array_cc <;> assumption) | (apply slices_Index_int64_int64_cc <;> assumption) | (apply impl_IsName_cc <;> assumption) | (first | (apply is_true; and_intros <;> (first | rfl | assumption | (apply laws_szStringS_cc <;> assumption) | (apply laws_szMember_cc <;> assumption) | (apply laws_szMemberS_cc <;> assumption) | (apply laws_szTypeS_cc <;> assumption) | (apply spec_l00Has_cc <;> assumption) | (apply spec_l02Range_cc <;> assumption) | (apply spec_IsName_cc <;> assumption) | (apply spec_l02Enum_cc <;> assumption) | (apply spec_l02Compound_cc <;> assumption) | (apply spec_l02Array_cc <;> assumption) | (apply slices_Index_int64_int64_cc <;> assumption) | (apply impl_IsName_cc <;> assumption) | (first | (apply is_true; and_intros <;> (first | rfl | assumption | (apply laws_szStringS_cc <;> assumption) | (apply laws_szMember_cc <;> assumption) | (apply laws_szMemberS_cc <;> assumption) | (apply laws_szTypeS_cc <;> assumption) | (apply spec_l00Has_cc <;> assumption) | (apply spec_l02Range_cc <;> assumption) | (apply spec_IsName_cc <;> assumption) | (apply spec_l02Enum_cc <;> assumption) | (apply spec_l02Compound_cc <;> assumption) | (apply spec_l02Array_cc <;> assumption) | (apply slices_Index_int64_int64_cc <;> assumption) | (apply impl_IsName_cc <;> assumption))) | (apply laws_szStringS_cc <;> assumption) | (apply laws_szMember_cc <;> assumption) | (apply laws_szMemberS_cc <;> assumption) | (apply laws_szTypeS_cc <;> assumption) | (apply spec_l00Has_cc <;> assumption) | (apply spec_l02Range_cc <;> assumption) | (apply spec_IsName_cc <;> assumption) | (apply spec_l02Enum_cc <;> assumption) | (apply spec_l02Compound_cc <;> assumption) | (apply spec_l02Array_cc <;> assumption) | (apply slices_Index_int64_int64_cc <;> assumption) | (apply impl_IsName_cc <;> assumption)))) | (apply laws_szStringS_cc <;> assumption) | (apply laws_szMember_cc <;> assumption) | (apply laws_szMemberS_cc <;> assumption) | (apply laws_szTypeS_cc <;> assumption) | (apply spec_l00Has_cc <;> assumption) | (apply spec_l02Range_cc <;> assumption) | (apply spec_IsName_cc <;> assumption) | (apply spec_l02Enum_cc <;> assumption) | (apply spec_l02Compound_cc <;> assumption) | (apply spec_l02Array_cc <;> assumption) | (apply slices_Index_int64_int64_cc <;> assumption) | (apply impl_IsName_cc <;> assumption)))) | (apply laws_szStringS_cc <;> assumption) | (apply laws_szMember_cc <;> assumption) | (apply laws_szMemberS_cc <;> assumption) | (apply laws_szTypeS_cc <;> assumption) | (apply spec_l00Has_cc <;> assumption) | (apply spec_l02Range_cc <;> assumption) | (apply spec_IsName_cc <;> assumption) | (apply spec_l02Enum_cc <;> assumption) | (apply spec_l02Compound_cc <;> assumption) | (apply spec_l02Array_cc <;> assumption) | (apply slices_Index_int64_int64_cc <;> assumption) | (apply impl_IsName_cc <;> assumption))) (Tr.bf rfl (by rw [Tr.val_ok, wrap64 (i := (i : Int) + 1) (by omega) (by omega)]; rfl)))))))
  · show (impl_differentNames_2_step A A (A.length : Int) (A.length : Int)).val = _
    refine Tr.n (by first | (simp; done) | (simp; omega) | omega) ?_
    rfl
theorem impl_differentNames_is2 : LoopIs tab FT D49 live 144 impl_differentNames_lo 0 2 := by
  refine loop_told (sl := impl_differentNames_2_sl) (step := impl_differentNames_2_st) (out := impl_differentNames_2_out) (lor := impl_differentNames_lo2) (fin := fun x => (impl_differentNames_2_fin (x.1) (x.2.1) (x.2.2.1) (x.2.2.2))) (fun _ => rfl) ?_ (fun x n => impl_differentNames_2_r x.1 x.2.1 x.2.2.1 x.2.2.2 n) (fun x ow => impl_differentNames_2_h x.1 x.2.1 x.2.2.1 x.2.2.2 ow)
  intro s t h
  unfold impl_differentNames_lo2 at h
  split at h
  · cases h; exact ⟨(_, _, _, _), rfl, rfl⟩
  · cases h
noncomputable def impl_differentNames_t (A : List (List TC)) : Tr (Bool) := (.ite ((impl_differentNames_k2_1 A A (A.length : Int) (0 : Int)) = true) (.ite ((impl_differentNames_o2_2 A A (A.length : Int) (0 : Int)) = true) (.ok false)
   .no)
  (.ite ((impl_differentNames_o2_3 A A (A.length : Int) (0 : Int)) = true) (.ok true)
   .no))
def impl_differentNames_mk (p : Bool) : Res := [(false, [⟨.bool, .sh, TC.b p⟩])]
noncomputable def impl_differentNames_c (A : List (List TC)) : Bool := (bif (impl_differentNames_k2_1 A A (A.length : Int) (0 : Int)) then ((impl_differentNames_o2_2 A A (A.length : Int) (0 : Int)) && true) else ((impl_differentNames_o2_3 A A (A.length : Int) (0 : Int)) && true))
noncomputable def impl_differentNames_v (A : List (List TC)) : Bool := (bif (impl_differentNames_k2_1 A A (A.length : Int) (0 : Int)) then false else true)
theorem impl_differentNames_l (A : List (List TC)) : (impl_differentNames_c A) = true → (impl_differentNames_t A).val = some (impl_differentNames_v A) := by
  unfold impl_differentNames_t impl_differentNames_v impl_differentNames_c
  exact fun h => (Tr.ss h (fun h => (Tr.gb h fun h => rfl)) (fun h => (Tr.gb h fun h => rfl)))
noncomputable def impl_differentNames_S : List Arg → Option (Bool × Res) := fun xs => match xs with
  | [(false, [(.slice 9, TC.l A)])] => some ((impl_differentNames_c A), impl_differentNames_mk (impl_differentNames_v A))
  | _ => .none
theorem impl_differentNames_e (A : List (List TC)) : runF tab FT D49 live 144 impl_differentNames_lo [(false, [(.slice 9, TC.l A)])] = (impl_differentNames_t A).run fun p => some (impl_differentNames_mk p) := by kernel_rfl
theorem impl_differentNames_s : ∀ xs r, impl_differentNames_S xs = some (true, r) → runF tab FT D49 live 144 impl_differentNames_lo xs = some r := by
  intro xs r h
  unfold impl_differentNames_S at h
  split at h
  · simp only [Option.some.injEq, Prod.mk.injEq] at h
    obtain ⟨h1, rfl⟩ := h
    exact fun_told (impl_differentNames_e _) (impl_differentNames_l _) h1
  · cases h
noncomputable def D50 : Dt := also D49 144 impl_differentNames_S
theorem d50 : DOk Go.Proofs.Try.prog tab D50 := d49.also mixed_ok tab_ok names_ok (fnLoops_one (by kernel_rfl) impl_differentNames_is2) impl_differentNames_s
theorem impl_differentNames_cc {A : List (List TC)} (ht : Typed tab (.slice 9) (.l A)) : (impl_differentNames_c A) = true := by
  unfold impl_differentNames_c
  refine bifT (fun b1 => ?_) (fun b1 => ?_)
  · skip
    refine andT (by exact is_true ⟨rfl, rfl, rfl, ht⟩) ?_
    rfl
  · skip
    refine andT (by exact is_true ⟨rfl, rfl, rfl, ht⟩) ?_
    rfl
theorem impl_differentNames_vv (A : List (List TC)) : impl_differentNames_v A = allI (fun i : Nat => dnP A (i : Int)) A.length := by
  unfold impl_differentNames_v impl_differentNames_k2_1
  rw [impl_differentNames_R2_eq]
  cases allI (fun i : Nat => dnP A (i : Int)) A.length <;> rfl
/-! impl_Type_enumOk -/
noncomputable def impl_Type_enumOk_f5 (k s : Int) (sg bg : Bool) (NA NU ME BA : List (List TC)) (ct lw hg : Int) (X : List (List TC)) (m i : Int) : (Unit) ⊕ ((Int × Int × Bool × Bool × List (List TC) × List (List TC) × List (List TC) × List (List TC) × Int) ⊕ (Int × Int × Bool × Bool × List (List TC) × List (List TC) × List (List TC) × List (List TC) × Int)) := (bif (!(impl_within_v ((nth (row X i) 0).int) lw hg)) then (.inr (.inl (k, s, sg, bg, NA, NU, ME, BA, ct))) else (bif (decide (i > (0 : Int))) then (bif (decide ((nth (row X i) 0).int ≤ (nth (row NU (IntKind.wrap .i64 (i - (1 : Int)))) 0).int)) then (.inr (.inl (k, s, sg, bg, NA, NU, ME, BA, ct))) else (.inl ())) else (.inl ())))
noncomputable def impl_Type_enumOk_e5 (k s : Int) (sg bg : Bool) (NA NU ME BA : List (List TC)) (ct lw hg : Int) (X : List (List TC)) (m : Int) : (Int × Int × Bool × Bool × List (List TC) × List (List TC) × List (List TC) × List (List TC) × Int) ⊕ (Int × Int × Bool × Bool × List (List TC) × List (List TC) × List (List TC) × List (List TC) × Int) := .inr (k, s, sg, bg, NA, NU, ME, BA, ct)
noncomputable def impl_Type_enumOk_R5 (k s : Int) (sg bg : Bool) (NA NU ME BA : List (List TC)) (ct lw hg : Int) (X : List (List TC)) (m i : Int) : (Int × Int × Bool × Bool × List (List TC) × List (List TC) × List (List TC) × List (List TC) × Int) ⊕ (Int × Int × Bool × Bool × List (List TC) × List (List TC) × List (List TC) × List (List TC) × Int) := iter (fun i a => (impl_Type_enumOk_f5 k s sg bg NA NU ME BA ct lw hg X m (i : Int))) (fun a => (impl_Type_enumOk_e5 k s sg bg NA NU ME BA ct lw hg X m)) (NU.length) 0 ()
abbrev impl_Type_enumOk_5_σ := Int × Int × Bool × Bool × List (List TC) × List (List TC) × List (List TC) × List (List TC) × Int × Int × Int × List (List TC) × Int × Int
abbrev impl_Type_enumOk_5_ω := (Int × Int × Bool × Bool × List (List TC) × List (List TC) × List (List TC) × List (List TC) × Int) ⊕ (Int × Int × Bool × Bool × List (List TC) × List (List TC) × List (List TC) × List (List TC) × Int)
noncomputable def impl_Type_enumOk_5_step (k s : Int) (sg bg : Bool) (NA NU ME BA : List (List TC)) (ct lw hg : Int) (X : List (List TC)) (m i : Int) : Tr (impl_Type_enumOk_5_σ ⊕ impl_Type_enumOk_5_ω) := (.ite ((decide (i < m)) = true) (.ite ((0 : Int) ≤ i ∧ i < (X.length : Int)) (.ite ((!(impl_within_v ((nth (row X i) 0).int) lw hg)) = true) (.ok (.inr (.inl (k, s, sg, bg, NA, NU, ME, BA, ct))))
    (.ite ((decide (i > (0 : Int))) = true) (.ite ((0 : Int) ≤ (IntKind.wrap .i64 (i - (1 : Int))) ∧ (IntKind.wrap .i64 (i - (1 : Int))) < (NU.length : Int)) (.ite ((decide ((nth (row X i) 0).int ≤ (nth (row NU (IntKind.wrap .i64 (i - (1 : Int)))) 0).int)) = true) (.ok (.inr (.inl (k, s, sg, bg, NA, NU, ME, BA, ct))))
       (.ok (.inl (k, s, sg, bg, NA, NU, ME, BA, ct, lw, hg, X, m, (IntKind.wrap .i64 (i + (1 : Int)))))))
      .no)
     (.ok (.inl (k, s, sg, bg, NA, NU, ME, BA, ct, lw, hg, X, m, (IntKind.wrap .i64 (i + (1 : Int))))))))
   .no)
  (.ok (.inr (.inr (k, s, sg, bg, NA, NU, ME, BA, ct)))))
noncomputable def impl_Type_enumOk_5_st : impl_Type_enumOk_5_σ → Tr (impl_Type_enumOk_5_σ ⊕ impl_Type_enumOk_5_ω) := fun x => (impl_Type_enumOk_5_step (x.1) (x.2.1) (x.2.2.1) (x.2.2.2.1) (x.2.2.2.2.1) (x.2.2.2.2.2.1) (x.2.2.2.2.2.2.1) (x.2.2.2.2.2.2.2.1) (x.2.2.2.2.2.2.2.2.1) (x.2.2.2.2.2.2.2.2.2.1) (x.2.2.2.2.2.2.2.2.2.2.1) (x.2.2.2.2.2.2.2.2.2.2.2.1) (x.2.2.2.2.2.2.2.2.2.2.2.2.1) (x.2.2.2.2.2.2.2.2.2.2.2.2.2))
noncomputable def impl_Type_enumOk_k5_1 (k s : Int) (sg bg : Bool) (NA NU ME BA : List (List TC)) (ct lw hg : Int) (X : List (List TC)) (m i : Int) : Bool := sumIs (impl_Type_enumOk_R5 k s sg bg NA NU ME BA ct lw hg X m i)
noncomputable def impl_Type_enumOk_o5_2 (k s : Int) (sg bg : Bool) (NA NU ME BA : List (List TC)) (ct lw hg : Int) (X : List (List TC)) (m i : Int) : Bool := is (i = 0 ∧ NU = X ∧ m = (NU.length : Int) ∧ NU.length ≤ 140737488351232)
noncomputable def impl_Type_enumOk_o5_3 (k s : Int) (sg bg : Bool) (NA NU ME BA : List (List TC)) (ct lw hg : Int) (X : List (List TC)) (m i : Int) : Bool := is (i = 0 ∧ NU = X ∧ m = (NU.length : Int) ∧ NU.length ≤ 140737488351232)
noncomputable def impl_Type_enumOk_5_fin (k s : Int) (sg bg : Bool) (NA NU ME BA : List (List TC)) (ct lw hg : Int) (X : List (List TC)) (m i : Int) : Told impl_Type_enumOk_5_ω := (.br (impl_Type_enumOk_k5_1 k s sg bg NA NU ME BA ct lw hg X m i) (.leaf (impl_Type_enumOk_o5_2 k s sg bg NA NU ME BA ct lw hg X m i) (.inl (k, s, sg, bg, NA, NU, ME, BA, ct))) (.leaf (impl_Type_enumOk_o5_3 k s sg bg NA NU ME BA ct lw hg X m i) (.inr (k, s, sg, bg, NA, NU, ME, BA, ct))))
def impl_Type_enumOk_5_sl (x : impl_Type_enumOk_5_σ) : List Slot := [⟨.bx 32 [⟨.int .i64, .sh, TC.i (x.1)⟩, ⟨.int .i64, .sh, TC.i (x.2.1)⟩, ⟨.bool, .sh, TC.b (x.2.2.1)⟩, ⟨.bool, .sh, TC.b (x.2.2.2.1)⟩, ⟨.slice 9, .sh, TC.l (x.2.2.2.2.1)⟩, ⟨.slice 2, .sh, TC.l (x.2.2.2.2.2.1)⟩, ⟨.slice 77, .sh, TC.l (x.2.2.2.2.2.2.1)⟩, ⟨.slice 32, .sh, TC.l (x.2.2.2.2.2.2.2.1)⟩, ⟨.int .i64, .sh, TC.i (x.2.2.2.2.2.2.2.2.1)⟩], ⟨0, 0⟩⟩, ⟨.val false [⟨.int .i64, .sh, TC.i (x.2.2.2.2.2.2.2.2.2.1)⟩], ⟨0, 0⟩⟩, ⟨.val false [⟨.int .i64, .sh, TC.i (x.2.2.2.2.2.2.2.2.2.2.1)⟩], ⟨0, 0⟩⟩, ⟨.val false [⟨.slice 2, .sh, TC.l (x.2.2.2.2.2.2.2.2.2.2.2.1)⟩], ⟨0, 0⟩⟩, ⟨.val false [⟨.int .i64, .sh, TC.i (x.2.2.2.2.2.2.2.2.2.2.2.2.1)⟩], ⟨0, 0⟩⟩, ⟨.val false [⟨.int .i64, .sh, TC.i (x.2.2.2.2.2.2.2.2.2.2.2.2.2)⟩], ⟨0, 0⟩⟩]
def impl_Type_enumOk_5_out : impl_Type_enumOk_5_ω → Ex × List Slot := (Sum.elim (fun x => (.ret, [⟨.bx 32 [⟨.int .i64, .sh, TC.i (x.1)⟩, ⟨.int .i64, .sh, TC.i (x.2.1)⟩, ⟨.bool, .sh, TC.b (x.2.2.1)⟩, ⟨.bool, .sh, TC.b (x.2.2.2.1)⟩, ⟨.slice 9, .sh, TC.l (x.2.2.2.2.1)⟩, ⟨.slice 2, .sh, TC.l (x.2.2.2.2.2.1)⟩, ⟨.slice 77, .sh, TC.l (x.2.2.2.2.2.2.1)⟩, ⟨.slice 32, .sh, TC.l (x.2.2.2.2.2.2.2.1)⟩, ⟨.int .i64, .sh, TC.i (x.2.2.2.2.2.2.2.2)⟩], ⟨0, 0⟩⟩, ⟨.val false [⟨.bool, .sh, TC.b false⟩], ⟨0, 0⟩⟩])) (fun x => (.exit 0, [⟨.bx 32 [⟨.int .i64, .sh, TC.i (x.1)⟩, ⟨.int .i64, .sh, TC.i (x.2.1)⟩, ⟨.bool, .sh, TC.b (x.2.2.1)⟩, ⟨.bool, .sh, TC.b (x.2.2.2.1)⟩, ⟨.slice 9, .sh, TC.l (x.2.2.2.2.1)⟩, ⟨.slice 2, .sh, TC.l (x.2.2.2.2.2.1)⟩, ⟨.slice 77, .sh, TC.l (x.2.2.2.2.2.2.1)⟩, ⟨.slice 32, .sh, TC.l (x.2.2.2.2.2.2.2.1)⟩, ⟨.int .i64, .sh, TC.i (x.2.2.2.2.2.2.2.2)⟩], ⟨0, 0⟩⟩, Slot.none])))
noncomputable def impl_Type_enumOk_lo5 : List Slot → Option (Told (Ex × List Slot)) := fun s => match s with
  | [⟨.bx 32 [⟨.int .i64, .sh, TC.i k⟩, ⟨.int .i64, .sh, TC.i s⟩, ⟨.bool, .sh, TC.b sg⟩, ⟨.bool, .sh, TC.b bg⟩, ⟨.slice 9, .sh, TC.l NA⟩, ⟨.slice 2, .sh, TC.l NU⟩, ⟨.slice 77, .sh, TC.l ME⟩, ⟨.slice 32, .sh, TC.l BA⟩, ⟨.int .i64, .sh, TC.i ct⟩], ⟨0, 0⟩⟩, ⟨.val false [⟨.int .i64, .sh, TC.i lw⟩], ⟨0, 0⟩⟩, ⟨.val false [⟨.int .i64, .sh, TC.i hg⟩], ⟨0, 0⟩⟩, ⟨.val false [⟨.slice 2, .sh, TC.l X⟩], ⟨0, 0⟩⟩, ⟨.val false [⟨.int .i64, .sh, TC.i m⟩], ⟨0, 0⟩⟩, ⟨.val false [⟨.int .i64, .sh, TC.i i⟩], ⟨0, 0⟩⟩] => some (((impl_Type_enumOk_5_fin k s sg bg NA NU ME BA ct lw hg X m i)).map impl_Type_enumOk_5_out)
  | _ => .none
noncomputable def impl_Type_enumOk_lo : LoopTeller := fun r s => bif Nat.beq r 5 then impl_Type_enumOk_lo5 s else .none
theorem impl_Type_enumOk_5_r (k s : Int) (sg bg : Bool) (NA NU ME BA : List (List TC)) (ct lw hg : Int) (X : List (List TC)) (m i : Int) (fuel : Nat) : rounds (rnd tab FT D50 live 115 impl_Type_enumOk_lo 0 5) leave (fuel + 1) (impl_Type_enumOk_5_sl (k, s, sg, bg, NA, NU, ME, BA, ct, lw, hg, X, m, i)) = ((impl_Type_enumOk_5_step k s sg bg NA NU ME BA ct lw hg X m i)).run (goOn (fun s => rounds (rnd tab FT D50 live 115 impl_Type_enumOk_lo 0 5) leave fuel (impl_Type_enumOk_5_sl s)) fun w => some (impl_Type_enumOk_5_out w)) := by kernel_rfl
theorem impl_Type_enumOk_f5_eq (k s : Int) (sg bg : Bool) (NA NU ME BA : List (List TC)) (ct : Int) (lw hg : Int) (m i : Int) : impl_Type_enumOk_f5 k s sg bg NA NU ME BA ct lw hg NU m i = bif numP NU lw hg i then Sum.inl () else Sum.inr (Sum.inl (k, s, sg, bg, NA, NU, ME, BA, ct)) := by
  unfold impl_Type_enumOk_f5 numP ascB intAt
  rw [show impl_within_v (nth (row NU i) 0).int lw hg = inB (nth (row NU i) 0).int lw hg from rfl, show decide ((nth (row NU (IntKind.wrap .i64 (i - (1 : Int)))) 0).int ≥ (nth (row NU i) 0).int) = decide ((nth (row NU i) 0).int ≤ (nth (row NU (IntKind.wrap .i64 (i - (1 : Int)))) 0).int) from rfl]
  generalize inB (nth (row NU i) 0).int lw hg = p0, decide (i > 0) = p1, decide ((nth (row NU i) 0).int ≤ (nth (row NU (IntKind.wrap .i64 (i - (1 : Int)))) 0).int) = p2
  cases p0 <;> cases p1 <;> cases p2 <;> rfl
theorem impl_Type_enumOk_R5_eq (k s : Int) (sg bg : Bool) (NA NU ME BA : List (List TC)) (ct : Int) (lw hg : Int) (m : Int) : impl_Type_enumOk_R5 k s sg bg NA NU ME BA ct lw hg NU m 0 = bif allI (fun i : Nat => numP NU lw hg (i : Int)) NU.length then Sum.inr (k, s, sg, bg, NA, NU, ME, BA, ct) else Sum.inl (k, s, sg, bg, NA, NU, ME, BA, ct) := by
  unfold impl_Type_enumOk_R5
  exact (iter_all (P := fun i : Nat => numP NU lw hg (i : Int)) (g := fun _ a => a) (w := Sum.inl (k, s, sg, bg, NA, NU, ME, BA, ct)) fun j a _ => impl_Type_enumOk_f5_eq k s sg bg NA NU ME BA ct lw hg m _)
theorem impl_Type_enumOk_5_h (k s : Int) (sg bg : Bool) (NA NU ME BA : List (List TC)) (ct lw hg : Int) (X : List (List TC)) (m i : Int) (ow : impl_Type_enumOk_5_ω) : ((impl_Type_enumOk_5_fin k s sg bg NA NU ME BA ct lw hg X m i)).val = some ow → ∃ fuel, loopN impl_Type_enumOk_5_st fuel (k, s, sg, bg, NA, NU, ME, BA, ct, lw, hg, X, m, i) = some ow := by
  refine auto_const (R := (impl_Type_enumOk_R5 k s sg bg NA NU ME BA ct lw hg X m i)) rfl (iter_onR (f := (fun i a => (impl_Type_enumOk_f5 k s sg bg NA NU ME BA ct lw hg X m (i : Int)))) (fin := (fun a => (impl_Type_enumOk_e5 k s sg bg NA NU ME BA ct lw hg X m))) (Q := endsAs (k, s, sg, bg, NA, NU, ME, BA, ct) (k, s, sg, bg, NA, NU, ME, BA, ct)) (fun i a => by unfold impl_Type_enumOk_f5; exact (onR_bif rfl (onR_bif (onR_bif rfl trivial) trivial))) (fun _ => rfl) _ _ _) ?_
  intro ho
  have ho : is (i = 0 ∧ NU = X ∧ m = (NU.length : Int) ∧ NU.length ≤ 140737488351232) = true := ho.elim id id
  obtain ⟨rfl, rfl, rfl, hl⟩ := is_iff.1 ho
  skip
  refine ⟨(NU.length) + 1, ?_⟩
  refine iter_loop (step := impl_Type_enumOk_5_st) (NU.length) (fun i a => (impl_Type_enumOk_f5 k s sg bg NA NU ME BA ct lw hg NU (NU.length : Int) (i : Int))) (fun a => (impl_Type_enumOk_e5 k s sg bg NA NU ME BA ct lw hg NU (NU.length : Int))) (fun i a => (k, s, sg, bg, NA, NU, ME, BA, ct, lw, hg, NU, (NU.length : Int), (i : Int))) (fun _ _ => True) trivial (fun i a hi hI => ⟨?_, fun _ _ => trivial⟩) (fun a hI => ?_)
  · show (impl_Type_enumOk_5_step k s sg bg NA NU ME BA ct lw hg NU (NU.length : Int) (i : Int)).val = _
    unfold impl_Type_enumOk_5_step impl_Type_enumOk_f5
    skip
    refine Tr.t (by simp; omega) ?_
    exact (Tr.t (by first | omega | (constructor <;> omega) | (simp only [decide_eq_true_eq] at *; rw [wrap64 (by omega) (by omega)]; constructor <;> omega)) (Tr.bh (fun _ => rfl) (fun _ => (Tr.bh (fun _ => (Tr.t (by first | omega | (constructor <;> omega) | (simp only [decide_eq_true_eq] at *; rw [wrap64 (by omega) (by omega)]; constructor <;> omega)) (Tr.bh (fun _ => rfl) (fun _ => (by rw [Tr.val_ok, wrap64 (i := (i : Int) + 1) (by omega) (by omega)]; rfl))))) (fun _ => (by rw [Tr.val_ok, wrap64 (i := (i : Int) + 1) (by omega) (by omega)]; rfl))))))
  · show (impl_Type_enumOk_5_step k s sg bg NA NU ME BA ct lw hg NU (NU.length : Int) (NU.length : Int)).val = _
    refine Tr.n (by first | (simp; done) | (simp; omega) | omega) ?_
    rfl
end
end
end
end
end
end
end
end
end Go.Proofs.Ytlggbfmpfhohjaa.V
