/- What the functions of FnExactEncodeSuper answer. No condition. -/
import Derived.Test.YthhdkojpkjkanaaVFacts
namespace Go.Proofs.Ythhdkojpkjkanaa.V
open Go
set_option maxRecDepth 100000
set_option linter.unusedVariables false
set_option linter.unusedSectionVars false
set_option linter.unusedSimpArgs false
set_option maxHeartbeats 2000000
theorem byteOf_byte (b : UInt8) : byteOf [TC.i b.toNat] = b := by
  unfold byteOf
  simp [nth, TC.int]
theorem bytesRow_of (l : List UInt8) : (bytesRow l).map byteOf = l := by
  unfold bytesRow
  rw [List.map_map]
  exact (List.map_congr_left fun b _ => byteOf_byte b).trans (List.map_id l)
theorem repL_one (b : UInt8) : ∀ n, Lib.repeatL [b] n = List.replicate n b
  | 0 => rfl
  | n + 1 => by rw [Lib.repeatL, repL_one b n]; rfl
def padL (s : List UInt8) (n : Nat) : List UInt8 := s ++ List.replicate (n - s.length) 0
theorem padL_len {s : List UInt8} {n : Nat} (h : s.length ≤ n) : (padL s n).length = n := by
  unfold padL
  rw [List.length_append, List.length_replicate]
  omega
theorem zeros_of {k : Nat} : (List.replicate k [TC.i (0 : Int)]).map byteOf = List.replicate k 0 := by
  rw [List.map_replicate]
  rfl
/-! laws_toSuper -/
noncomputable def laws_toSuper_t (a0 : Int) (a1 : Int) (a2 : Int) (a3 : Int) : Tr (Int × Int × Int × Int) := .ok (a0, a1, a2, a3)
def laws_toSuper_mk (p : Int × Int × Int × Int) : Res := [(true, [⟨.int .i64, .sh, TC.i (p.1)⟩, ⟨.int .i64, .sh, TC.i (p.2.1)⟩, ⟨.int .i64, .sh, TC.i (p.2.2.1)⟩, ⟨.int .i64, .sh, TC.i (p.2.2.2)⟩])]
noncomputable def laws_toSuper_c (a0 : Int) (a1 : Int) (a2 : Int) (a3 : Int) : Bool := true
noncomputable def laws_toSuper_v (a0 : Int) (a1 : Int) (a2 : Int) (a3 : Int) : Int × Int × Int × Int := (a0, a1, a2, a3)
theorem laws_toSuper_l (a0 : Int) (a1 : Int) (a2 : Int) (a3 : Int) : (laws_toSuper_c a0 a1 a2 a3) = true → (laws_toSuper_t a0 a1 a2 a3).val = some (laws_toSuper_v a0 a1 a2 a3) := by
  intro h
  skip
  unfold laws_toSuper_t laws_toSuper_v
  exact rfl
noncomputable def laws_toSuper_S : List Arg → Option (Bool × Res) := fun xs => match xs with
  | [(true, [(.int .i64, TC.i a0), (.int .i64, TC.i a1), (.int .i64, TC.i a2), (.int .i64, TC.i a3)])] => some (true, laws_toSuper_mk (laws_toSuper_v a0 a1 a2 a3))
  | _ => .none
theorem laws_toSuper_e (a0 : Int) (a1 : Int) (a2 : Int) (a3 : Int) : runF tab FT D0 live 22 noLoops [(true, [(.int .i64, TC.i a0), (.int .i64, TC.i a1), (.int .i64, TC.i a2), (.int .i64, TC.i a3)])] = (laws_toSuper_t a0 a1 a2 a3).run fun p => some (laws_toSuper_mk p) := by kernel_rfl
theorem laws_toSuper_s : ∀ xs r, laws_toSuper_S xs = some (true, r) → runF tab FT D0 live 22 noLoops xs = some r := by
  intro xs r h
  unfold laws_toSuper_S at h
  split at h
  · simp only [Option.some.injEq, Prod.mk.injEq] at h
    obtain ⟨h1, rfl⟩ := h
    exact fun_told (laws_toSuper_e _ _ _ _) (laws_toSuper_l _ _ _ _) rfl
  · cases h
noncomputable def D1 : Dt := also D0 22 laws_toSuper_S
theorem d1 : DOk Go.Proofs.Try.prog tab D1 := d0.also mixed_ok tab_ok names_ok noLoops_ok laws_toSuper_s
/-! spec_l00In -/
noncomputable def spec_l00In_t (a0 : Int) (a1 : Int) (a2 : Int) : Tr (Bool) := (.ite ((decide (a0 ≥ a1)) = true) (.ok (decide (a0 ≤ a2)))
  (.ok false))
def spec_l00In_mk (p : Bool) : Res := [(false, [⟨.bool, .sh, TC.b p⟩])]
noncomputable def spec_l00In_c (a0 : Int) (a1 : Int) (a2 : Int) : Bool := true
noncomputable def spec_l00In_v (a0 : Int) (a1 : Int) (a2 : Int) : Bool := (bif (decide (a0 ≥ a1)) then (decide (a0 ≤ a2)) else false)
theorem spec_l00In_l (a0 : Int) (a1 : Int) (a2 : Int) : (spec_l00In_c a0 a1 a2) = true → (spec_l00In_t a0 a1 a2).val = some (spec_l00In_v a0 a1 a2) := by
  intro h
  skip
  unfold spec_l00In_t spec_l00In_v
  exact (Tr.s rfl rfl)
noncomputable def spec_l00In_S : List Arg → Option (Bool × Res) := fun xs => match xs with
  | [(false, [(.int .i64, TC.i a0)]), (false, [(.int .i64, TC.i a1)]), (false, [(.int .i64, TC.i a2)])] => some (true, spec_l00In_mk (spec_l00In_v a0 a1 a2))
  | _ => .none
theorem spec_l00In_e (a0 : Int) (a1 : Int) (a2 : Int) : runF tab FT D1 live 90 noLoops [(false, [(.int .i64, TC.i a0)]), (false, [(.int .i64, TC.i a1)]), (false, [(.int .i64, TC.i a2)])] = (spec_l00In_t a0 a1 a2).run fun p => some (spec_l00In_mk p) := by kernel_rfl
theorem spec_l00In_s : ∀ xs r, spec_l00In_S xs = some (true, r) → runF tab FT D1 live 90 noLoops xs = some r := by
  intro xs r h
  unfold spec_l00In_S at h
  split at h
  · simp only [Option.some.injEq, Prod.mk.injEq] at h
    obtain ⟨h1, rfl⟩ := h
    exact fun_told (spec_l00In_e _ _ _) (spec_l00In_l _ _ _) rfl
  · cases h
noncomputable def D2 : Dt := also D1 90 spec_l00In_S
theorem d2 : DOk Go.Proofs.Try.prog tab D2 := d1.also mixed_ok tab_ok names_ok noLoops_ok spec_l00In_s
/-! spec_ValidSuper -/
noncomputable def spec_ValidSuper_t (a0 : Int) (a1 : Int) (a2 : Int) (a3 : Int) : Tr (Bool) := (.ite ((spec_l00In_v a0 (16 : Int) (256 : Int)) = true) (.ite ((spec_l00In_v a1 (8 : Int) (64 : Int)) = true) (.ite ((decide (a1 ≤ (IntKind.wrap .i64 (a0 - (4 : Int))))) = true) (.ite ((spec_l00In_v a2 (0 : Int) (1000000000000 : Int)) = true) (.ok (spec_l00In_v a3 (0 : Int) (1000000000000 : Int)))
     (.ok false))
    (.ok false))
   (.ok false))
  (.ok false))
def spec_ValidSuper_mk (p : Bool) : Res := [(false, [⟨.bool, .sh, TC.b p⟩])]
noncomputable def spec_ValidSuper_c (a0 : Int) (a1 : Int) (a2 : Int) (a3 : Int) : Bool := true
noncomputable def spec_ValidSuper_v (a0 : Int) (a1 : Int) (a2 : Int) (a3 : Int) : Bool := (bif (spec_l00In_v a0 (16 : Int) (256 : Int)) then (bif (spec_l00In_v a1 (8 : Int) (64 : Int)) then (bif (decide (a1 ≤ (IntKind.wrap .i64 (a0 - (4 : Int))))) then (bif (spec_l00In_v a2 (0 : Int) (1000000000000 : Int)) then (spec_l00In_v a3 (0 : Int) (1000000000000 : Int)) else false) else false) else false) else false)
theorem spec_ValidSuper_l (a0 : Int) (a1 : Int) (a2 : Int) (a3 : Int) : (spec_ValidSuper_c a0 a1 a2 a3) = true → (spec_ValidSuper_t a0 a1 a2 a3).val = some (spec_ValidSuper_v a0 a1 a2 a3) := by
  intro h
  skip
  unfold spec_ValidSuper_t spec_ValidSuper_v
  exact (Tr.s (Tr.s (Tr.s (Tr.s rfl rfl) rfl) rfl) rfl)
noncomputable def spec_ValidSuper_S : List Arg → Option (Bool × Res) := fun xs => match xs with
  | [(true, [(.int .i64, TC.i a0), (.int .i64, TC.i a1), (.int .i64, TC.i a2), (.int .i64, TC.i a3)])] => some (true, spec_ValidSuper_mk (spec_ValidSuper_v a0 a1 a2 a3))
  | _ => .none
theorem spec_ValidSuper_e (a0 : Int) (a1 : Int) (a2 : Int) (a3 : Int) : runF tab FT D2 live 60 noLoops [(true, [(.int .i64, TC.i a0), (.int .i64, TC.i a1), (.int .i64, TC.i a2), (.int .i64, TC.i a3)])] = (spec_ValidSuper_t a0 a1 a2 a3).run fun p => some (spec_ValidSuper_mk p) := by kernel_rfl
theorem spec_ValidSuper_s : ∀ xs r, spec_ValidSuper_S xs = some (true, r) → runF tab FT D2 live 60 noLoops xs = some r := by
  intro xs r h
  unfold spec_ValidSuper_S at h
  split at h
  · simp only [Option.some.injEq, Prod.mk.injEq] at h
    obtain ⟨h1, rfl⟩ := h
    exact fun_told (spec_ValidSuper_e _ _ _ _) (spec_ValidSuper_l _ _ _ _) rfl
  · cases h
noncomputable def D3 : Dt := also D2 60 spec_ValidSuper_S
theorem d3 : DOk Go.Proofs.Try.prog tab D3 := d2.also mixed_ok tab_ok names_ok noLoops_ok spec_ValidSuper_s
/-! spec_l01Bytes -/
abbrev spec_l01Bytes_3_σ := Int × Int × List (List TC) × Int
abbrev spec_l01Bytes_3_ω := (List (List TC))
noncomputable def spec_l01Bytes_3_step (n : Int) (size : Int) (X : List (List TC)) (k : Int) : Tr (spec_l01Bytes_3_σ ⊕ spec_l01Bytes_3_ω) := (.ite ((decide (k < size)) = true) (.ite (0 ≤ (IntKind.wrap .u64 ((8 : Int) * (IntKind.wrap .u64 k)))) (.ite (roomFor (tab 5) (X ++ [[TC.i (IntKind.wrap .u8 (bits .i64 (fun a b => a &&& b) (Int.fdiv n (2 ^ (min ((IntKind.wrap .u64 ((8 : Int) * (IntKind.wrap .u64 k)))).toNat 64))) (255 : Int)))]]).length) (.ok (.inl (n, size, (X ++ [[TC.i (IntKind.wrap .u8 (bits .i64 (fun a b => a &&& b) (Int.fdiv n (2 ^ (min ((IntKind.wrap .u64 ((8 : Int) * (IntKind.wrap .u64 k)))).toNat 64))) (255 : Int)))]]), (IntKind.wrap .i64 (k + (1 : Int))))))
    .no)
   .no)
  (.ok (.inr X)))
noncomputable def spec_l01Bytes_3_st : spec_l01Bytes_3_σ → Tr (spec_l01Bytes_3_σ ⊕ spec_l01Bytes_3_ω) := fun x => (spec_l01Bytes_3_step (x.1) (x.2.1) (x.2.2.1) (x.2.2.2))
noncomputable def spec_l01Bytes_o3_1 (n : Int) (size : Int) (X : List (List TC)) (k : Int) : Bool := is (∃ sz : Nat, size = (sz : Int) ∧ sz ≤ 8 ∧ X = [] ∧ k = 0)
noncomputable def spec_l01Bytes_u3_1 (n : Int) (size : Int) (X : List (List TC)) (k : Int) : List (List TC) := bRows n size.toNat
noncomputable def spec_l01Bytes_3_fin (n : Int) (size : Int) (X : List (List TC)) (k : Int) : Told spec_l01Bytes_3_ω := (.leaf (spec_l01Bytes_o3_1 n size X k) (spec_l01Bytes_u3_1 n size X k))
def spec_l01Bytes_3_sl (x : spec_l01Bytes_3_σ) : List Slot := [⟨.val false [⟨.int .i64, .sh, TC.i (x.1)⟩], ⟨0, 0⟩⟩, ⟨.val false [⟨.int .i64, .sh, TC.i (x.2.1)⟩], ⟨0, 0⟩⟩, ⟨.val false [⟨.slice 5, .own true, TC.l (x.2.2.1)⟩], ⟨0, 0⟩⟩, ⟨.val false [⟨.int .i64, .sh, TC.i (x.2.2.2)⟩], ⟨0, 0⟩⟩]
def spec_l01Bytes_3_out : spec_l01Bytes_3_ω → Ex × List Slot := (fun x => (.exit 0, [Slot.none, ⟨.val false [⟨.slice 5, .own true, TC.l x⟩], ⟨0, 0⟩⟩]))
noncomputable def spec_l01Bytes_lo3 : List Slot → Option (Told (Ex × List Slot)) := fun s => match s with
  | [⟨.val false [⟨.int .i64, .sh, TC.i n⟩], ⟨0, 0⟩⟩, ⟨.val false [⟨.int .i64, .sh, TC.i size⟩], ⟨0, 0⟩⟩, ⟨.val false [⟨.slice 5, .own true, TC.l X⟩], ⟨0, 0⟩⟩, ⟨.val false [⟨.int .i64, .sh, TC.i k⟩], ⟨0, 0⟩⟩] => some (((spec_l01Bytes_3_fin n size X k)).map spec_l01Bytes_3_out)
  | _ => .none
noncomputable def spec_l01Bytes_lo : LoopTeller := fun r s => bif Nat.beq r 3 then spec_l01Bytes_lo3 s else .none
theorem spec_l01Bytes_3_r (n : Int) (size : Int) (X : List (List TC)) (k : Int) (fuel : Nat) : rounds (rnd tab FT D3 live 108 spec_l01Bytes_lo 0 3) leave (fuel + 1) (spec_l01Bytes_3_sl (n, size, X, k)) = ((spec_l01Bytes_3_step n size X k)).run (goOn (fun s => rounds (rnd tab FT D3 live 108 spec_l01Bytes_lo 0 3) leave fuel (spec_l01Bytes_3_sl s)) fun w => some (spec_l01Bytes_3_out w)) := by kernel_rfl
theorem spec_l01Bytes_3_h (n : Int) (size : Int) (X : List (List TC)) (k : Int) (ow : spec_l01Bytes_3_ω) : ((spec_l01Bytes_3_fin n size X k)).val = some ow → ∃ fuel, loopN spec_l01Bytes_3_st fuel (n, size, X, k) = some ow := by
  intro h
  refine auto_leaf (R := bRows n size.toNat) (fun ho => ?_) h
  obtain ⟨sz, rfl, h8, rfl, rfl⟩ := is_iff.1 ho
  refine ⟨sz + 1, loopN_run (step := spec_l01Bytes_3_st) (N := sz) (fun j => (n, (sz : Int), bRows n j, (j : Int))) (fun j hj => ?_) ?_ sz 0 (by omega)⟩
  · show (spec_l01Bytes_3_step n (sz : Int) (bRows n j) (j : Int)).val = _
    unfold spec_l01Bytes_3_step
    rw [bAt_u64 (by omega), bRows_succ]
    refine Tr.t (by simp; omega) ?_
    refine Tr.t (by rw [IntKind.wrap_u64]; omega) ?_
    refine Tr.t (by unfold roomFor; simp only [show (tab 5).bytes = 1 from rfl, bRows_len]; omega) ?_
    rw [Tr.val_ok, wrap64 (i := (j : Int) + 1) (by omega) (by omega)]; rfl
  · show (spec_l01Bytes_3_step n (sz : Int) (bRows n sz) (sz : Int)).val = _
    refine Tr.n (by simp) ?_
    rfl
theorem spec_l01Bytes_is3 : LoopIs tab FT D3 live 108 spec_l01Bytes_lo 0 3 := by
  refine loop_told (sl := spec_l01Bytes_3_sl) (step := spec_l01Bytes_3_st) (out := spec_l01Bytes_3_out) (lor := spec_l01Bytes_lo3) (fin := fun x => (spec_l01Bytes_3_fin (x.1) (x.2.1) (x.2.2.1) (x.2.2.2))) (fun _ => rfl) ?_ (fun x n => spec_l01Bytes_3_r x.1 x.2.1 x.2.2.1 x.2.2.2 n) (fun x ow => spec_l01Bytes_3_h x.1 x.2.1 x.2.2.1 x.2.2.2 ow)
  intro s t h
  unfold spec_l01Bytes_lo3 at h
  split at h
  · cases h; exact ⟨(_, _, _, _), rfl, rfl⟩
  · cases h
noncomputable def spec_l01Bytes_t (n : Int) (size : Int) : Tr (List UInt8) := (.ite ((spec_l01Bytes_o3_1 n size [] (0 : Int)) = true) (.ok ((spec_l01Bytes_u3_1 n size [] (0 : Int)).map byteOf))
  .no)
def spec_l01Bytes_mk (p : List UInt8) : Res := [(false, [⟨.str, .sh, TC.s p⟩])]
noncomputable def spec_l01Bytes_c (n : Int) (size : Int) : Bool := is (∃ sz : Nat, size = (sz : Int) ∧ sz ≤ 8)
noncomputable def spec_l01Bytes_v (n : Int) (size : Int) : List UInt8 := hid (bytesL n size.toNat)
theorem spec_l01Bytes_l (n : Int) (size : Int) : (spec_l01Bytes_c n size) = true → (spec_l01Bytes_t n size).val = some (spec_l01Bytes_v n size) := by
  intro h
  obtain ⟨sz, rfl, h8⟩ := is_iff.1 h
  unfold spec_l01Bytes_t
  refine Tr.t (is_true ⟨sz, rfl, h8, rfl, rfl⟩) ?_
  unfold spec_l01Bytes_v
  rw [hid_eq]; rfl
noncomputable def spec_l01Bytes_S : List Arg → Option (Bool × Res) := fun xs => match xs with
  | [(false, [(.int .i64, TC.i n)]), (false, [(.int .i64, TC.i size)])] => some ((spec_l01Bytes_c n size), spec_l01Bytes_mk (spec_l01Bytes_v n size))
  | _ => .none
theorem spec_l01Bytes_e (n : Int) (size : Int) : runF tab FT D3 live 108 spec_l01Bytes_lo [(false, [(.int .i64, TC.i n)]), (false, [(.int .i64, TC.i size)])] = (spec_l01Bytes_t n size).run fun p => some (spec_l01Bytes_mk p) := by kernel_rfl
theorem spec_l01Bytes_s : ∀ xs r, spec_l01Bytes_S xs = some (true, r) → runF tab FT D3 live 108 spec_l01Bytes_lo xs = some r := by
  intro xs r h
  unfold spec_l01Bytes_S at h
  split at h
  · simp only [Option.some.injEq, Prod.mk.injEq] at h
    obtain ⟨h1, rfl⟩ := h
    exact fun_told (spec_l01Bytes_e _ _) (spec_l01Bytes_l _ _) h1
  · cases h
noncomputable def D4 : Dt := also D3 108 spec_l01Bytes_S
theorem d4 : DOk Go.Proofs.Try.prog tab D4 := d3.also mixed_ok tab_ok names_ok (fnLoops_one (by kernel_rfl) spec_l01Bytes_is3) spec_l01Bytes_s
theorem spec_l01Bytes_h {n size : Int} : spec_l01Bytes_v n size = bytesL n size.toNat := hid_eq _
/-! spec_l01Pad -/
noncomputable def spec_l01Pad_t (s : List UInt8) (n : Int) : Tr (List UInt8) := (.ite ((decide ((s.length : Int) ≥ n)) = true) (.ok s)
  (.ite (0 ≤ (IntKind.wrap .i64 (n - (s.length : Int))) ∧ (IntKind.wrap .i64 (n - (s.length : Int))) ≤ (IntKind.wrap .i64 (n - (s.length : Int))) ∧ (IntKind.wrap .i64 (n - (s.length : Int))) * 1 ≤ 140737488355328 ∧ (IntKind.wrap .i64 (n - (s.length : Int))) ≤ 140737488355328) (.ite (((s.length + ((List.replicate ((IntKind.wrap .i64 (n - (s.length : Int)))).toNat [TC.i (0 : Int)]).map byteOf).length : Nat) : Int) ≤ 9223372036854775807) (.ok (s ++ ((List.replicate ((IntKind.wrap .i64 (n - (s.length : Int)))).toNat [TC.i (0 : Int)]).map byteOf)))
    .no)
   .no))
def spec_l01Pad_mk (p : List UInt8) : Res := [(false, [⟨.str, .sh, TC.s p⟩])]
noncomputable def spec_l01Pad_c (s : List UInt8) (n : Int) : Bool := is (∃ m : Nat, n = (m : Int) ∧ s.length ≤ m ∧ m ≤ 65536)
noncomputable def spec_l01Pad_v (s : List UInt8) (n : Int) : List UInt8 := hid (padL s n.toNat)
theorem spec_l01Pad_l (s : List UInt8) (n : Int) : (spec_l01Pad_c s n) = true → (spec_l01Pad_t s n).val = some (spec_l01Pad_v s n) := by
  intro h
  obtain ⟨m, rfl, h0, h1⟩ := is_iff.1 h
  unfold spec_l01Pad_t spec_l01Pad_v
  have e : IntKind.wrap .i64 ((m : Int) - (s.length : Int)) = ((m - s.length : Nat) : Int) := by rw [wrap64 (by omega) (by omega)]; omega
  rw [hid_eq, e, zeros_of, Int.toNat_natCast, Int.toNat_natCast]
  by_cases hm : s.length = m
  · refine Tr.t (by simp; omega) ?_
    rw [Tr.val_ok]
    unfold padL
    rw [show m - s.length = 0 by omega, List.replicate_zero, List.append_nil]
  · refine Tr.n (by simp; omega) ?_
    refine Tr.t (by omega) ?_
    refine Tr.t (by rw [List.length_replicate]; omega) ?_
    rfl
noncomputable def spec_l01Pad_S : List Arg → Option (Bool × Res) := fun xs => match xs with
  | [(false, [(.str, TC.s s)]), (false, [(.int .i64, TC.i n)])] => some ((spec_l01Pad_c s n), spec_l01Pad_mk (spec_l01Pad_v s n))
  | _ => .none
theorem spec_l01Pad_e (s : List UInt8) (n : Int) : runF tab FT D4 live 109 noLoops [(false, [(.str, TC.s s)]), (false, [(.int .i64, TC.i n)])] = (spec_l01Pad_t s n).run fun p => some (spec_l01Pad_mk p) := by kernel_rfl
theorem spec_l01Pad_s : ∀ xs r, spec_l01Pad_S xs = some (true, r) → runF tab FT D4 live 109 noLoops xs = some r := by
  intro xs r h
  unfold spec_l01Pad_S at h
  split at h
  · simp only [Option.some.injEq, Prod.mk.injEq] at h
    obtain ⟨h1, rfl⟩ := h
    exact fun_told (spec_l01Pad_e _ _) (spec_l01Pad_l _ _) h1
  · cases h
noncomputable def D5 : Dt := also D4 109 spec_l01Pad_S
theorem d5 : DOk Go.Proofs.Try.prog tab D5 := d4.also mixed_ok tab_ok names_ok noLoops_ok spec_l01Pad_s
theorem spec_l01Pad_h {s : List UInt8} {n : Int} : spec_l01Pad_v s n = padL s n.toNat := hid_eq _
/-! spec_l10Encode -/
theorem spec_l01Bytes_l1 {n : Int} : (spec_l01Bytes_v n (1 : Int)).length = 1 := by rw [spec_l01Bytes_h]; exact bytesL_len
theorem spec_l01Bytes_l2 {n : Int} : (spec_l01Bytes_v n (2 : Int)).length = 2 := by rw [spec_l01Bytes_h]; exact bytesL_len
theorem spec_l01Bytes_l8 {n : Int} : (spec_l01Bytes_v n (8 : Int)).length = 8 := by rw [spec_l01Bytes_h]; exact bytesL_len
noncomputable def spec_l10Encode_t (bl : Int) (lg : Int) (sq : Int) (tn : Int) : Tr (List UInt8) := (.ite ((spec_l01Bytes_c (1 : Int) (1 : Int)) = true) (.ite ((([65, 82, 82, 83].length + (spec_l01Bytes_v (1 : Int) (1 : Int)).length : Nat) : Int) ≤ 9223372036854775807) (.ite ((spec_l01Bytes_c bl (2 : Int)) = true) (.ite (((([65, 82, 82, 83] ++ (spec_l01Bytes_v (1 : Int) (1 : Int))).length + (spec_l01Bytes_v bl (2 : Int)).length : Nat) : Int) ≤ 9223372036854775807) (.ite ((spec_l01Bytes_c lg (2 : Int)) = true) (.ite ((((([65, 82, 82, 83] ++ (spec_l01Bytes_v (1 : Int) (1 : Int))) ++ (spec_l01Bytes_v bl (2 : Int))).length + (spec_l01Bytes_v lg (2 : Int)).length : Nat) : Int) ≤ 9223372036854775807) (.ite ((spec_l01Bytes_c sq (8 : Int)) = true) (.ite (((((([65, 82, 82, 83] ++ (spec_l01Bytes_v (1 : Int) (1 : Int))) ++ (spec_l01Bytes_v bl (2 : Int))) ++ (spec_l01Bytes_v lg (2 : Int))).length + (spec_l01Bytes_v sq (8 : Int)).length : Nat) : Int) ≤ 9223372036854775807) (.ite ((spec_l01Bytes_c tn (8 : Int)) = true) (.ite ((((((([65, 82, 82, 83] ++ (spec_l01Bytes_v (1 : Int) (1 : Int))) ++ (spec_l01Bytes_v bl (2 : Int))) ++ (spec_l01Bytes_v lg (2 : Int))) ++ (spec_l01Bytes_v sq (8 : Int))).length + (spec_l01Bytes_v tn (8 : Int)).length : Nat) : Int) ≤ 9223372036854775807) (.ite ((spec_l01Pad_c ((((([65, 82, 82, 83] ++ (spec_l01Bytes_v (1 : Int) (1 : Int))) ++ (spec_l01Bytes_v bl (2 : Int))) ++ (spec_l01Bytes_v lg (2 : Int))) ++ (spec_l01Bytes_v sq (8 : Int))) ++ (spec_l01Bytes_v tn (8 : Int))) (32 : Int)) = true) (.ite ((((spec_l01Pad_v ((((([65, 82, 82, 83] ++ (spec_l01Bytes_v (1 : Int) (1 : Int))) ++ (spec_l01Bytes_v bl (2 : Int))) ++ (spec_l01Bytes_v lg (2 : Int))) ++ (spec_l01Bytes_v sq (8 : Int))) ++ (spec_l01Bytes_v tn (8 : Int))) (32 : Int)).length + (spec_l01Pad_v ((((([65, 82, 82, 83] ++ (spec_l01Bytes_v (1 : Int) (1 : Int))) ++ (spec_l01Bytes_v bl (2 : Int))) ++ (spec_l01Bytes_v lg (2 : Int))) ++ (spec_l01Bytes_v sq (8 : Int))) ++ (spec_l01Bytes_v tn (8 : Int))) (32 : Int)).length : Nat) : Int) ≤ 9223372036854775807) (.ok ((spec_l01Pad_v ((((([65, 82, 82, 83] ++ (spec_l01Bytes_v (1 : Int) (1 : Int))) ++ (spec_l01Bytes_v bl (2 : Int))) ++ (spec_l01Bytes_v lg (2 : Int))) ++ (spec_l01Bytes_v sq (8 : Int))) ++ (spec_l01Bytes_v tn (8 : Int))) (32 : Int)) ++ (spec_l01Pad_v ((((([65, 82, 82, 83] ++ (spec_l01Bytes_v (1 : Int) (1 : Int))) ++ (spec_l01Bytes_v bl (2 : Int))) ++ (spec_l01Bytes_v lg (2 : Int))) ++ (spec_l01Bytes_v sq (8 : Int))) ++ (spec_l01Bytes_v tn (8 : Int))) (32 : Int))))
             .no)
            .no)
           .no)
          .no)
         .no)
        .no)
       .no)
      .no)
     .no)
    .no)
   .no)
  .no)
def spec_l10Encode_mk (p : List UInt8) : Res := [(false, [⟨.str, .sh, TC.s p⟩])]
noncomputable def spec_l10Encode_c (bl : Int) (lg : Int) (sq : Int) (tn : Int) : Bool := ((spec_l01Bytes_c (1 : Int) (1 : Int)) && (is ((([65, 82, 82, 83].length + (spec_l01Bytes_v (1 : Int) (1 : Int)).length : Nat) : Int) ≤ 9223372036854775807) && ((spec_l01Bytes_c bl (2 : Int)) && (is (((([65, 82, 82, 83] ++ (spec_l01Bytes_v (1 : Int) (1 : Int))).length + (spec_l01Bytes_v bl (2 : Int)).length : Nat) : Int) ≤ 9223372036854775807) && ((spec_l01Bytes_c lg (2 : Int)) && (is ((((([65, 82, 82, 83] ++ (spec_l01Bytes_v (1 : Int) (1 : Int))) ++ (spec_l01Bytes_v bl (2 : Int))).length + (spec_l01Bytes_v lg (2 : Int)).length : Nat) : Int) ≤ 9223372036854775807) && ((spec_l01Bytes_c sq (8 : Int)) && (is (((((([65, 82, 82, 83] ++ (spec_l01Bytes_v (1 : Int) (1 : Int))) ++ (spec_l01Bytes_v bl (2 : Int))) ++ (spec_l01Bytes_v lg (2 : Int))).length + (spec_l01Bytes_v sq (8 : Int)).length : Nat) : Int) ≤ 9223372036854775807) && ((spec_l01Bytes_c tn (8 : Int)) && (is ((((((([65, 82, 82, 83] ++ (spec_l01Bytes_v (1 : Int) (1 : Int))) ++ (spec_l01Bytes_v bl (2 : Int))) ++ (spec_l01Bytes_v lg (2 : Int))) ++ (spec_l01Bytes_v sq (8 : Int))).length + (spec_l01Bytes_v tn (8 : Int)).length : Nat) : Int) ≤ 9223372036854775807) && ((spec_l01Pad_c ((((([65, 82, 82, 83] ++ (spec_l01Bytes_v (1 : Int) (1 : Int))) ++ (spec_l01Bytes_v bl (2 : Int))) ++ (spec_l01Bytes_v lg (2 : Int))) ++ (spec_l01Bytes_v sq (8 : Int))) ++ (spec_l01Bytes_v tn (8 : Int))) (32 : Int)) && (is ((((spec_l01Pad_v ((((([65, 82, 82, 83] ++ (spec_l01Bytes_v (1 : Int) (1 : Int))) ++ (spec_l01Bytes_v bl (2 : Int))) ++ (spec_l01Bytes_v lg (2 : Int))) ++ (spec_l01Bytes_v sq (8 : Int))) ++ (spec_l01Bytes_v tn (8 : Int))) (32 : Int)).length + (spec_l01Pad_v ((((([65, 82, 82, 83] ++ (spec_l01Bytes_v (1 : Int) (1 : Int))) ++ (spec_l01Bytes_v bl (2 : Int))) ++ (spec_l01Bytes_v lg (2 : Int))) ++ (spec_l01Bytes_v sq (8 : Int))) ++ (spec_l01Bytes_v tn (8 : Int))) (32 : Int)).length : Nat) : Int) ≤ 9223372036854775807) && true))))))))))))
noncomputable def spec_l10Encode_v (bl : Int) (lg : Int) (sq : Int) (tn : Int) : List UInt8 := hid (((spec_l01Pad_v ((((([65, 82, 82, 83] ++ (spec_l01Bytes_v (1 : Int) (1 : Int))) ++ (spec_l01Bytes_v bl (2 : Int))) ++ (spec_l01Bytes_v lg (2 : Int))) ++ (spec_l01Bytes_v sq (8 : Int))) ++ (spec_l01Bytes_v tn (8 : Int))) (32 : Int)) ++ (spec_l01Pad_v ((((([65, 82, 82, 83] ++ (spec_l01Bytes_v (1 : Int) (1 : Int))) ++ (spec_l01Bytes_v bl (2 : Int))) ++ (spec_l01Bytes_v lg (2 : Int))) ++ (spec_l01Bytes_v sq (8 : Int))) ++ (spec_l01Bytes_v tn (8 : Int))) (32 : Int))))
theorem spec_l10Encode_l (bl : Int) (lg : Int) (sq : Int) (tn : Int) : (spec_l10Encode_c bl lg sq tn) = true → (spec_l10Encode_t bl lg sq tn).val = some (spec_l10Encode_v bl lg sq tn) := by
  unfold spec_l10Encode_t spec_l10Encode_v spec_l10Encode_c
  rw [hid_eq]
  exact fun h => (Tr.gb h fun h => (Tr.gs h fun h => (Tr.gb h fun h => (Tr.gs h fun h => (Tr.gb h fun h => (Tr.gs h fun h => (Tr.gb h fun h => (Tr.gs h fun h => (Tr.gb h fun h => (Tr.gs h fun h => (Tr.gb h fun h => (Tr.gs h fun h => rfl))))))))))))
noncomputable def spec_l10Encode_S : List Arg → Option (Bool × Res) := fun xs => match xs with
  | [(true, [(.int .i64, TC.i bl), (.int .i64, TC.i lg), (.int .i64, TC.i sq), (.int .i64, TC.i tn)])] => some ((spec_l10Encode_c bl lg sq tn), spec_l10Encode_mk (spec_l10Encode_v bl lg sq tn))
  | _ => .none
theorem spec_l10Encode_e (bl : Int) (lg : Int) (sq : Int) (tn : Int) : runF tab FT D5 live 61 noLoops [(true, [(.int .i64, TC.i bl), (.int .i64, TC.i lg), (.int .i64, TC.i sq), (.int .i64, TC.i tn)])] = (spec_l10Encode_t bl lg sq tn).run fun p => some (spec_l10Encode_mk p) := by kernel_rfl
theorem spec_l10Encode_s : ∀ xs r, spec_l10Encode_S xs = some (true, r) → runF tab FT D5 live 61 noLoops xs = some r := by
  intro xs r h
  unfold spec_l10Encode_S at h
  split at h
  · simp only [Option.some.injEq, Prod.mk.injEq] at h
    obtain ⟨h1, rfl⟩ := h
    exact fun_told (spec_l10Encode_e _ _ _ _) (spec_l10Encode_l _ _ _ _) h1
  · cases h
noncomputable def D6 : Dt := also D5 61 spec_l10Encode_S
theorem d6 : DOk Go.Proofs.Try.prog tab D6 := d5.also mixed_ok tab_ok names_ok noLoops_ok spec_l10Encode_s
theorem spec_l10Encode_cc {bl : Int} {lg : Int} {sq : Int} {tn : Int}  : (spec_l10Encode_c bl lg sq tn) = true := by
  unfold spec_l10Encode_c
  refine andT (by first | exact is_true ⟨1, rfl, by omega⟩ | exact is_true ⟨2, rfl, by omega⟩ | exact is_true ⟨8, rfl, by omega⟩) ?_
  refine andT (is_true (by simp only [List.length_append, List.length_cons, List.length_nil, spec_l01Bytes_l1, spec_l01Bytes_l2, spec_l01Bytes_l8]; omega)) ?_
  refine andT (by first | exact is_true ⟨1, rfl, by omega⟩ | exact is_true ⟨2, rfl, by omega⟩ | exact is_true ⟨8, rfl, by omega⟩) ?_
  refine andT (is_true (by simp only [List.length_append, List.length_cons, List.length_nil, spec_l01Bytes_l1, spec_l01Bytes_l2, spec_l01Bytes_l8]; omega)) ?_
  refine andT (by first | exact is_true ⟨1, rfl, by omega⟩ | exact is_true ⟨2, rfl, by omega⟩ | exact is_true ⟨8, rfl, by omega⟩) ?_
  refine andT (is_true (by simp only [List.length_append, List.length_cons, List.length_nil, spec_l01Bytes_l1, spec_l01Bytes_l2, spec_l01Bytes_l8]; omega)) ?_
  refine andT (by first | exact is_true ⟨1, rfl, by omega⟩ | exact is_true ⟨2, rfl, by omega⟩ | exact is_true ⟨8, rfl, by omega⟩) ?_
  refine andT (is_true (by simp only [List.length_append, List.length_cons, List.length_nil, spec_l01Bytes_l1, spec_l01Bytes_l2, spec_l01Bytes_l8]; omega)) ?_
  refine andT (by first | exact is_true ⟨1, rfl, by omega⟩ | exact is_true ⟨2, rfl, by omega⟩ | exact is_true ⟨8, rfl, by omega⟩) ?_
  refine andT (is_true (by simp only [List.length_append, List.length_cons, List.length_nil, spec_l01Bytes_l1, spec_l01Bytes_l2, spec_l01Bytes_l8]; omega)) ?_
  refine andT (by exact is_true ⟨32, rfl, by simp only [List.length_append, List.length_cons, List.length_nil, spec_l01Bytes_l1, spec_l01Bytes_l2, spec_l01Bytes_l8]; omega, by omega⟩) ?_
  refine andT (is_true (by rw [spec_l01Pad_h, padL_len (by simp only [List.length_append, List.length_cons, List.length_nil, spec_l01Bytes_l1, spec_l01Bytes_l2, spec_l01Bytes_l8]; decide)]; decide)) ?_
  rfl
theorem spec_l10Encode_h {bl lg sq tn : Int} : spec_l10Encode_v bl lg sq tn = padL ([65, 82, 82, 83] ++ bytesL 1 1 ++ bytesL bl 2 ++ bytesL lg 2 ++ bytesL sq 8 ++ bytesL tn 8) 32 ++ padL ([65, 82, 82, 83] ++ bytesL 1 1 ++ bytesL bl 2 ++ bytesL lg 2 ++ bytesL sq 8 ++ bytesL tn 8) 32 := by
  unfold spec_l10Encode_v
  rw [hid_eq, spec_l01Pad_h]
  simp only [spec_l01Bytes_h]
  rfl
/-! spec_EncodeSuper -/
noncomputable def spec_EncodeSuper_t (bl : Int) (lg : Int) (sq : Int) (tn : Int) : Tr (List UInt8) := (.ite ((!(spec_ValidSuper_v bl lg sq tn)) = true) (.ok ([]))
  (.ite ((spec_l10Encode_c bl lg sq tn) = true) (.ok (spec_l10Encode_v bl lg sq tn))
   .no))
def spec_EncodeSuper_mk (p : List UInt8) : Res := [(false, [⟨.str, .sh, TC.s p⟩])]
noncomputable def spec_EncodeSuper_c (bl : Int) (lg : Int) (sq : Int) (tn : Int) : Bool := (bif (!(spec_ValidSuper_v bl lg sq tn)) then true else ((spec_l10Encode_c bl lg sq tn) && true))
noncomputable def spec_EncodeSuper_v (bl : Int) (lg : Int) (sq : Int) (tn : Int) : List UInt8 := (bif (!(spec_ValidSuper_v bl lg sq tn)) then [] else (spec_l10Encode_v bl lg sq tn))
theorem spec_EncodeSuper_l (bl : Int) (lg : Int) (sq : Int) (tn : Int) : (spec_EncodeSuper_c bl lg sq tn) = true → (spec_EncodeSuper_t bl lg sq tn).val = some (spec_EncodeSuper_v bl lg sq tn) := by
  unfold spec_EncodeSuper_t spec_EncodeSuper_v spec_EncodeSuper_c
  exact fun h => (Tr.ss h (fun h => rfl) (fun h => (Tr.gb h fun h => rfl)))
noncomputable def spec_EncodeSuper_S : List Arg → Option (Bool × Res) := fun xs => match xs with
  | [(true, [(.int .i64, TC.i bl), (.int .i64, TC.i lg), (.int .i64, TC.i sq), (.int .i64, TC.i tn)])] => some ((spec_EncodeSuper_c bl lg sq tn), spec_EncodeSuper_mk (spec_EncodeSuper_v bl lg sq tn))
  | _ => .none
theorem spec_EncodeSuper_e (bl : Int) (lg : Int) (sq : Int) (tn : Int) : runF tab FT D6 live 21 noLoops [(true, [(.int .i64, TC.i bl), (.int .i64, TC.i lg), (.int .i64, TC.i sq), (.int .i64, TC.i tn)])] = (spec_EncodeSuper_t bl lg sq tn).run fun p => some (spec_EncodeSuper_mk p) := by kernel_rfl
theorem spec_EncodeSuper_s : ∀ xs r, spec_EncodeSuper_S xs = some (true, r) → runF tab FT D6 live 21 noLoops xs = some r := by
  intro xs r h
  unfold spec_EncodeSuper_S at h
  split at h
  · simp only [Option.some.injEq, Prod.mk.injEq] at h
    obtain ⟨h1, rfl⟩ := h
    exact fun_told (spec_EncodeSuper_e _ _ _ _) (spec_EncodeSuper_l _ _ _ _) h1
  · cases h
noncomputable def D7 : Dt := also D6 21 spec_EncodeSuper_S
theorem d7 : DOk Go.Proofs.Try.prog tab D7 := d6.also mixed_ok tab_ok names_ok noLoops_ok spec_EncodeSuper_s
theorem spec_EncodeSuper_cc {bl : Int} {lg : Int} {sq : Int} {tn : Int}  : (spec_EncodeSuper_c bl lg sq tn) = true := by
  unfold spec_EncodeSuper_c
  refine bifT (fun b1 => ?_) (fun b1 => ?_)
  · skip
    rfl
  · skip
    refine andT (by exact spec_l10Encode_cc) ?_
    rfl
/-! impl_within -/
noncomputable def impl_within_t (a0 : Int) (a1 : Int) (a2 : Int) : Tr (Bool) := (.ite ((decide (a0 ≥ a1)) = true) (.ok (decide (a0 ≤ a2)))
  (.ok false))
def impl_within_mk (p : Bool) : Res := [(false, [⟨.bool, .sh, TC.b p⟩])]
noncomputable def impl_within_c (a0 : Int) (a1 : Int) (a2 : Int) : Bool := true
noncomputable def impl_within_v (a0 : Int) (a1 : Int) (a2 : Int) : Bool := (bif (decide (a0 ≥ a1)) then (decide (a0 ≤ a2)) else false)
theorem impl_within_l (a0 : Int) (a1 : Int) (a2 : Int) : (impl_within_c a0 a1 a2) = true → (impl_within_t a0 a1 a2).val = some (impl_within_v a0 a1 a2) := by
  intro h
  skip
  unfold impl_within_t impl_within_v
  exact (Tr.s rfl rfl)
noncomputable def impl_within_S : List Arg → Option (Bool × Res) := fun xs => match xs with
  | [(false, [(.int .i64, TC.i a0)]), (false, [(.int .i64, TC.i a1)]), (false, [(.int .i64, TC.i a2)])] => some (true, impl_within_mk (impl_within_v a0 a1 a2))
  | _ => .none
theorem impl_within_e (a0 : Int) (a1 : Int) (a2 : Int) : runF tab FT D7 live 94 noLoops [(false, [(.int .i64, TC.i a0)]), (false, [(.int .i64, TC.i a1)]), (false, [(.int .i64, TC.i a2)])] = (impl_within_t a0 a1 a2).run fun p => some (impl_within_mk p) := by kernel_rfl
theorem impl_within_s : ∀ xs r, impl_within_S xs = some (true, r) → runF tab FT D7 live 94 noLoops xs = some r := by
  intro xs r h
  unfold impl_within_S at h
  split at h
  · simp only [Option.some.injEq, Prod.mk.injEq] at h
    obtain ⟨h1, rfl⟩ := h
    exact fun_told (impl_within_e _ _ _) (impl_within_l _ _ _) rfl
  · cases h
noncomputable def D8 : Dt := also D7 94 impl_within_S
theorem d8 : DOk Go.Proofs.Try.prog tab D8 := d7.also mixed_ok tab_ok names_ok noLoops_ok impl_within_s
/-! impl_ValidSuper -/
noncomputable def impl_ValidSuper_t (a0 : Int) (a1 : Int) (a2 : Int) (a3 : Int) : Tr (Bool) := (.ite ((impl_within_v a0 (16 : Int) (256 : Int)) = true) (.ite ((impl_within_v a1 (8 : Int) (if (IntKind.wrap .i64 (a0 - (4 : Int))) < (64 : Int) then (IntKind.wrap .i64 (a0 - (4 : Int))) else (64 : Int))) = true) (.ite ((impl_within_v a2 (0 : Int) (1000000000000 : Int)) = true) (.ok (impl_within_v a3 (0 : Int) (1000000000000 : Int)))
    (.ok false))
   (.ok false))
  (.ok false))
def impl_ValidSuper_mk (p : Bool) : Res := [(false, [⟨.bool, .sh, TC.b p⟩])]
noncomputable def impl_ValidSuper_c (a0 : Int) (a1 : Int) (a2 : Int) (a3 : Int) : Bool := true
noncomputable def impl_ValidSuper_v (a0 : Int) (a1 : Int) (a2 : Int) (a3 : Int) : Bool := (bif (impl_within_v a0 (16 : Int) (256 : Int)) then (bif (impl_within_v a1 (8 : Int) (if (IntKind.wrap .i64 (a0 - (4 : Int))) < (64 : Int) then (IntKind.wrap .i64 (a0 - (4 : Int))) else (64 : Int))) then (bif (impl_within_v a2 (0 : Int) (1000000000000 : Int)) then (impl_within_v a3 (0 : Int) (1000000000000 : Int)) else false) else false) else false)
theorem impl_ValidSuper_l (a0 : Int) (a1 : Int) (a2 : Int) (a3 : Int) : (impl_ValidSuper_c a0 a1 a2 a3) = true → (impl_ValidSuper_t a0 a1 a2 a3).val = some (impl_ValidSuper_v a0 a1 a2 a3) := by
  intro h
  skip
  unfold impl_ValidSuper_t impl_ValidSuper_v
  exact (Tr.s (Tr.s (Tr.s rfl rfl) rfl) rfl)
noncomputable def impl_ValidSuper_S : List Arg → Option (Bool × Res) := fun xs => match xs with
  | [(true, [(.int .i64, TC.i a0), (.int .i64, TC.i a1), (.int .i64, TC.i a2), (.int .i64, TC.i a3)])] => some (true, impl_ValidSuper_mk (impl_ValidSuper_v a0 a1 a2 a3))
  | _ => .none
theorem impl_ValidSuper_e (a0 : Int) (a1 : Int) (a2 : Int) (a3 : Int) : runF tab FT D8 live 62 noLoops [(true, [(.int .i64, TC.i a0), (.int .i64, TC.i a1), (.int .i64, TC.i a2), (.int .i64, TC.i a3)])] = (impl_ValidSuper_t a0 a1 a2 a3).run fun p => some (impl_ValidSuper_mk p) := by kernel_rfl
theorem impl_ValidSuper_s : ∀ xs r, impl_ValidSuper_S xs = some (true, r) → runF tab FT D8 live 62 noLoops xs = some r := by
  intro xs r h
  unfold impl_ValidSuper_S at h
  split at h
  · simp only [Option.some.injEq, Prod.mk.injEq] at h
    obtain ⟨h1, rfl⟩ := h
    exact fun_told (impl_ValidSuper_e _ _ _ _) (impl_ValidSuper_l _ _ _ _) rfl
  · cases h
noncomputable def D9 : Dt := also D8 62 impl_ValidSuper_S
theorem d9 : DOk Go.Proofs.Try.prog tab D9 := d8.also mixed_ok tab_ok names_ok noLoops_ok impl_ValidSuper_s
/-! impl_putBytes -/
abbrev impl_putBytes_3_σ := Int × List (List TC) × Int × Int
abbrev impl_putBytes_3_ω := (List (List TC))
noncomputable def impl_putBytes_3_step (n : Int) (X : List (List TC)) (m : Int) (k : Int) : Tr (impl_putBytes_3_σ ⊕ impl_putBytes_3_ω) := (.ite ((decide (k < m)) = true) (.ite (0 ≤ (IntKind.wrap .i64 ((8 : Int) * k))) (.ite ((0 : Int) ≤ k ∧ k < (X.length : Int)) (.ok (.inl (n, (X.set (k).toNat (splice (row X k) 0 [TC.i (IntKind.wrap .u8 (Int.fdiv n (2 ^ (min ((IntKind.wrap .i64 ((8 : Int) * k))).toNat 64))))])), m, (IntKind.wrap .i64 (k + (1 : Int))))))
    .no)
   .no)
  (.ok (.inr X)))
noncomputable def impl_putBytes_3_st : impl_putBytes_3_σ → Tr (impl_putBytes_3_σ ⊕ impl_putBytes_3_ω) := fun x => (impl_putBytes_3_step (x.1) (x.2.1) (x.2.2.1) (x.2.2.2))
noncomputable def impl_putBytes_o3_1 (n : Int) (X : List (List TC)) (m : Int) (k : Int) : Bool := is (∃ sz : Nat, m = (sz : Int) ∧ sz ≤ 8 ∧ X = List.replicate sz [TC.i 0] ∧ k = 0)
noncomputable def impl_putBytes_u3_1 (n : Int) (X : List (List TC)) (m : Int) (k : Int) : List (List TC) := bRows n m.toNat
noncomputable def impl_putBytes_3_fin (n : Int) (X : List (List TC)) (m : Int) (k : Int) : Told impl_putBytes_3_ω := (.leaf (impl_putBytes_o3_1 n X m k) (impl_putBytes_u3_1 n X m k))
def impl_putBytes_3_sl (x : impl_putBytes_3_σ) : List Slot := [⟨.val false [⟨.int .i64, .sh, TC.i (x.1)⟩], ⟨0, 0⟩⟩, ⟨.val false [⟨.slice 5, .own true, TC.l (x.2.1)⟩], ⟨0, 0⟩⟩, ⟨.val false [⟨.int .i64, .sh, TC.i (x.2.2.1)⟩], ⟨0, 0⟩⟩, ⟨.val false [⟨.int .i64, .sh, TC.i (x.2.2.2)⟩], ⟨0, 0⟩⟩]
def impl_putBytes_3_out : impl_putBytes_3_ω → Ex × List Slot := (fun x => (.exit 0, [Slot.none, ⟨.val false [⟨.slice 5, .own true, TC.l x⟩], ⟨0, 0⟩⟩]))
noncomputable def impl_putBytes_lo3 : List Slot → Option (Told (Ex × List Slot)) := fun s => match s with
  | [⟨.val false [⟨.int .i64, .sh, TC.i n⟩], ⟨0, 0⟩⟩, ⟨.val false [⟨.slice 5, .own true, TC.l X⟩], ⟨0, 0⟩⟩, ⟨.val false [⟨.int .i64, .sh, TC.i m⟩], ⟨0, 0⟩⟩, ⟨.val false [⟨.int .i64, .sh, TC.i k⟩], ⟨0, 0⟩⟩] => some (((impl_putBytes_3_fin n X m k)).map impl_putBytes_3_out)
  | _ => .none
noncomputable def impl_putBytes_lo : LoopTeller := fun r s => bif Nat.beq r 3 then impl_putBytes_lo3 s else .none
theorem impl_putBytes_3_r (n : Int) (X : List (List TC)) (m : Int) (k : Int) (fuel : Nat) : rounds (rnd tab FT D9 live 99 impl_putBytes_lo 0 3) leave (fuel + 1) (impl_putBytes_3_sl (n, X, m, k)) = ((impl_putBytes_3_step n X m k)).run (goOn (fun s => rounds (rnd tab FT D9 live 99 impl_putBytes_lo 0 3) leave fuel (impl_putBytes_3_sl s)) fun w => some (impl_putBytes_3_out w)) := by kernel_rfl
theorem impl_putBytes_3_h (n : Int) (X : List (List TC)) (m : Int) (k : Int) (ow : impl_putBytes_3_ω) : ((impl_putBytes_3_fin n X m k)).val = some ow → ∃ fuel, loopN impl_putBytes_3_st fuel (n, X, m, k) = some ow := by
  intro h
  refine auto_leaf (R := bRows n m.toNat) (fun ho => ?_) h
  obtain ⟨sz, rfl, h8, rfl, rfl⟩ := is_iff.1 ho
  rw [wr_zero (n := n)]
  refine ⟨sz + 1, loopN_run (step := impl_putBytes_3_st) (N := sz) (fun j => (n, (wr sz (bAt n) (fun _ => [TC.i 0]) (fun p => decide (p < j))), (sz : Int), (j : Int))) (fun j hj => ?_) ?_ sz 0 (by omega)⟩
  · have e := wr_step (L := sz) (p0 := j) (F := bAt n) (O := fun _ => [TC.i 0]) (vis := fun p => decide (p < j)) (vis' := fun p => decide (p < j + 1)) hj (fun _ => rfl) (fun _ => rfl) (fun p _ => by
      rw [Bool.eq_iff_iff]; simp only [Bool.or_eq_true, decide_eq_true_eq, beq_iff_eq]; omega)
    show (impl_putBytes_3_step n (wr sz (bAt n) (fun _ => [TC.i 0]) (fun p => decide (p < j))) (sz : Int) (j : Int)).val = _
    unfold impl_putBytes_3_step
    rw [bAt_i64 (by omega)]
    refine Tr.t (by simp; omega) ?_
    refine Tr.t (by rw [wrap64 (by omega) (by omega)]; omega) ?_
    refine Tr.t ⟨by omega, by rw [wr_len]; omega⟩ ?_
    rw [Tr.val_ok, wrap64 (i := (j : Int) + 1) (by omega) (by omega)]
    show some (Sum.inl (n, (wr sz (bAt n) (fun _ => [TC.i 0]) (fun p => decide (p < j))).set j (splice ((wr sz (bAt n) (fun _ => [TC.i 0]) (fun p => decide (p < j))).getD j []) 0 (bAt n j)), (sz : Int), ((j + 1 : Nat) : Int))) = _
    rw [e]
  · show (impl_putBytes_3_step n (wr sz (bAt n) (fun _ => [TC.i 0]) (fun p => decide (p < sz))) (sz : Int) (sz : Int)).val = _
    refine Tr.n (by simp) ?_
    rw [wr_bRows]
    rfl
theorem impl_putBytes_is3 : LoopIs tab FT D9 live 99 impl_putBytes_lo 0 3 := by
  refine loop_told (sl := impl_putBytes_3_sl) (step := impl_putBytes_3_st) (out := impl_putBytes_3_out) (lor := impl_putBytes_lo3) (fin := fun x => (impl_putBytes_3_fin (x.1) (x.2.1) (x.2.2.1) (x.2.2.2))) (fun _ => rfl) ?_ (fun x n => impl_putBytes_3_r x.1 x.2.1 x.2.2.1 x.2.2.2 n) (fun x ow => impl_putBytes_3_h x.1 x.2.1 x.2.2.1 x.2.2.2 ow)
  intro s t h
  unfold impl_putBytes_lo3 at h
  split at h
  · cases h; exact ⟨(_, _, _, _), rfl, rfl⟩
  · cases h
noncomputable def impl_putBytes_t (n : Int) (size : Int) : Tr (List UInt8) := (.ite (0 ≤ size ∧ size ≤ size ∧ size * 1 ≤ 140737488355328 ∧ size ≤ 140737488355328) (.ite ((impl_putBytes_o3_1 n (List.replicate (size).toNat [TC.i (0 : Int)]) ((List.replicate (size).toNat [TC.i (0 : Int)]).length : Int) (0 : Int)) = true) (.ok ((impl_putBytes_u3_1 n (List.replicate (size).toNat [TC.i (0 : Int)]) ((List.replicate (size).toNat [TC.i (0 : Int)]).length : Int) (0 : Int)).map byteOf))
   .no)
  .no)
def impl_putBytes_mk (p : List UInt8) : Res := [(false, [⟨.str, .sh, TC.s p⟩])]
noncomputable def impl_putBytes_c (n : Int) (size : Int) : Bool := is (∃ sz : Nat, size = (sz : Int) ∧ sz ≤ 8)
noncomputable def impl_putBytes_v (n : Int) (size : Int) : List UInt8 := hid (bytesL n size.toNat)
theorem impl_putBytes_l (n : Int) (size : Int) : (impl_putBytes_c n size) = true → (impl_putBytes_t n size).val = some (impl_putBytes_v n size) := by
  intro h
  obtain ⟨sz, rfl, h8⟩ := is_iff.1 h
  unfold impl_putBytes_t
  refine Tr.t (by omega) ?_
  refine Tr.t (is_true ⟨sz, by simp, h8, rfl, rfl⟩) ?_
  unfold impl_putBytes_v
  rw [hid_eq]; simp; rfl
noncomputable def impl_putBytes_S : List Arg → Option (Bool × Res) := fun xs => match xs with
  | [(false, [(.int .i64, TC.i n)]), (false, [(.int .i64, TC.i size)])] => some ((impl_putBytes_c n size), impl_putBytes_mk (impl_putBytes_v n size))
  | _ => .none
theorem impl_putBytes_e (n : Int) (size : Int) : runF tab FT D9 live 99 impl_putBytes_lo [(false, [(.int .i64, TC.i n)]), (false, [(.int .i64, TC.i size)])] = (impl_putBytes_t n size).run fun p => some (impl_putBytes_mk p) := by kernel_rfl
theorem impl_putBytes_s : ∀ xs r, impl_putBytes_S xs = some (true, r) → runF tab FT D9 live 99 impl_putBytes_lo xs = some r := by
  intro xs r h
  unfold impl_putBytes_S at h
  split at h
  · simp only [Option.some.injEq, Prod.mk.injEq] at h
    obtain ⟨h1, rfl⟩ := h
    exact fun_told (impl_putBytes_e _ _) (impl_putBytes_l _ _) h1
  · cases h
noncomputable def D10 : Dt := also D9 99 impl_putBytes_S
theorem d10 : DOk Go.Proofs.Try.prog tab D10 := d9.also mixed_ok tab_ok names_ok (fnLoops_one (by kernel_rfl) impl_putBytes_is3) impl_putBytes_s
theorem impl_putBytes_h {n size : Int} : impl_putBytes_v n size = bytesL n size.toNat := hid_eq _
theorem impl_putBytes_len {n : Int} {sz : Nat} : (impl_putBytes_v n (sz : Int)).length = sz := by rw [impl_putBytes_h]; exact bytesL_len
/-! strings_Repeat, by contract -/
noncomputable def strings_Repeat_c (s : List UInt8) (n : Int) : Bool := is (0 ≤ n ∧ n ≤ 9223372036854775807 ∧ s.length * n.toNat ≤ 140737488355328)
noncomputable def strings_Repeat_v (s : List UInt8) (n : Int) : List UInt8 := hid (Lib.repeatL s n.toNat)
def strings_Repeat_mk (p : List UInt8) : Res := [(false, [⟨.str, .sh, TC.s p⟩])]
noncomputable def strings_Repeat_S : List Arg → Option (Bool × Res) := fun xs => match xs with
  | [(false, [(.str, TC.s s)]), (false, [(.int .i64, TC.i n)])] => some ((strings_Repeat_c s n), strings_Repeat_mk (strings_Repeat_v s n))
  | _ => .none
noncomputable def D11 : Dt := also D10 141 strings_Repeat_S
theorem d11 : DOk Go.Proofs.Try.prog tab D11 := d10.alsoC names_ok (c := _) Go.Proofs.Try.func141 rfl (by
  intro xs r h w S hargs0 hS hargs
  unfold strings_Repeat_S at h
  split at h
  · rename_i s n
    simp only [Option.some.injEq, Prod.mk.injEq] at h
    obtain ⟨h1, rfl⟩ := h
    obtain ⟨h2, h3, h4⟩ := is_iff.1 h1
    obtain ⟨u, us, rfl, ha, hr⟩ := args_cons hargs
    obtain ⟨u2, us2, rfl, hb, hr⟩ := args_cons hr
    cases args_nil hr
    rw [rep_str' (arg_rep ha), rep_int' (arg_rep hb)]
    obtain ⟨m, rfl⟩ : ∃ m : Nat, n = (m : Int) := ⟨n.toNat, by omega⟩
    rw [Int.toNat_natCast] at h4
    refine Calls.mono (Any.strings_Repeat lays105 extra ⟨s.toArray⟩ m w (by omega) (by rw [bytes_size]; exact h4)) ?_
    rintro e w' ⟨rfl, hb⟩
    refine ⟨_, rfl, ?_⟩
    show PlainRes tab w S [(false, [⟨.str, .sh, .s (hid (Lib.repeatL s ((m : Int)).toNat))⟩])] _ w'
    rw [hid_eq, Int.toNat_natCast]
    exact plain_flat rfl (.str _) hb
  · cases h)
theorem strings_Repeat_h {s : List UInt8} {n : Int} : strings_Repeat_v s n = Lib.repeatL s n.toNat := hid_eq _
/-! impl_zeros -/
noncomputable def impl_zeros_t (n : Int) : Tr (List UInt8) := (.ite ((strings_Repeat_c [0] n) = true) (.ok (strings_Repeat_v [0] n))
  .no)
def impl_zeros_mk (p : List UInt8) : Res := [(false, [⟨.str, .sh, TC.s p⟩])]
noncomputable def impl_zeros_c (n : Int) : Bool := is (0 ≤ n ∧ n ≤ 65536)
noncomputable def impl_zeros_v (n : Int) : List UInt8 := hid (List.replicate n.toNat 0)
theorem impl_zeros_l (n : Int) : (impl_zeros_c n) = true → (impl_zeros_t n).val = some (impl_zeros_v n) := by
  intro h
  obtain ⟨h0, h1⟩ := is_iff.1 h
  unfold impl_zeros_t impl_zeros_v
  rw [hid_eq]
  refine Tr.t (is_true ⟨h0, by omega, by rw [List.length_singleton]; omega⟩) ?_
  rw [Tr.val_ok, strings_Repeat_h, repL_one]
noncomputable def impl_zeros_S : List Arg → Option (Bool × Res) := fun xs => match xs with
  | [(false, [(.int .i64, TC.i n)])] => some ((impl_zeros_c n), impl_zeros_mk (impl_zeros_v n))
  | _ => .none
theorem impl_zeros_e (n : Int) : runF tab FT D11 live 122 noLoops [(false, [(.int .i64, TC.i n)])] = (impl_zeros_t n).run fun p => some (impl_zeros_mk p) := by kernel_rfl
theorem impl_zeros_s : ∀ xs r, impl_zeros_S xs = some (true, r) → runF tab FT D11 live 122 noLoops xs = some r := by
  intro xs r h
  unfold impl_zeros_S at h
  split at h
  · simp only [Option.some.injEq, Prod.mk.injEq] at h
    obtain ⟨h1, rfl⟩ := h
    exact fun_told (impl_zeros_e _) (impl_zeros_l _) h1
  · cases h
noncomputable def D12 : Dt := also D11 122 impl_zeros_S
theorem d12 : DOk Go.Proofs.Try.prog tab D12 := d11.also mixed_ok tab_ok names_ok noLoops_ok impl_zeros_s
theorem impl_zeros_h {n : Int} : impl_zeros_v n = List.replicate n.toNat 0 := hid_eq _
/-! impl_padded -/
noncomputable def impl_padded_t (s : List UInt8) (n : Int) : Tr (List UInt8) := (.ite ((impl_zeros_c (IntKind.wrap .i64 (n - (s.length : Int)))) = true) (.ite (((s.length + (impl_zeros_v (IntKind.wrap .i64 (n - (s.length : Int)))).length : Nat) : Int) ≤ 9223372036854775807) (.ok (s ++ (impl_zeros_v (IntKind.wrap .i64 (n - (s.length : Int))))))
   .no)
  .no)
def impl_padded_mk (p : List UInt8) : Res := [(false, [⟨.str, .sh, TC.s p⟩])]
noncomputable def impl_padded_c (s : List UInt8) (n : Int) : Bool := is (∃ m : Nat, n = (m : Int) ∧ s.length ≤ m ∧ m ≤ 65536)
noncomputable def impl_padded_v (s : List UInt8) (n : Int) : List UInt8 := hid (padL s n.toNat)
theorem impl_padded_l (s : List UInt8) (n : Int) : (impl_padded_c s n) = true → (impl_padded_t s n).val = some (impl_padded_v s n) := by
  intro h
  obtain ⟨m, rfl, h0, h1⟩ := is_iff.1 h
  unfold impl_padded_t impl_padded_v
  have e : IntKind.wrap .i64 ((m : Int) - (s.length : Int)) = ((m - s.length : Nat) : Int) := by rw [wrap64 (by omega) (by omega)]; omega
  rw [hid_eq, e, impl_zeros_h, Int.toNat_natCast, Int.toNat_natCast]
  refine Tr.t (is_true ⟨by omega, by omega⟩) ?_
  refine Tr.t (by rw [List.length_replicate]; omega) ?_
  rfl
noncomputable def impl_padded_S : List Arg → Option (Bool × Res) := fun xs => match xs with
  | [(false, [(.str, TC.s s)]), (false, [(.int .i64, TC.i n)])] => some ((impl_padded_c s n), impl_padded_mk (impl_padded_v s n))
  | _ => .none
theorem impl_padded_e (s : List UInt8) (n : Int) : runF tab FT D12 live 110 noLoops [(false, [(.str, TC.s s)]), (false, [(.int .i64, TC.i n)])] = (impl_padded_t s n).run fun p => some (impl_padded_mk p) := by kernel_rfl
theorem impl_padded_s : ∀ xs r, impl_padded_S xs = some (true, r) → runF tab FT D12 live 110 noLoops xs = some r := by
  intro xs r h
  unfold impl_padded_S at h
  split at h
  · simp only [Option.some.injEq, Prod.mk.injEq] at h
    obtain ⟨h1, rfl⟩ := h
    exact fun_told (impl_padded_e _ _) (impl_padded_l _ _) h1
  · cases h
noncomputable def D13 : Dt := also D12 110 impl_padded_S
theorem d13 : DOk Go.Proofs.Try.prog tab D13 := d12.also mixed_ok tab_ok names_ok noLoops_ok impl_padded_s
theorem impl_padded_h {s : List UInt8} {n : Int} : impl_padded_v s n = padL s n.toNat := hid_eq _
/-! impl_Super_encode -/
theorem impl_putBytes_l1 {n : Int} : (impl_putBytes_v n (1 : Int)).length = 1 := by rw [impl_putBytes_h]; exact bytesL_len
theorem impl_putBytes_l2 {n : Int} : (impl_putBytes_v n (2 : Int)).length = 2 := by rw [impl_putBytes_h]; exact bytesL_len
theorem impl_putBytes_l8 {n : Int} : (impl_putBytes_v n (8 : Int)).length = 8 := by rw [impl_putBytes_h]; exact bytesL_len
noncomputable def impl_Super_encode_t (bl : Int) (lg : Int) (sq : Int) (tn : Int) : Tr (List UInt8) := (.ite ((impl_putBytes_c (1 : Int) (1 : Int)) = true) (.ite ((([65, 82, 82, 83].length + (impl_putBytes_v (1 : Int) (1 : Int)).length : Nat) : Int) ≤ 9223372036854775807) (.ite ((impl_putBytes_c bl (2 : Int)) = true) (.ite (((([65, 82, 82, 83] ++ (impl_putBytes_v (1 : Int) (1 : Int))).length + (impl_putBytes_v bl (2 : Int)).length : Nat) : Int) ≤ 9223372036854775807) (.ite ((impl_putBytes_c lg (2 : Int)) = true) (.ite ((((([65, 82, 82, 83] ++ (impl_putBytes_v (1 : Int) (1 : Int))) ++ (impl_putBytes_v bl (2 : Int))).length + (impl_putBytes_v lg (2 : Int)).length : Nat) : Int) ≤ 9223372036854775807) (.ite ((impl_putBytes_c sq (8 : Int)) = true) (.ite (((((([65, 82, 82, 83] ++ (impl_putBytes_v (1 : Int) (1 : Int))) ++ (impl_putBytes_v bl (2 : Int))) ++ (impl_putBytes_v lg (2 : Int))).length + (impl_putBytes_v sq (8 : Int)).length : Nat) : Int) ≤ 9223372036854775807) (.ite ((impl_putBytes_c tn (8 : Int)) = true) (.ite ((((((([65, 82, 82, 83] ++ (impl_putBytes_v (1 : Int) (1 : Int))) ++ (impl_putBytes_v bl (2 : Int))) ++ (impl_putBytes_v lg (2 : Int))) ++ (impl_putBytes_v sq (8 : Int))).length + (impl_putBytes_v tn (8 : Int)).length : Nat) : Int) ≤ 9223372036854775807) (.ite ((impl_padded_c ((((([65, 82, 82, 83] ++ (impl_putBytes_v (1 : Int) (1 : Int))) ++ (impl_putBytes_v bl (2 : Int))) ++ (impl_putBytes_v lg (2 : Int))) ++ (impl_putBytes_v sq (8 : Int))) ++ (impl_putBytes_v tn (8 : Int))) (32 : Int)) = true) (.ite ((((impl_padded_v ((((([65, 82, 82, 83] ++ (impl_putBytes_v (1 : Int) (1 : Int))) ++ (impl_putBytes_v bl (2 : Int))) ++ (impl_putBytes_v lg (2 : Int))) ++ (impl_putBytes_v sq (8 : Int))) ++ (impl_putBytes_v tn (8 : Int))) (32 : Int)).length + (impl_padded_v ((((([65, 82, 82, 83] ++ (impl_putBytes_v (1 : Int) (1 : Int))) ++ (impl_putBytes_v bl (2 : Int))) ++ (impl_putBytes_v lg (2 : Int))) ++ (impl_putBytes_v sq (8 : Int))) ++ (impl_putBytes_v tn (8 : Int))) (32 : Int)).length : Nat) : Int) ≤ 9223372036854775807) (.ok ((impl_padded_v ((((([65, 82, 82, 83] ++ (impl_putBytes_v (1 : Int) (1 : Int))) ++ (impl_putBytes_v bl (2 : Int))) ++ (impl_putBytes_v lg (2 : Int))) ++ (impl_putBytes_v sq (8 : Int))) ++ (impl_putBytes_v tn (8 : Int))) (32 : Int)) ++ (impl_padded_v ((((([65, 82, 82, 83] ++ (impl_putBytes_v (1 : Int) (1 : Int))) ++ (impl_putBytes_v bl (2 : Int))) ++ (impl_putBytes_v lg (2 : Int))) ++ (impl_putBytes_v sq (8 : Int))) ++ (impl_putBytes_v tn (8 : Int))) (32 : Int))))
             .no)
            .no)
           .no)
          .no)
         .no)
        .no)
       .no)
      .no)
     .no)
    .no)
   .no)
  .no)
def impl_Super_encode_mk (p : List UInt8) : Res := [(false, [⟨.str, .sh, TC.s p⟩])]
noncomputable def impl_Super_encode_c (bl : Int) (lg : Int) (sq : Int) (tn : Int) : Bool := ((impl_putBytes_c (1 : Int) (1 : Int)) && (is ((([65, 82, 82, 83].length + (impl_putBytes_v (1 : Int) (1 : Int)).length : Nat) : Int) ≤ 9223372036854775807) && ((impl_putBytes_c bl (2 : Int)) && (is (((([65, 82, 82, 83] ++ (impl_putBytes_v (1 : Int) (1 : Int))).length + (impl_putBytes_v bl (2 : Int)).length : Nat) : Int) ≤ 9223372036854775807) && ((impl_putBytes_c lg (2 : Int)) && (is ((((([65, 82, 82, 83] ++ (impl_putBytes_v (1 : Int) (1 : Int))) ++ (impl_putBytes_v bl (2 : Int))).length + (impl_putBytes_v lg (2 : Int)).length : Nat) : Int) ≤ 9223372036854775807) && ((impl_putBytes_c sq (8 : Int)) && (is (((((([65, 82, 82, 83] ++ (impl_putBytes_v (1 : Int) (1 : Int))) ++ (impl_putBytes_v bl (2 : Int))) ++ (impl_putBytes_v lg (2 : Int))).length + (impl_putBytes_v sq (8 : Int)).length : Nat) : Int) ≤ 9223372036854775807) && ((impl_putBytes_c tn (8 : Int)) && (is ((((((([65, 82, 82, 83] ++ (impl_putBytes_v (1 : Int) (1 : Int))) ++ (impl_putBytes_v bl (2 : Int))) ++ (impl_putBytes_v lg (2 : Int))) ++ (impl_putBytes_v sq (8 : Int))).length + (impl_putBytes_v tn (8 : Int)).length : Nat) : Int) ≤ 9223372036854775807) && ((impl_padded_c ((((([65, 82, 82, 83] ++ (impl_putBytes_v (1 : Int) (1 : Int))) ++ (impl_putBytes_v bl (2 : Int))) ++ (impl_putBytes_v lg (2 : Int))) ++ (impl_putBytes_v sq (8 : Int))) ++ (impl_putBytes_v tn (8 : Int))) (32 : Int)) && (is ((((impl_padded_v ((((([65, 82, 82, 83] ++ (impl_putBytes_v (1 : Int) (1 : Int))) ++ (impl_putBytes_v bl (2 : Int))) ++ (impl_putBytes_v lg (2 : Int))) ++ (impl_putBytes_v sq (8 : Int))) ++ (impl_putBytes_v tn (8 : Int))) (32 : Int)).length + (impl_padded_v ((((([65, 82, 82, 83] ++ (impl_putBytes_v (1 : Int) (1 : Int))) ++ (impl_putBytes_v bl (2 : Int))) ++ (impl_putBytes_v lg (2 : Int))) ++ (impl_putBytes_v sq (8 : Int))) ++ (impl_putBytes_v tn (8 : Int))) (32 : Int)).length : Nat) : Int) ≤ 9223372036854775807) && true))))))))))))
noncomputable def impl_Super_encode_v (bl : Int) (lg : Int) (sq : Int) (tn : Int) : List UInt8 := hid (((impl_padded_v ((((([65, 82, 82, 83] ++ (impl_putBytes_v (1 : Int) (1 : Int))) ++ (impl_putBytes_v bl (2 : Int))) ++ (impl_putBytes_v lg (2 : Int))) ++ (impl_putBytes_v sq (8 : Int))) ++ (impl_putBytes_v tn (8 : Int))) (32 : Int)) ++ (impl_padded_v ((((([65, 82, 82, 83] ++ (impl_putBytes_v (1 : Int) (1 : Int))) ++ (impl_putBytes_v bl (2 : Int))) ++ (impl_putBytes_v lg (2 : Int))) ++ (impl_putBytes_v sq (8 : Int))) ++ (impl_putBytes_v tn (8 : Int))) (32 : Int))))
theorem impl_Super_encode_l (bl : Int) (lg : Int) (sq : Int) (tn : Int) : (impl_Super_encode_c bl lg sq tn) = true → (impl_Super_encode_t bl lg sq tn).val = some (impl_Super_encode_v bl lg sq tn) := by
  unfold impl_Super_encode_t impl_Super_encode_v impl_Super_encode_c
  rw [hid_eq]
  exact fun h => (Tr.gb h fun h => (Tr.gs h fun h => (Tr.gb h fun h => (Tr.gs h fun h => (Tr.gb h fun h => (Tr.gs h fun h => (Tr.gb h fun h => (Tr.gs h fun h => (Tr.gb h fun h => (Tr.gs h fun h => (Tr.gb h fun h => (Tr.gs h fun h => rfl))))))))))))
noncomputable def impl_Super_encode_S : List Arg → Option (Bool × Res) := fun xs => match xs with
  | [(true, [(.int .i64, TC.i bl), (.int .i64, TC.i lg), (.int .i64, TC.i sq), (.int .i64, TC.i tn)])] => some ((impl_Super_encode_c bl lg sq tn), impl_Super_encode_mk (impl_Super_encode_v bl lg sq tn))
  | _ => .none
theorem impl_Super_encode_e (bl : Int) (lg : Int) (sq : Int) (tn : Int) : runF tab FT D13 live 63 noLoops [(true, [(.int .i64, TC.i bl), (.int .i64, TC.i lg), (.int .i64, TC.i sq), (.int .i64, TC.i tn)])] = (impl_Super_encode_t bl lg sq tn).run fun p => some (impl_Super_encode_mk p) := by kernel_rfl
theorem impl_Super_encode_s : ∀ xs r, impl_Super_encode_S xs = some (true, r) → runF tab FT D13 live 63 noLoops xs = some r := by
  intro xs r h
  unfold impl_Super_encode_S at h
  split at h
  · simp only [Option.some.injEq, Prod.mk.injEq] at h
    obtain ⟨h1, rfl⟩ := h
    exact fun_told (impl_Super_encode_e _ _ _ _) (impl_Super_encode_l _ _ _ _) h1
  · cases h
noncomputable def D14 : Dt := also D13 63 impl_Super_encode_S
theorem d14 : DOk Go.Proofs.Try.prog tab D14 := d13.also mixed_ok tab_ok names_ok noLoops_ok impl_Super_encode_s
theorem impl_Super_encode_cc {bl : Int} {lg : Int} {sq : Int} {tn : Int}  : (impl_Super_encode_c bl lg sq tn) = true := by
  unfold impl_Super_encode_c
  refine andT (by first | exact is_true ⟨1, rfl, by omega⟩ | exact is_true ⟨2, rfl, by omega⟩ | exact is_true ⟨8, rfl, by omega⟩) ?_
  refine andT (is_true (by simp only [List.length_append, List.length_cons, List.length_nil, impl_putBytes_l1, impl_putBytes_l2, impl_putBytes_l8]; omega)) ?_
  refine andT (by first | exact is_true ⟨1, rfl, by omega⟩ | exact is_true ⟨2, rfl, by omega⟩ | exact is_true ⟨8, rfl, by omega⟩) ?_
  refine andT (is_true (by simp only [List.length_append, List.length_cons, List.length_nil, impl_putBytes_l1, impl_putBytes_l2, impl_putBytes_l8]; omega)) ?_
  refine andT (by first | exact is_true ⟨1, rfl, by omega⟩ | exact is_true ⟨2, rfl, by omega⟩ | exact is_true ⟨8, rfl, by omega⟩) ?_
  refine andT (is_true (by simp only [List.length_append, List.length_cons, List.length_nil, impl_putBytes_l1, impl_putBytes_l2, impl_putBytes_l8]; omega)) ?_
  refine andT (by first | exact is_true ⟨1, rfl, by omega⟩ | exact is_true ⟨2, rfl, by omega⟩ | exact is_true ⟨8, rfl, by omega⟩) ?_
  refine andT (is_true (by simp only [List.length_append, List.length_cons, List.length_nil, impl_putBytes_l1, impl_putBytes_l2, impl_putBytes_l8]; omega)) ?_
  refine andT (by first | exact is_true ⟨1, rfl, by omega⟩ | exact is_true ⟨2, rfl, by omega⟩ | exact is_true ⟨8, rfl, by omega⟩) ?_
  refine andT (is_true (by simp only [List.length_append, List.length_cons, List.length_nil, impl_putBytes_l1, impl_putBytes_l2, impl_putBytes_l8]; omega)) ?_
  refine andT (by exact is_true ⟨32, rfl, by simp only [List.length_append, List.length_cons, List.length_nil, impl_putBytes_l1, impl_putBytes_l2, impl_putBytes_l8]; omega, by omega⟩) ?_
  refine andT (is_true (by rw [impl_padded_h, padL_len (by simp only [List.length_append, List.length_cons, List.length_nil, impl_putBytes_l1, impl_putBytes_l2, impl_putBytes_l8]; decide)]; decide)) ?_
  rfl
theorem impl_Super_encode_h {bl lg sq tn : Int} : impl_Super_encode_v bl lg sq tn = padL ([65, 82, 82, 83] ++ bytesL 1 1 ++ bytesL bl 2 ++ bytesL lg 2 ++ bytesL sq 8 ++ bytesL tn 8) 32 ++ padL ([65, 82, 82, 83] ++ bytesL 1 1 ++ bytesL bl 2 ++ bytesL lg 2 ++ bytesL sq 8 ++ bytesL tn 8) 32 := by
  unfold impl_Super_encode_v
  rw [hid_eq, impl_padded_h]
  simp only [impl_putBytes_h]
  rfl
/-! impl_EncodeSuper -/
noncomputable def impl_EncodeSuper_t (bl : Int) (lg : Int) (sq : Int) (tn : Int) : Tr (List UInt8) := (.ite ((!(impl_ValidSuper_v bl lg sq tn)) = true) (.ok ([]))
  (.ite ((impl_Super_encode_c bl lg sq tn) = true) (.ok (impl_Super_encode_v bl lg sq tn))
   .no))
def impl_EncodeSuper_mk (p : List UInt8) : Res := [(false, [⟨.str, .sh, TC.s p⟩])]
noncomputable def impl_EncodeSuper_c (bl : Int) (lg : Int) (sq : Int) (tn : Int) : Bool := (bif (!(impl_ValidSuper_v bl lg sq tn)) then true else ((impl_Super_encode_c bl lg sq tn) && true))
noncomputable def impl_EncodeSuper_v (bl : Int) (lg : Int) (sq : Int) (tn : Int) : List UInt8 := (bif (!(impl_ValidSuper_v bl lg sq tn)) then [] else (impl_Super_encode_v bl lg sq tn))
theorem impl_EncodeSuper_l (bl : Int) (lg : Int) (sq : Int) (tn : Int) : (impl_EncodeSuper_c bl lg sq tn) = true → (impl_EncodeSuper_t bl lg sq tn).val = some (impl_EncodeSuper_v bl lg sq tn) := by
  unfold impl_EncodeSuper_t impl_EncodeSuper_v impl_EncodeSuper_c
  exact fun h => (Tr.ss h (fun h => rfl) (fun h => (Tr.gb h fun h => rfl)))
noncomputable def impl_EncodeSuper_S : List Arg → Option (Bool × Res) := fun xs => match xs with
  | [(true, [(.int .i64, TC.i bl), (.int .i64, TC.i lg), (.int .i64, TC.i sq), (.int .i64, TC.i tn)])] => some ((impl_EncodeSuper_c bl lg sq tn), impl_EncodeSuper_mk (impl_EncodeSuper_v bl lg sq tn))
  | _ => .none
theorem impl_EncodeSuper_e (bl : Int) (lg : Int) (sq : Int) (tn : Int) : runF tab FT D14 live 23 noLoops [(true, [(.int .i64, TC.i bl), (.int .i64, TC.i lg), (.int .i64, TC.i sq), (.int .i64, TC.i tn)])] = (impl_EncodeSuper_t bl lg sq tn).run fun p => some (impl_EncodeSuper_mk p) := by kernel_rfl
theorem impl_EncodeSuper_s : ∀ xs r, impl_EncodeSuper_S xs = some (true, r) → runF tab FT D14 live 23 noLoops xs = some r := by
  intro xs r h
  unfold impl_EncodeSuper_S at h
  split at h
  · simp only [Option.some.injEq, Prod.mk.injEq] at h
    obtain ⟨h1, rfl⟩ := h
    exact fun_told (impl_EncodeSuper_e _ _ _ _) (impl_EncodeSuper_l _ _ _ _) h1
  · cases h
noncomputable def D15 : Dt := also D14 23 impl_EncodeSuper_S
theorem d15 : DOk Go.Proofs.Try.prog tab D15 := d14.also mixed_ok tab_ok names_ok noLoops_ok impl_EncodeSuper_s
theorem impl_EncodeSuper_cc {bl : Int} {lg : Int} {sq : Int} {tn : Int}  : (impl_EncodeSuper_c bl lg sq tn) = true := by
  unfold impl_EncodeSuper_c
  refine bifT (fun b1 => ?_) (fun b1 => ?_)
  · skip
    rfl
  · skip
    refine andT (by exact impl_Super_encode_cc) ?_
    rfl
/-! the law -/
noncomputable def laws_FnExactEncodeSuper_t (x0 : Int) (x1 : Int) (x2 : Int) (x3 : Int) : Tr Bool := (.ite ((spec_EncodeSuper_c x0 x1 x2 x3) = true) (.ite ((impl_EncodeSuper_c x0 x1 x2 x3) = true) (.ite ((!((impl_EncodeSuper_v x0 x1 x2 x3) == (spec_EncodeSuper_v x0 x1 x2 x3))) = true) (.ok false)
    (.ok true))
   .no)
  .no)
theorem laws_FnExactEncodeSuper_e (x0 : Int) (x1 : Int) (x2 : Int) (x3 : Int) : runF tab FT D15 live 5 noLoops [(true, [(.int .i64, TC.i x0), (.int .i64, TC.i x1), (.int .i64, TC.i x2), (.int .i64, TC.i x3)])] = (laws_FnExactEncodeSuper_t x0 x1 x2 x3).run fun p => some [(false, [⟨.bool, .sh, .b p⟩])] := by kernel_rfl
theorem ValidSuper_eq (bl lg sq tn : Int) : spec_ValidSuper_v bl lg sq tn = impl_ValidSuper_v bl lg sq tn := by
  have hw : ∀ a b c, impl_within_v a b c = spec_l00In_v a b c := fun _ _ _ => rfl
  unfold spec_ValidSuper_v impl_ValidSuper_v
  simp only [hw]
  generalize IntKind.wrap .i64 (bl - (4 : Int)) = x
  have e : spec_l00In_v lg (8 : Int) (if x < (64 : Int) then x else (64 : Int)) = (spec_l00In_v lg (8 : Int) (64 : Int) && decide (lg ≤ x)) := by
    have hi : ∀ a b c : Int, spec_l00In_v a b c = (decide (a ≥ b) && decide (a ≤ c)) := fun a b c => by
      unfold spec_l00In_v
      cases decide (a ≥ b) <;> rfl
    rw [hi, hi, Bool.eq_iff_iff]
    simp only [Bool.and_eq_true, decide_eq_true_eq]
    split <;> omega
  rw [e]
  cases spec_l00In_v bl 16 256 <;> cases spec_l00In_v lg 8 64 <;> cases decide (lg ≤ x) <;> rfl
theorem EncodeSuper_eq (bl lg sq tn : Int) : spec_EncodeSuper_v bl lg sq tn = impl_EncodeSuper_v bl lg sq tn := by
  unfold spec_EncodeSuper_v impl_EncodeSuper_v
  rw [ValidSuper_eq, spec_l10Encode_h, impl_Super_encode_h]
theorem laws_FnExactEncodeSuper_p (x0 : Int) (x1 : Int) (x2 : Int) (x3 : Int) (h0 : Typed tab (.int .i64) (.i x0)) (h1 : Typed tab (.int .i64) (.i x1)) (h2 : Typed tab (.int .i64) (.i x2)) (h3 : Typed tab (.int .i64) (.i x3)) : (laws_FnExactEncodeSuper_t x0 x1 x2 x3).val = some true := by
  unfold laws_FnExactEncodeSuper_t
  rw [EncodeSuper_eq]
  refine Tr.t (by first | exact (by first | (apply spec_EncodeSuper_cc <;> assumption) | (first | (apply is_true; and_intros <;> (first | rfl | assumption | (apply spec_l10Encode_cc <;> assumption) | (apply spec_EncodeSuper_cc <;> assumption) | (apply impl_Super_encode_cc <;> assumption) | (apply impl_EncodeSuper_cc <;> assumption) | (first | (apply is_true; and_intros <;> (first | rfl | assumption | (apply spec_l10Encode_cc <;> assumption) | (apply spec_EncodeSuper_cc <;> assumption) | (apply impl_Super_encode_cc <;> assumption) | (apply impl_EncodeSuper_cc <;> assumption))) | (apply spec_l10Encode_cc <;> assumption) | (apply spec_EncodeSuper_cc <;> assumption) | (apply impl_Super_encode_cc <;> assumption) | (apply impl_EncodeSuper_cc <;> assumption)))) | (apply spec_l10Encode_cc <;> assumption) | (apply spec_EncodeSuper_cc <;> assumption) | (apply impl_Super_encode_cc <;> assumption) | (apply impl_EncodeSuper_cc <;> assumption))) | simp [*]) ?_
  refine Tr.t (by first | exact (by first | (apply impl_EncodeSuper_cc <;> assumption) | (first | (apply is_true; and_intros <;> (first | rfl | assumption | (apply spec_l10Encode_cc <;> assumption) | (apply spec_EncodeSuper_cc <;> assumption) | (apply impl_Super_encode_cc <;> assumption) | (apply impl_EncodeSuper_cc <;> assumption) | (first | (apply is_true; and_intros <;> (first | rfl | assumption | (apply spec_l10Encode_cc <;> assumption) | (apply spec_EncodeSuper_cc <;> assumption) | (apply impl_Super_encode_cc <;> assumption) | (apply impl_EncodeSuper_cc <;> assumption))) | (apply spec_l10Encode_cc <;> assumption) | (apply spec_EncodeSuper_cc <;> assumption) | (apply impl_Super_encode_cc <;> assumption) | (apply impl_EncodeSuper_cc <;> assumption)))) | (apply spec_l10Encode_cc <;> assumption) | (apply spec_EncodeSuper_cc <;> assumption) | (apply impl_Super_encode_cc <;> assumption) | (apply impl_EncodeSuper_cc <;> assumption))) | simp [*]) ?_
  refine Tr.n (by first | (simp [laws_toSuper_v, spec_l00In_v, spec_ValidSuper_v, spec_l01Bytes_u3_1, spec_l01Bytes_v, spec_l01Pad_v, spec_l10Encode_v, spec_EncodeSuper_v, impl_within_v, impl_ValidSuper_v, impl_putBytes_u3_1, impl_putBytes_v, strings_Repeat_v, impl_zeros_v, impl_padded_v, impl_Super_encode_v, impl_EncodeSuper_v]; done) | (simp only [laws_toSuper_v, spec_l00In_v, spec_ValidSuper_v, spec_l01Bytes_u3_1, spec_l01Bytes_v, spec_l01Pad_v, spec_l10Encode_v, spec_EncodeSuper_v, impl_within_v, impl_ValidSuper_v, impl_putBytes_u3_1, impl_putBytes_v, strings_Repeat_v, impl_zeros_v, impl_padded_v, impl_Super_encode_v, impl_EncodeSuper_v, nth0, nth1, nth2, nth3, nth4, nth5, int_i, bool_b, str_s, list_l, cells_p, Bool.not_eq_true, bne_self_eq_false, beq_self_eq_true, Bool.not_true]; done) | (simp [laws_toSuper_v, spec_l00In_v, spec_ValidSuper_v, spec_l01Bytes_u3_1, spec_l01Bytes_v, spec_l01Pad_v, spec_l10Encode_v, spec_EncodeSuper_v, impl_within_v, impl_ValidSuper_v, impl_putBytes_u3_1, impl_putBytes_v, strings_Repeat_v, impl_zeros_v, impl_padded_v, impl_Super_encode_v, impl_EncodeSuper_v, nth0, nth1, nth2, nth3, nth4, nth5, int_i, bool_b, str_s, list_l, cells_p]; done) | (simp [laws_toSuper_v, spec_l00In_v, spec_ValidSuper_v, spec_l01Bytes_u3_1, spec_l01Bytes_v, spec_l01Pad_v, spec_l10Encode_v, spec_EncodeSuper_v, impl_within_v, impl_ValidSuper_v, impl_putBytes_u3_1, impl_putBytes_v, strings_Repeat_v, impl_zeros_v, impl_padded_v, impl_Super_encode_v, impl_EncodeSuper_v, nth0, nth1, nth2, nth3, nth4, nth5, int_i, bool_b, str_s, list_l, cells_p] <;> rfl)) ?_
  rfl
theorem laws_FnExactEncodeSuper_pure : ∀ xs, ArgsTyped tab [45] xs → runF tab FT D15 live 5 noLoops xs = yes := by
  intro xs h
  cases h with | cons l0 g0 h =>
  obtain ⟨z0_0, z0_1, z0_2, z0_3, rfl⟩ := len_4 l0
  have q0 := g0 0 (by decide)
  have q0 : Typed tab (.int .i64) z0_0 := q0
  obtain ⟨y0, rfl⟩ := typed_int q0
  have q1 := g0 1 (by decide)
  have q1 : Typed tab (.int .i64) z0_1 := q1
  obtain ⟨y1, rfl⟩ := typed_int q1
  have q2 := g0 2 (by decide)
  have q2 : Typed tab (.int .i64) z0_2 := q2
  obtain ⟨y2, rfl⟩ := typed_int q2
  have q3 := g0 3 (by decide)
  have q3 : Typed tab (.int .i64) z0_3 := q3
  obtain ⟨y3, rfl⟩ := typed_int q3
  cases h
  refine (laws_FnExactEncodeSuper_e y0 y1 y2 y3).trans ?_
  rw [Tr.run_eq, laws_FnExactEncodeSuper_p y0 y1 y2 y3 q0 q1 q2 q3]
  rfl
end Go.Proofs.Ythhdkojpkjkanaa.V
