/- What the functions of FnExactBytesOf answer. No condition. -/
import Derived.Test.YtlggbfmpfhohjaaVFnExactBytesOfP1
namespace Go.Proofs.Ytlggbfmpfhohjaa.V
open Go
set_option maxRecDepth 100000
set_option linter.unusedVariables false
set_option linter.unusedSectionVars false
set_option linter.unusedSimpArgs false
set_option maxHeartbeats 2000000
section
variable [i_laws_szType : laws_szType_O]
variable [g_laws_szType : laws_szType_G]
section
variable [i_laws_toType : laws_toType_O]
variable [g_laws_toType : laws_toType_G]
section
variable [i_spec_l02Size : spec_l02Size_O]
variable [g_spec_l02Size : spec_l02Size_G]
section
variable [i_spec_l02Depth : spec_l02Depth_O]
variable [g_spec_l02Depth : spec_l02Depth_G]
noncomputable def spec_l02Range_v (k s : Int) (sg bg : Bool) (NA NU ME BA : List (List TC)) (ct : Int) : Int × Int := (bif (!sg) then ((0 : Int), (IntKind.wrap .i64 ((IntKind.wrap .i64 ((1 : Int) * (2 ^ (min ((IntKind.wrap .u64 (IntKind.wrap .i64 ((8 : Int) * s)))).toNat 64)))) - (1 : Int)))) else ((IntKind.wrap .i64 ((IntKind.wrap .i64 ((0 : Int) - (IntKind.wrap .i64 ((IntKind.wrap .i64 ((1 : Int) * (2 ^ (min ((IntKind.wrap .u64 ((IntKind.wrap .u64 (IntKind.wrap .i64 ((8 : Int) * s))) - (1 : Int)))).toNat 64)))) - (1 : Int))))) - (1 : Int))), (IntKind.wrap .i64 ((IntKind.wrap .i64 ((1 : Int) * (2 ^ (min ((IntKind.wrap .u64 ((IntKind.wrap .u64 (IntKind.wrap .i64 ((8 : Int) * s))) - (1 : Int)))).toNat 64)))) - (1 : Int)))))
theorem spec_l02Range_l (k s : Int) (sg bg : Bool) (NA NU ME BA : List (List TC)) (ct : Int) : (spec_l02Range_c k s sg bg NA NU ME BA ct) = true → (spec_l02Range_t k s sg bg NA NU ME BA ct).val = some (spec_l02Range_v k s sg bg NA NU ME BA ct) := by
  unfold spec_l02Range_t spec_l02Range_v spec_l02Range_c
  exact fun h => (Tr.ss h (fun h => (Tr.gs h fun h => rfl)) (fun h => (Tr.gs h fun h => rfl)))
noncomputable def spec_l02Range_S : List Arg → Option (Bool × Res) := fun xs => match xs with
  | [(true, [(.int .i64, TC.i k), (.int .i64, TC.i s), (.bool, TC.b sg), (.bool, TC.b bg), (.slice 9, TC.l NA), (.slice 2, TC.l NU), (.slice 77, TC.l ME), (.slice 32, TC.l BA), (.int .i64, TC.i ct)])] => some ((spec_l02Range_c k s sg bg NA NU ME BA ct), spec_l02Range_mk (spec_l02Range_v k s sg bg NA NU ME BA ct))
  | _ => .none
theorem spec_l02Range_e (k s : Int) (sg bg : Bool) (NA NU ME BA : List (List TC)) (ct : Int) : runF tab FT D19 live 89 noLoops [(true, [(.int .i64, TC.i k), (.int .i64, TC.i s), (.bool, TC.b sg), (.bool, TC.b bg), (.slice 9, TC.l NA), (.slice 2, TC.l NU), (.slice 77, TC.l ME), (.slice 32, TC.l BA), (.int .i64, TC.i ct)])] = (spec_l02Range_t k s sg bg NA NU ME BA ct).run fun p => some (spec_l02Range_mk p) := by kernel_rfl
theorem spec_l02Range_s : ∀ xs r, spec_l02Range_S xs = some (true, r) → runF tab FT D19 live 89 noLoops xs = some r := by
  intro xs r h
  unfold spec_l02Range_S at h
  split at h
  · simp only [Option.some.injEq, Prod.mk.injEq] at h
    obtain ⟨h1, rfl⟩ := h
    exact fun_told (spec_l02Range_e _ _ _ _ _ _ _ _ _) (spec_l02Range_l _ _ _ _ _ _ _ _ _) h1
  · cases h
noncomputable def D20 : Dt := also D19 89 spec_l02Range_S
theorem d20 : DOk Go.Proofs.Try.prog tab D20 := d19.also mixed_ok tab_ok names_ok noLoops_ok spec_l02Range_s
theorem spec_l02Range_cc {k : Int} {s : Int} {sg : Bool} {bg : Bool} {NA : List (List TC)} {NU : List (List TC)} {ME : List (List TC)} {BA : List (List TC)} {ct : Int}  : (spec_l02Range_c k s sg bg NA NU ME BA ct) = true := by
  unfold spec_l02Range_c
  refine bifT (fun b1 => ?_) (fun b1 => ?_)
  · skip
    refine andT (is_true (by rw [IntKind.wrap_u64]; omega)) ?_
    rfl
  · skip
    refine andT (is_true (by rw [IntKind.wrap_u64]; omega)) ?_
    rfl
/-! spec_l01Letter -/
noncomputable def spec_l01Letter_t (a0 : Int) : Tr (Bool) := (.ite ((decide (a0 ≥ (65 : Int))) = true) (.ite ((decide (a0 ≤ (90 : Int))) = true) (.ok true)
   (.ite ((decide (a0 ≥ (97 : Int))) = true) (.ok (decide (a0 ≤ (122 : Int))))
    (.ok false)))
  (.ite ((decide (a0 ≥ (97 : Int))) = true) (.ok (decide (a0 ≤ (122 : Int))))
   (.ok false)))
def spec_l01Letter_mk (p : Bool) : Res := [(false, [⟨.bool, .sh, TC.b p⟩])]
noncomputable def spec_l01Letter_c (a0 : Int) : Bool := true
noncomputable def spec_l01Letter_v (a0 : Int) : Bool := (bif (decide (a0 ≥ (65 : Int))) then (bif (decide (a0 ≤ (90 : Int))) then true else (bif (decide (a0 ≥ (97 : Int))) then (decide (a0 ≤ (122 : Int))) else false)) else (bif (decide (a0 ≥ (97 : Int))) then (decide (a0 ≤ (122 : Int))) else false))
theorem spec_l01Letter_l (a0 : Int) : (spec_l01Letter_c a0) = true → (spec_l01Letter_t a0).val = some (spec_l01Letter_v a0) := by
  intro h
  skip
  unfold spec_l01Letter_t spec_l01Letter_v
  exact (Tr.s (Tr.s rfl (Tr.s rfl rfl)) (Tr.s rfl rfl))
noncomputable def spec_l01Letter_S : List Arg → Option (Bool × Res) := fun xs => match xs with
  | [(false, [(.int .u8, TC.i a0)])] => some (true, spec_l01Letter_mk (spec_l01Letter_v a0))
  | _ => .none
theorem spec_l01Letter_e (a0 : Int) : runF tab FT D20 live 138 noLoops [(false, [(.int .u8, TC.i a0)])] = (spec_l01Letter_t a0).run fun p => some (spec_l01Letter_mk p) := by kernel_rfl
theorem spec_l01Letter_s : ∀ xs r, spec_l01Letter_S xs = some (true, r) → runF tab FT D20 live 138 noLoops xs = some r := by
  intro xs r h
  unfold spec_l01Letter_S at h
  split at h
  · simp only [Option.some.injEq, Prod.mk.injEq] at h
    obtain ⟨h1, rfl⟩ := h
    exact fun_told (spec_l01Letter_e _) (spec_l01Letter_l _) rfl
  · cases h
noncomputable def D21 : Dt := also D20 138 spec_l01Letter_S
theorem d21 : DOk Go.Proofs.Try.prog tab D21 := d20.also mixed_ok tab_ok names_ok noLoops_ok spec_l01Letter_s
/-! spec_IsName -/
noncomputable def spec_IsName_f4 (s : List UInt8) (i : Int) : (Unit) ⊕ ((Unit) ⊕ (Unit)) := (bif (!(spec_l01Letter_v ((s.getD (i).toNat 0).toNat : Int))) then (bif (decide (((s.getD (i).toNat 0).toNat : Int) ≥ (48 : Int))) then (bif (!(decide (((s.getD (i).toNat 0).toNat : Int) ≤ (57 : Int)))) then (bif (!(((s.getD (i).toNat 0).toNat : Int) == (95 : Int))) then (.inr (.inl ())) else (.inl ())) else (.inl ())) else (bif (!(((s.getD (i).toNat 0).toNat : Int) == (95 : Int))) then (.inr (.inl ())) else (.inl ()))) else (.inl ()))
noncomputable def spec_IsName_e4 (s : List UInt8) : (Unit) ⊕ (Unit) := .inr ()
noncomputable def spec_IsName_R4 (s : List UInt8) (i : Int) : (Unit) ⊕ (Unit) := iter (fun i a => (spec_IsName_f4 s ((i + 1 : Nat) : Int))) (fun a => (spec_IsName_e4 s)) (s.length - 1) 0 ()
abbrev spec_IsName_4_σ := List UInt8 × Int
abbrev spec_IsName_4_ω := (Unit) ⊕ (Unit)
noncomputable def spec_IsName_4_step (s : List UInt8) (i : Int) : Tr (spec_IsName_4_σ ⊕ spec_IsName_4_ω) := (.ite ((decide (i < (s.length : Int))) = true) (.ite ((0 : Int) ≤ i ∧ i < (s.length : Int)) (.ite ((!(spec_l01Letter_v ((s.getD (i).toNat 0).toNat : Int))) = true) (.ite ((0 : Int) ≤ i ∧ i < (s.length : Int)) (.ite ((decide (((s.getD (i).toNat 0).toNat : Int) ≥ (48 : Int))) = true) (.ite ((0 : Int) ≤ i ∧ i < (s.length : Int)) (.ite ((!(decide (((s.getD (i).toNat 0).toNat : Int) ≤ (57 : Int)))) = true) (.ite ((0 : Int) ≤ i ∧ i < (s.length : Int)) (.ite ((!(((s.getD (i).toNat 0).toNat : Int) == (95 : Int))) = true) (.ok (.inr (.inl ())))
          (.ok (.inl (s, (IntKind.wrap .i64 (i + (1 : Int)))))))
         .no)
        (.ok (.inl (s, (IntKind.wrap .i64 (i + (1 : Int)))))))
       .no)
      (.ite ((0 : Int) ≤ i ∧ i < (s.length : Int)) (.ite ((!(((s.getD (i).toNat 0).toNat : Int) == (95 : Int))) = true) (.ok (.inr (.inl ())))
        (.ok (.inl (s, (IntKind.wrap .i64 (i + (1 : Int)))))))
       .no))
     .no)
    (.ok (.inl (s, (IntKind.wrap .i64 (i + (1 : Int)))))))
   .no)
  (.ok (.inr (.inr ()))))
noncomputable def spec_IsName_4_st : spec_IsName_4_σ → Tr (spec_IsName_4_σ ⊕ spec_IsName_4_ω) := fun x => (spec_IsName_4_step (x.1) (x.2))
noncomputable def spec_IsName_k4_1 (s : List UInt8) (i : Int) : Bool := sumIs (spec_IsName_R4 s i)
noncomputable def spec_IsName_o4_2 (s : List UInt8) (i : Int) : Bool := is (i = 1 ∧ s.length ≤ 140737488355328)
noncomputable def spec_IsName_o4_3 (s : List UInt8) (i : Int) : Bool := is (i = 1 ∧ s.length ≤ 140737488355328)
noncomputable def spec_IsName_4_fin (s : List UInt8) (i : Int) : Told spec_IsName_4_ω := (.br (spec_IsName_k4_1 s i) (.leaf (spec_IsName_o4_2 s i) (.inl ())) (.leaf (spec_IsName_o4_3 s i) (.inr ())))
def spec_IsName_4_sl (x : spec_IsName_4_σ) : List Slot := [⟨.val false [⟨.str, .sh, TC.s (x.1)⟩], ⟨0, 0⟩⟩, ⟨.val false [⟨.int .i64, .sh, TC.i (x.2)⟩], ⟨0, 0⟩⟩]
def spec_IsName_4_out : spec_IsName_4_ω → Ex × List Slot := (Sum.elim (fun x => (.ret, [⟨.val false [⟨.bool, .sh, TC.b false⟩], ⟨0, 0⟩⟩])) (fun x => (.exit 0, [Slot.none])))
noncomputable def spec_IsName_lo4 : List Slot → Option (Told (Ex × List Slot)) := fun s => match s with
  | [⟨.val false [⟨.str, .sh, TC.s s⟩], ⟨0, 0⟩⟩, ⟨.val false [⟨.int .i64, .sh, TC.i i⟩], ⟨0, 0⟩⟩] => some (((spec_IsName_4_fin s i)).map spec_IsName_4_out)
  | _ => .none
noncomputable def spec_IsName_lo : LoopTeller := fun r s => bif Nat.beq r 4 then spec_IsName_lo4 s else .none
theorem spec_IsName_4_r (s : List UInt8) (i : Int) (fuel : Nat) : rounds (rnd tab FT D21 live 110 spec_IsName_lo 0 4) leave (fuel + 1) (spec_IsName_4_sl (s, i)) = ((spec_IsName_4_step s i)).run (goOn (fun s => rounds (rnd tab FT D21 live 110 spec_IsName_lo 0 4) leave fuel (spec_IsName_4_sl s)) fun w => some (spec_IsName_4_out w)) := by kernel_rfl
theorem spec_IsName_f4_eq (s : List UInt8) (i : Int) : spec_IsName_f4 s i = bif (letterB ((s.getD (i).toNat 0).toNat : Int) || ((decide (((s.getD (i).toNat 0).toNat : Int) ≥ 48) && decide (((s.getD (i).toNat 0).toNat : Int) ≤ 57)) || ((s.getD (i).toNat 0).toNat : Int) == 95)) then Sum.inl () else Sum.inr (Sum.inl ()) := by
  unfold spec_IsName_f4 letterB
  simp only [spec_l01Letter_v, dlt, dgt]
  generalize ((s.getD i.toNat 0).toNat : Int) = c
  generalize decide (c ≥ 65) = p0, decide (c ≤ 90) = p1, decide (c ≥ 97) = p2, decide (c ≤ 122) = p3, decide (c ≥ 48) = p4, decide (c ≤ 57) = p5, (c == 95) = p6
  cases p0 <;> cases p1 <;> cases p2 <;> cases p3 <;> cases p4 <;> cases p5 <;> cases p6 <;> rfl
theorem spec_IsName_R4_eq (s : List UInt8)  : spec_IsName_R4 s 1 = bif allI (fun i : Nat => (letterB ((s.getD (((i + 1 : Nat) : Int)).toNat 0).toNat : Int) || ((decide (((s.getD (((i + 1 : Nat) : Int)).toNat 0).toNat : Int) ≥ 48) && decide (((s.getD (((i + 1 : Nat) : Int)).toNat 0).toNat : Int) ≤ 57)) || ((s.getD (((i + 1 : Nat) : Int)).toNat 0).toNat : Int) == 95))) (s.length - 1) then Sum.inr () else (Sum.inl ()) := by
  unfold spec_IsName_R4
  exact (iter_all (P := (fun i : Nat => (letterB ((s.getD (((i + 1 : Nat) : Int)).toNat 0).toNat : Int) || ((decide (((s.getD (((i + 1 : Nat) : Int)).toNat 0).toNat : Int) ≥ 48) && decide (((s.getD (((i + 1 : Nat) : Int)).toNat 0).toNat : Int) ≤ 57)) || ((s.getD (((i + 1 : Nat) : Int)).toNat 0).toNat : Int) == 95)))) (g := fun _ a => a) (w := Sum.inl ()) fun j a _ => spec_IsName_f4_eq s _)
theorem spec_IsName_4_h (s : List UInt8) (i : Int) (ow : spec_IsName_4_ω) : ((spec_IsName_4_fin s i)).val = some ow → ∃ fuel, loopN spec_IsName_4_st fuel (s, i) = some ow := by
  refine auto_const (R := (spec_IsName_R4 s i)) rfl (iter_onR (f := (fun i a => (spec_IsName_f4 s ((i + 1 : Nat) : Int)))) (fin := (fun a => (spec_IsName_e4 s))) (Q := endsAs () ()) (fun i a => by unfold spec_IsName_f4; exact (onR_bif (onR_bif (onR_bif (onR_bif rfl trivial) trivial) (onR_bif rfl trivial)) trivial)) (fun _ => rfl) _ _ _) ?_
  intro ho
  have ho : is (i = 1 ∧ s.length ≤ 140737488355328) = true := ho.elim id id
  obtain ⟨rfl, hs⟩ := is_iff.1 ho
  skip
  refine ⟨(s.length - 1) + 1, ?_⟩
  refine iter_loop (step := spec_IsName_4_st) (s.length - 1) (fun i a => (spec_IsName_f4 s ((i + 1 : Nat) : Int))) (fun a => (spec_IsName_e4 s)) (fun i a => (s, ((i + 1 : Nat) : Int))) (fun _ _ => True) trivial (fun i a hi hI => ⟨?_, fun _ _ => trivial⟩) (fun a hI => ?_)
  · show (spec_IsName_4_step s ((i + 1 : Nat) : Int)).val = _
    unfold spec_IsName_4_step spec_IsName_f4
    skip
    refine Tr.t (by simp; omega) ?_
    exact (Tr.t (by first | omega | (constructor <;> omega)) (Tr.bf (Tr.t (by first | omega | (constructor <;> omega)) (Tr.bf (Tr.t (by first | omega | (constructor <;> omega)) (Tr.bf (Tr.t (by first | omega | (constructor <;> omega)) (Tr.bf rfl (by rw [Tr.val_ok, wrap64 (i := ((i + 1 : Nat) : Int) + 1) (by omega) (by omega)]; rfl))) (by rw [Tr.val_ok, wrap64 (i := ((i + 1 : Nat) : Int) + 1) (by omega) (by omega)]; rfl))) (Tr.t (by first | omega | (constructor <;> omega)) (Tr.bf rfl (by rw [Tr.val_ok, wrap64 (i := ((i + 1 : Nat) : Int) + 1) (by omega) (by omega)]; rfl))))) (by rw [Tr.val_ok, wrap64 (i := ((i + 1 : Nat) : Int) + 1) (by omega) (by omega)]; rfl)))
  · show (spec_IsName_4_step s ((s.length - 1 + 1 : Nat) : Int)).val = _
    refine Tr.n (by first | (simp; done) | (simp; omega) | omega) ?_
    rfl
theorem spec_IsName_is4 : LoopIs tab FT D21 live 110 spec_IsName_lo 0 4 := by
  refine loop_told (sl := spec_IsName_4_sl) (step := spec_IsName_4_st) (out := spec_IsName_4_out) (lor := spec_IsName_lo4) (fin := fun x => (spec_IsName_4_fin (x.1) (x.2))) (fun _ => rfl) ?_ (fun x n => spec_IsName_4_r x.1 x.2 n) (fun x ow => spec_IsName_4_h x.1 x.2 ow)
  intro s t h
  unfold spec_IsName_lo4 at h
  split at h
  · cases h; exact ⟨(_, _), rfl, rfl⟩
  · cases h
noncomputable def spec_IsName_t (s : List UInt8) : Tr (Bool) := (.ite (((s.length : Int) == (0 : Int)) = true) (.ok false)
  (.ite ((decide ((s.length : Int) > (12 : Int))) = true) (.ok false)
   (.ite ((0 : Int) ≤ (0 : Int) ∧ (0 : Int) < (s.length : Int)) (.ite ((!(spec_l01Letter_v ((s.getD ((0 : Int)).toNat 0).toNat : Int))) = true) (.ok false)
     (.ite ((spec_IsName_k4_1 s (1 : Int)) = true) (.ite ((spec_IsName_o4_2 s (1 : Int)) = true) (.ok false)
       .no)
      (.ite ((spec_IsName_o4_3 s (1 : Int)) = true) (.ok true)
       .no)))
    .no)))
def spec_IsName_mk (p : Bool) : Res := [(false, [⟨.bool, .sh, TC.b p⟩])]
noncomputable def spec_IsName_c (s : List UInt8) : Bool := (bif ((s.length : Int) == (0 : Int)) then true else (bif (decide ((s.length : Int) > (12 : Int))) then true else (is ((0 : Int) ≤ (0 : Int) ∧ (0 : Int) < (s.length : Int)) && (bif (!(spec_l01Letter_v ((s.getD ((0 : Int)).toNat 0).toNat : Int))) then true else (bif (spec_IsName_k4_1 s (1 : Int)) then ((spec_IsName_o4_2 s (1 : Int)) && true) else ((spec_IsName_o4_3 s (1 : Int)) && true))))))
noncomputable def spec_IsName_v (s : List UInt8) : Bool := (bif ((s.length : Int) == (0 : Int)) then false else (bif (decide ((s.length : Int) > (12 : Int))) then false else (bif (!(spec_l01Letter_v ((s.getD ((0 : Int)).toNat 0).toNat : Int))) then false else (bif (spec_IsName_k4_1 s (1 : Int)) then false else true))))
theorem spec_IsName_l (s : List UInt8) : (spec_IsName_c s) = true → (spec_IsName_t s).val = some (spec_IsName_v s) := by
  unfold spec_IsName_t spec_IsName_v spec_IsName_c
  exact fun h => (Tr.ss h (fun h => rfl) (fun h => (Tr.ss h (fun h => rfl) (fun h => (Tr.gs h fun h => (Tr.ss h (fun h => rfl) (fun h => (Tr.ss h (fun h => (Tr.gb h fun h => rfl)) (fun h => (Tr.gb h fun h => rfl))))))))))
noncomputable def spec_IsName_S : List Arg → Option (Bool × Res) := fun xs => match xs with
  | [(false, [(.str, TC.s s)])] => some ((spec_IsName_c s), spec_IsName_mk (spec_IsName_v s))
  | _ => .none
theorem spec_IsName_e (s : List UInt8) : runF tab FT D21 live 110 spec_IsName_lo [(false, [(.str, TC.s s)])] = (spec_IsName_t s).run fun p => some (spec_IsName_mk p) := by kernel_rfl
theorem spec_IsName_s : ∀ xs r, spec_IsName_S xs = some (true, r) → runF tab FT D21 live 110 spec_IsName_lo xs = some r := by
  intro xs r h
  unfold spec_IsName_S at h
  split at h
  · simp only [Option.some.injEq, Prod.mk.injEq] at h
    obtain ⟨h1, rfl⟩ := h
    exact fun_told (spec_IsName_e _) (spec_IsName_l _) h1
  · cases h
noncomputable def D22 : Dt := also D21 110 spec_IsName_S
theorem d22 : DOk Go.Proofs.Try.prog tab D22 := d21.also mixed_ok tab_ok names_ok (fnLoops_one (by kernel_rfl) spec_IsName_is4) spec_IsName_s
theorem spec_IsName_cc {s : List UInt8} (hs : Typed tab (.str) (.s s)) : (spec_IsName_c s) = true := by
  unfold spec_IsName_c
  refine bifT (fun b1 => ?_) (fun b1 => ?_)
  · skip
    rfl
  · skip
    refine bifT (fun b2 => ?_) (fun b2 => ?_)
    · skip
      rfl
    · skip
      refine andT (is_true (by exact ⟨by omega, by have h2 := ne_of_beq_false b1; omega⟩)) ?_
      refine bifT (fun b3 => ?_) (fun b3 => ?_)
      · skip
        rfl
      · skip
        refine bifT (fun b4 => ?_) (fun b4 => ?_)
        · skip
          refine andT (by exact is_true ⟨rfl, by have := typed_str_len hs; omega⟩) ?_
          rfl
        · skip
          refine andT (by exact is_true ⟨rfl, by have := typed_str_len hs; omega⟩) ?_
          rfl
theorem spec_IsName_vv (s : List UInt8) : spec_IsName_v s = nameOk s := by
  unfold spec_IsName_v spec_IsName_k4_1
  rw [spec_IsName_R4_eq]
  have e3 : spec_l01Letter_v ((s.getD ((0 : Int)).toNat 0).toNat : Int) = nameB ((0 : Nat) : Int) ((s.getD (((0 : Nat) : Int)).toNat 0).toNat : Int) := by
    unfold spec_l01Letter_v nameB letterB
    generalize ((s.getD ((0 : Int)).toNat 0).toNat : Int) = c
    generalize decide (c ≥ 65) = p1, decide (c ≤ 90) = p2, decide (c ≥ 97) = p3, decide (c ≤ 122) = p4
    cases p1 <;> cases p2 <;> cases p3 <;> cases p4 <;> rfl
  rw [e3]
  cases h0 : s.length with
  | zero =>
    have : s = [] := List.eq_nil_of_length_eq_zero h0
    subst this
    rfl
  | succ n =>
    have e2 : allI (fun i : Nat => nameB ((i + 1 : Nat) : Int) ((s.getD (((i + 1 : Nat) : Int)).toNat 0).toNat : Int)) n = allI (fun i : Nat => (letterB ((s.getD (((i + 1 : Nat) : Int)).toNat 0).toNat : Int) || ((decide (((s.getD (((i + 1 : Nat) : Int)).toNat 0).toNat : Int) ≥ 48) && decide (((s.getD (((i + 1 : Nat) : Int)).toNat 0).toNat : Int) ≤ 57)) || ((s.getD (((i + 1 : Nat) : Int)).toNat 0).toNat : Int) == 95))) n := allI_congr fun i _ => by
      unfold nameB
      rw [show (((i + 1 : Nat) : Int) == 0) = false from by simp; omega]
      rfl
    unfold nameOk
    rw [h0, allI_head, e2, Nat.add_sub_cancel]
    rw [show (((n + 1 : Nat) : Int) == 0) = false from by simp; omega, show decide (((n + 1 : Nat) : Int) ≥ 1) = true from by simp; omega, dgt]
    generalize nameB ((0 : Nat) : Int) ((s.getD (((0 : Nat) : Int)).toNat 0).toNat : Int) = q1
    generalize allI (fun i : Nat => (letterB ((s.getD (((i + 1 : Nat) : Int)).toNat 0).toNat : Int) || ((decide (((s.getD (((i + 1 : Nat) : Int)).toNat 0).toNat : Int) ≥ 48) && decide (((s.getD (((i + 1 : Nat) : Int)).toNat 0).toNat : Int) ≤ 57)) || ((s.getD (((i + 1 : Nat) : Int)).toNat 0).toNat : Int) == 95))) n = q2
    generalize decide (((n + 1 : Nat) : Int) ≤ 12) = q3
    cases q1 <;> cases q2 <;> cases q3 <;> rfl
/-! spec_l02Enum -/
noncomputable def spec_l02Enum_f12 (k s : Int) (sg bg : Bool) (NA NU ME BA : List (List TC)) (ct low high ix q : Int) : (Unit) ⊕ ((Int × Int × Bool × Bool × List (List TC) × List (List TC) × List (List TC) × List (List TC) × Int × Int × Int × Int) ⊕ (Int × Int × Bool × Bool × List (List TC) × List (List TC) × List (List TC) × List (List TC) × Int × Int × Int × Int)) := (bif ((nth (row NA q) 0).str == (nth (row NA ix) 0).str) then (.inr (.inl (k, s, sg, bg, NA, NU, ME, BA, ct, low, high, ix))) else (.inl ()))
noncomputable def spec_l02Enum_e12 (k s : Int) (sg bg : Bool) (NA NU ME BA : List (List TC)) (ct low high ix : Int) : (Int × Int × Bool × Bool × List (List TC) × List (List TC) × List (List TC) × List (List TC) × Int × Int × Int × Int) ⊕ (Int × Int × Bool × Bool × List (List TC) × List (List TC) × List (List TC) × List (List TC) × Int × Int × Int × Int) := .inr (k, s, sg, bg, NA, NU, ME, BA, ct, low, high, ix)
noncomputable def spec_l02Enum_R12 (k s : Int) (sg bg : Bool) (NA NU ME BA : List (List TC)) (ct low high ix q : Int) : (Int × Int × Bool × Bool × List (List TC) × List (List TC) × List (List TC) × List (List TC) × Int × Int × Int × Int) ⊕ (Int × Int × Bool × Bool × List (List TC) × List (List TC) × List (List TC) × List (List TC) × Int × Int × Int × Int) := iter (fun i a => (spec_l02Enum_f12 k s sg bg NA NU ME BA ct low high ix (i : Int))) (fun a => (spec_l02Enum_e12 k s sg bg NA NU ME BA ct low high ix)) (ix.toNat) 0 ()
abbrev spec_l02Enum_12_σ := Int × Int × Bool × Bool × List (List TC) × List (List TC) × List (List TC) × List (List TC) × Int × Int × Int × Int × Int
abbrev spec_l02Enum_12_ω := (Int × Int × Bool × Bool × List (List TC) × List (List TC) × List (List TC) × List (List TC) × Int × Int × Int × Int) ⊕ (Int × Int × Bool × Bool × List (List TC) × List (List TC) × List (List TC) × List (List TC) × Int × Int × Int × Int)
noncomputable def spec_l02Enum_12_step (k s : Int) (sg bg : Bool) (NA NU ME BA : List (List TC)) (ct low high ix q : Int) : Tr (spec_l02Enum_12_σ ⊕ spec_l02Enum_12_ω) := (.ite ((decide (q < ix)) = true) (.ite ((0 : Int) ≤ q ∧ q < (NA.length : Int)) (.ite ((0 : Int) ≤ ix ∧ ix < (NA.length : Int)) (.ite (((nth (row NA q) 0).str == (nth (row NA ix) 0).str) = true) (.ok (.inr (.inl (k, s, sg, bg, NA, NU, ME, BA, ct, low, high, ix))))
     (.ok (.inl (k, s, sg, bg, NA, NU, ME, BA, ct, low, high, ix, (IntKind.wrap .i64 (q + (1 : Int)))))))
    .no)
   .no)
  (.ok (.inr (.inr (k, s, sg, bg, NA, NU, ME, BA, ct, low, high, ix)))))
noncomputable def spec_l02Enum_12_st : spec_l02Enum_12_σ → Tr (spec_l02Enum_12_σ ⊕ spec_l02Enum_12_ω) := fun x => (spec_l02Enum_12_step (x.1) (x.2.1) (x.2.2.1) (x.2.2.2.1) (x.2.2.2.2.1) (x.2.2.2.2.2.1) (x.2.2.2.2.2.2.1) (x.2.2.2.2.2.2.2.1) (x.2.2.2.2.2.2.2.2.1) (x.2.2.2.2.2.2.2.2.2.1) (x.2.2.2.2.2.2.2.2.2.2.1) (x.2.2.2.2.2.2.2.2.2.2.2.1) (x.2.2.2.2.2.2.2.2.2.2.2.2))
noncomputable def spec_l02Enum_k12_1 (k s : Int) (sg bg : Bool) (NA NU ME BA : List (List TC)) (ct low high ix q : Int) : Bool := sumIs (spec_l02Enum_R12 k s sg bg NA NU ME BA ct low high ix q)
noncomputable def spec_l02Enum_o12_2 (k s : Int) (sg bg : Bool) (NA NU ME BA : List (List TC)) (ct low high ix q : Int) : Bool := is (q = 0 ∧ 0 ≤ ix ∧ ix < (NA.length : Int) ∧ NA.length ≤ 140737488355328)
noncomputable def spec_l02Enum_o12_3 (k s : Int) (sg bg : Bool) (NA NU ME BA : List (List TC)) (ct low high ix q : Int) : Bool := is (q = 0 ∧ 0 ≤ ix ∧ ix < (NA.length : Int) ∧ NA.length ≤ 140737488355328)
noncomputable def spec_l02Enum_12_fin (k s : Int) (sg bg : Bool) (NA NU ME BA : List (List TC)) (ct low high ix q : Int) : Told spec_l02Enum_12_ω := (.br (spec_l02Enum_k12_1 k s sg bg NA NU ME BA ct low high ix q) (.leaf (spec_l02Enum_o12_2 k s sg bg NA NU ME BA ct low high ix q) (.inl (k, s, sg, bg, NA, NU, ME, BA, ct, low, high, ix))) (.leaf (spec_l02Enum_o12_3 k s sg bg NA NU ME BA ct low high ix q) (.inr (k, s, sg, bg, NA, NU, ME, BA, ct, low, high, ix))))
def spec_l02Enum_12_sl (x : spec_l02Enum_12_σ) : List Slot := [⟨.bx 32 [⟨.int .i64, .sh, TC.i (x.1)⟩, ⟨.int .i64, .sh, TC.i (x.2.1)⟩, ⟨.bool, .sh, TC.b (x.2.2.1)⟩, ⟨.bool, .sh, TC.b (x.2.2.2.1)⟩, ⟨.slice 9, .sh, TC.l (x.2.2.2.2.1)⟩, ⟨.slice 2, .sh, TC.l (x.2.2.2.2.2.1)⟩, ⟨.slice 77, .sh, TC.l (x.2.2.2.2.2.2.1)⟩, ⟨.slice 32, .sh, TC.l (x.2.2.2.2.2.2.2.1)⟩, ⟨.int .i64, .sh, TC.i (x.2.2.2.2.2.2.2.2.1)⟩], ⟨0, 0⟩⟩, ⟨.val false [⟨.int .i64, .sh, TC.i (x.2.2.2.2.2.2.2.2.2.1)⟩], ⟨0, 0⟩⟩, ⟨.val false [⟨.int .i64, .sh, TC.i (x.2.2.2.2.2.2.2.2.2.2.1)⟩], ⟨0, 0⟩⟩, ⟨.val false [⟨.int .i64, .sh, TC.i (x.2.2.2.2.2.2.2.2.2.2.2.1)⟩], ⟨0, 0⟩⟩, ⟨.val false [⟨.int .i64, .sh, TC.i (x.2.2.2.2.2.2.2.2.2.2.2.2)⟩], ⟨0, 0⟩⟩]
def spec_l02Enum_12_out : spec_l02Enum_12_ω → Ex × List Slot := (Sum.elim (fun x => (.ret, [⟨.bx 32 [⟨.int .i64, .sh, TC.i (x.1)⟩, ⟨.int .i64, .sh, TC.i (x.2.1)⟩, ⟨.bool, .sh, TC.b (x.2.2.1)⟩, ⟨.bool, .sh, TC.b (x.2.2.2.1)⟩, ⟨.slice 9, .sh, TC.l (x.2.2.2.2.1)⟩, ⟨.slice 2, .sh, TC.l (x.2.2.2.2.2.1)⟩, ⟨.slice 77, .sh, TC.l (x.2.2.2.2.2.2.1)⟩, ⟨.slice 32, .sh, TC.l (x.2.2.2.2.2.2.2.1)⟩, ⟨.int .i64, .sh, TC.i (x.2.2.2.2.2.2.2.2.1)⟩], ⟨0, 0⟩⟩, ⟨.val false [⟨.bool, .sh, TC.b false⟩], ⟨0, 0⟩⟩, ⟨.val false [⟨.int .i64, .sh, TC.i (x.2.2.2.2.2.2.2.2.2.1)⟩], ⟨0, 0⟩⟩, ⟨.val false [⟨.int .i64, .sh, TC.i (x.2.2.2.2.2.2.2.2.2.2.1)⟩], ⟨0, 0⟩⟩, ⟨.val false [⟨.int .i64, .sh, TC.i (x.2.2.2.2.2.2.2.2.2.2.2)⟩], ⟨0, 0⟩⟩])) (fun x => (.exit 2, [⟨.bx 32 [⟨.int .i64, .sh, TC.i (x.1)⟩, ⟨.int .i64, .sh, TC.i (x.2.1)⟩, ⟨.bool, .sh, TC.b (x.2.2.1)⟩, ⟨.bool, .sh, TC.b (x.2.2.2.1)⟩, ⟨.slice 9, .sh, TC.l (x.2.2.2.2.1)⟩, ⟨.slice 2, .sh, TC.l (x.2.2.2.2.2.1)⟩, ⟨.slice 77, .sh, TC.l (x.2.2.2.2.2.2.1)⟩, ⟨.slice 32, .sh, TC.l (x.2.2.2.2.2.2.2.1)⟩, ⟨.int .i64, .sh, TC.i (x.2.2.2.2.2.2.2.2.1)⟩], ⟨0, 0⟩⟩, Slot.none, ⟨.val false [⟨.int .i64, .sh, TC.i (x.2.2.2.2.2.2.2.2.2.1)⟩], ⟨0, 0⟩⟩, ⟨.val false [⟨.int .i64, .sh, TC.i (x.2.2.2.2.2.2.2.2.2.2.1)⟩], ⟨0, 0⟩⟩, ⟨.val false [⟨.int .i64, .sh, TC.i (x.2.2.2.2.2.2.2.2.2.2.2)⟩], ⟨0, 0⟩⟩])))
noncomputable def spec_l02Enum_lo12 : List Slot → Option (Told (Ex × List Slot)) := fun s => match s with
  | [⟨.bx 32 [⟨.int .i64, .sh, TC.i k⟩, ⟨.int .i64, .sh, TC.i s⟩, ⟨.bool, .sh, TC.b sg⟩, ⟨.bool, .sh, TC.b bg⟩, ⟨.slice 9, .sh, TC.l NA⟩, ⟨.slice 2, .sh, TC.l NU⟩, ⟨.slice 77, .sh, TC.l ME⟩, ⟨.slice 32, .sh, TC.l BA⟩, ⟨.int .i64, .sh, TC.i ct⟩], ⟨0, 0⟩⟩, ⟨.val false [⟨.int .i64, .sh, TC.i low⟩], ⟨0, 0⟩⟩, ⟨.val false [⟨.int .i64, .sh, TC.i high⟩], ⟨0, 0⟩⟩, ⟨.val false [⟨.int .i64, .sh, TC.i ix⟩], ⟨0, 0⟩⟩, ⟨.val false [⟨.int .i64, .sh, TC.i q⟩], ⟨0, 0⟩⟩] => some (((spec_l02Enum_12_fin k s sg bg NA NU ME BA ct low high ix q)).map spec_l02Enum_12_out)
  | _ => .none
noncomputable def spec_l02Enum_f7 (k s : Int) (sg bg : Bool) (NA NU ME BA : List (List TC)) (ct low high i : Int) : (Unit) ⊕ ((Unit) ⊕ (Unit)) := (bif (!(spec_IsName_v ((nth (row NA i) 0).str))) then (.inr (.inl ())) else (bif (!(spec_l00In_v ((nth (row NU i) 0).int) low high)) then (.inr (.inl ())) else (bif (decide (i > (0 : Int))) then (bif (decide ((nth (row NU (IntKind.wrap .i64 (i - (1 : Int)))) 0).int ≥ (nth (row NU i) 0).int)) then (.inr (.inl ())) else (bif (spec_l02Enum_k12_1 k s sg bg NA NU ME BA ct low high i (0 : Int)) then (.inr (.inl ())) else (.inl ()))) else (bif (spec_l02Enum_k12_1 k s sg bg NA NU ME BA ct low high i (0 : Int)) then (.inr (.inl ())) else (.inl ())))))
noncomputable def spec_l02Enum_e7 (k s : Int) (sg bg : Bool) (NA NU ME BA : List (List TC)) (ct low high : Int) : (Unit) ⊕ (Unit) := .inr ()
noncomputable def spec_l02Enum_R7 (k s : Int) (sg bg : Bool) (NA NU ME BA : List (List TC)) (ct low high i : Int) : (Unit) ⊕ (Unit) := iter (fun i a => (spec_l02Enum_f7 k s sg bg NA NU ME BA ct low high (i : Int))) (fun a => (spec_l02Enum_e7 k s sg bg NA NU ME BA ct low high)) (NA.length) 0 ()
abbrev spec_l02Enum_7_σ := Int × Int × Bool × Bool × List (List TC) × List (List TC) × List (List TC) × List (List TC) × Int × Int × Int × Int
abbrev spec_l02Enum_7_ω := (Unit) ⊕ (Unit)
noncomputable def spec_l02Enum_7_step (k s : Int) (sg bg : Bool) (NA NU ME BA : List (List TC)) (ct low high i : Int) : Tr (spec_l02Enum_7_σ ⊕ spec_l02Enum_7_ω) := (.ite ((decide (i < (NA.length : Int))) = true) (.ite ((0 : Int) ≤ i ∧ i < (NA.length : Int)) (.ite ((spec_IsName_c ((nth (row NA i) 0).str)) = true) (.ite ((!(spec_IsName_v ((nth (row NA i) 0).str))) = true) (.ok (.inr (.inl ())))
     (.ite ((0 : Int) ≤ i ∧ i < (NU.length : Int)) (.ite ((!(spec_l00In_v ((nth (row NU i) 0).int) low high)) = true) (.ok (.inr (.inl ())))
       (.ite ((decide (i > (0 : Int))) = true) (.ite ((0 : Int) ≤ (IntKind.wrap .i64 (i - (1 : Int))) ∧ (IntKind.wrap .i64 (i - (1 : Int))) < (NU.length : Int)) (.ite ((0 : Int) ≤ i ∧ i < (NU.length : Int)) (.ite ((decide ((nth (row NU (IntKind.wrap .i64 (i - (1 : Int)))) 0).int ≥ (nth (row NU i) 0).int)) = true) (.ok (.inr (.inl ())))
           (.ite ((spec_l02Enum_k12_1 k s sg bg NA NU ME BA ct low high i (0 : Int)) = true) (.ite ((spec_l02Enum_o12_2 k s sg bg NA NU ME BA ct low high i (0 : Int)) = true) (.ok (.inr (.inl ())))
             .no)
            (.ite ((spec_l02Enum_o12_3 k s sg bg NA NU ME BA ct low high i (0 : Int)) = true) (.ok (.inl (k, s, sg, bg, NA, NU, ME, BA, ct, low, high, (IntKind.wrap .i64 (i + (1 : Int))))))
             .no)))
          .no)
         .no)
        (.ite ((spec_l02Enum_k12_1 k s sg bg NA NU ME BA ct low high i (0 : Int)) = true) (.ite ((spec_l02Enum_o12_2 k s sg bg NA NU ME BA ct low high i (0 : Int)) = true) (.ok (.inr (.inl ())))
          .no)
         (.ite ((spec_l02Enum_o12_3 k s sg bg NA NU ME BA ct low high i (0 : Int)) = true) (.ok (.inl (k, s, sg, bg, NA, NU, ME, BA, ct, low, high, (IntKind.wrap .i64 (i + (1 : Int))))))
          .no))))
      .no))
    .no)
   .no)
  (.ok (.inr (.inr ()))))
noncomputable def spec_l02Enum_7_st : spec_l02Enum_7_σ → Tr (spec_l02Enum_7_σ ⊕ spec_l02Enum_7_ω) := fun x => (spec_l02Enum_7_step (x.1) (x.2.1) (x.2.2.1) (x.2.2.2.1) (x.2.2.2.2.1) (x.2.2.2.2.2.1) (x.2.2.2.2.2.2.1) (x.2.2.2.2.2.2.2.1) (x.2.2.2.2.2.2.2.2.1) (x.2.2.2.2.2.2.2.2.2.1) (x.2.2.2.2.2.2.2.2.2.2.1) (x.2.2.2.2.2.2.2.2.2.2.2))
noncomputable def spec_l02Enum_k7_1 (k s : Int) (sg bg : Bool) (NA NU ME BA : List (List TC)) (ct low high i : Int) : Bool := sumIs (spec_l02Enum_R7 k s sg bg NA NU ME BA ct low high i)
noncomputable def spec_l02Enum_o7_2 (k s : Int) (sg bg : Bool) (NA NU ME BA : List (List TC)) (ct low high i : Int) : Bool := is (i = 0 ∧ Typed tab (.slice 9) (.l NA) ∧ NU.length = NA.length)
noncomputable def spec_l02Enum_o7_3 (k s : Int) (sg bg : Bool) (NA NU ME BA : List (List TC)) (ct low high i : Int) : Bool := is (i = 0 ∧ Typed tab (.slice 9) (.l NA) ∧ NU.length = NA.length)
noncomputable def spec_l02Enum_7_fin (k s : Int) (sg bg : Bool) (NA NU ME BA : List (List TC)) (ct low high i : Int) : Told spec_l02Enum_7_ω := (.br (spec_l02Enum_k7_1 k s sg bg NA NU ME BA ct low high i) (.leaf (spec_l02Enum_o7_2 k s sg bg NA NU ME BA ct low high i) (.inl ())) (.leaf (spec_l02Enum_o7_3 k s sg bg NA NU ME BA ct low high i) (.inr ())))
def spec_l02Enum_7_sl (x : spec_l02Enum_7_σ) : List Slot := [⟨.bx 32 [⟨.int .i64, .sh, TC.i (x.1)⟩, ⟨.int .i64, .sh, TC.i (x.2.1)⟩, ⟨.bool, .sh, TC.b (x.2.2.1)⟩, ⟨.bool, .sh, TC.b (x.2.2.2.1)⟩, ⟨.slice 9, .sh, TC.l (x.2.2.2.2.1)⟩, ⟨.slice 2, .sh, TC.l (x.2.2.2.2.2.1)⟩, ⟨.slice 77, .sh, TC.l (x.2.2.2.2.2.2.1)⟩, ⟨.slice 32, .sh, TC.l (x.2.2.2.2.2.2.2.1)⟩, ⟨.int .i64, .sh, TC.i (x.2.2.2.2.2.2.2.2.1)⟩], ⟨0, 0⟩⟩, ⟨.val false [⟨.int .i64, .sh, TC.i (x.2.2.2.2.2.2.2.2.2.1)⟩], ⟨0, 0⟩⟩, ⟨.val false [⟨.int .i64, .sh, TC.i (x.2.2.2.2.2.2.2.2.2.2.1)⟩], ⟨0, 0⟩⟩, ⟨.val false [⟨.int .i64, .sh, TC.i (x.2.2.2.2.2.2.2.2.2.2.2)⟩], ⟨0, 0⟩⟩]
def spec_l02Enum_7_out : spec_l02Enum_7_ω → Ex × List Slot := (Sum.elim (fun x => (.ret, [⟨.val false [⟨.bool, .sh, TC.b false⟩], ⟨0, 0⟩⟩])) (fun x => (.exit 0, [Slot.none])))
noncomputable def spec_l02Enum_lo7 : List Slot → Option (Told (Ex × List Slot)) := fun s => match s with
  | [⟨.bx 32 [⟨.int .i64, .sh, TC.i k⟩, ⟨.int .i64, .sh, TC.i s⟩, ⟨.bool, .sh, TC.b sg⟩, ⟨.bool, .sh, TC.b bg⟩, ⟨.slice 9, .sh, TC.l NA⟩, ⟨.slice 2, .sh, TC.l NU⟩, ⟨.slice 77, .sh, TC.l ME⟩, ⟨.slice 32, .sh, TC.l BA⟩, ⟨.int .i64, .sh, TC.i ct⟩], ⟨0, 0⟩⟩, ⟨.val false [⟨.int .i64, .sh, TC.i low⟩], ⟨0, 0⟩⟩, ⟨.val false [⟨.int .i64, .sh, TC.i high⟩], ⟨0, 0⟩⟩, ⟨.val false [⟨.int .i64, .sh, TC.i i⟩], ⟨0, 0⟩⟩] => some (((spec_l02Enum_7_fin k s sg bg NA NU ME BA ct low high i)).map spec_l02Enum_7_out)
  | _ => .none
noncomputable def spec_l02Enum_lo : LoopTeller := fun r s => bif Nat.beq r 7 then spec_l02Enum_lo7 s else bif Nat.beq r 12 then spec_l02Enum_lo12 s else .none
theorem spec_l02Enum_12_r (k s : Int) (sg bg : Bool) (NA NU ME BA : List (List TC)) (ct low high ix q : Int) (fuel : Nat) : rounds (rnd tab FT D22 live 72 spec_l02Enum_lo 1 12) leave (fuel + 1) (spec_l02Enum_12_sl (k, s, sg, bg, NA, NU, ME, BA, ct, low, high, ix, q)) = ((spec_l02Enum_12_step k s sg bg NA NU ME BA ct low high ix q)).run (goOn (fun s => rounds (rnd tab FT D22 live 72 spec_l02Enum_lo 1 12) leave fuel (spec_l02Enum_12_sl s)) fun w => some (spec_l02Enum_12_out w)) := by kernel_rfl
theorem spec_l02Enum_f12_eq (k s : Int) (sg bg : Bool) (NA NU ME BA : List (List TC)) (ct low high : Int) (ix i : Int) : spec_l02Enum_f12 k s sg bg NA NU ME BA ct low high ix i = bif !(strAt NA i == strAt NA ix) then Sum.inl () else Sum.inr (Sum.inl (k, s, sg, bg, NA, NU, ME, BA, ct, low, high, ix)) := by
  unfold spec_l02Enum_f12 strAt
  skip
  generalize ((nth (row NA i) 0).str == (nth (row NA ix) 0).str) = p0
  cases p0 <;> rfl
theorem spec_l02Enum_R12_eq (k s : Int) (sg bg : Bool) (NA NU ME BA : List (List TC)) (ct low high : Int) (ix : Int)  : spec_l02Enum_R12 k s sg bg NA NU ME BA ct low high ix 0 = bif allI (fun i : Nat => !(strAt NA (i : Int) == strAt NA ix)) (ix.toNat) then Sum.inr (k, s, sg, bg, NA, NU, ME, BA, ct, low, high, ix) else (Sum.inl (k, s, sg, bg, NA, NU, ME, BA, ct, low, high, ix)) := by
  unfold spec_l02Enum_R12
  exact (iter_all (P := (fun i : Nat => !(strAt NA (i : Int) == strAt NA ix))) (g := fun _ a => a) (w := Sum.inl (k, s, sg, bg, NA, NU, ME, BA, ct, low, high, ix)) fun j a _ => spec_l02Enum_f12_eq k s sg bg NA NU ME BA ct low high ix _)
theorem spec_l02Enum_12_h (k s : Int) (sg bg : Bool) (NA NU ME BA : List (List TC)) (ct low high ix q : Int) (ow : spec_l02Enum_12_ω) : ((spec_l02Enum_12_fin k s sg bg NA NU ME BA ct low high ix q)).val = some ow → ∃ fuel, loopN spec_l02Enum_12_st fuel (k, s, sg, bg, NA, NU, ME, BA, ct, low, high, ix, q) = some ow := by
  refine auto_const (R := (spec_l02Enum_R12 k s sg bg NA NU ME BA ct low high ix q)) rfl (iter_onR (f := (fun i a => (spec_l02Enum_f12 k s sg bg NA NU ME BA ct low high ix (i : Int)))) (fin := (fun a => (spec_l02Enum_e12 k s sg bg NA NU ME BA ct low high ix))) (Q := endsAs (k, s, sg, bg, NA, NU, ME, BA, ct, low, high, ix) (k, s, sg, bg, NA, NU, ME, BA, ct, low, high, ix)) (fun i a => by unfold spec_l02Enum_f12; exact (onR_bif rfl trivial)) (fun _ => rfl) _ _ _) ?_
  intro ho
  have ho : is (q = 0 ∧ 0 ≤ ix ∧ ix < (NA.length : Int) ∧ NA.length ≤ 140737488355328) = true := ho.elim id id
  obtain ⟨rfl, h0, h1, h2⟩ := is_iff.1 ho
  skip
  refine ⟨(ix.toNat) + 1, ?_⟩
  refine iter_loop (step := spec_l02Enum_12_st) (ix.toNat) (fun i a => (spec_l02Enum_f12 k s sg bg NA NU ME BA ct low high ix (i : Int))) (fun a => (spec_l02Enum_e12 k s sg bg NA NU ME BA ct low high ix)) (fun i a => (k, s, sg, bg, NA, NU, ME, BA, ct, low, high, ix, (i : Int))) (fun _ _ => True) trivial (fun i a hi hI => ⟨?_, fun _ _ => trivial⟩) (fun a hI => ?_)
  · show (spec_l02Enum_12_step k s sg bg NA NU ME BA ct low high ix (i : Int)).val = _
    unfold spec_l02Enum_12_step spec_l02Enum_f12
    skip
    refine Tr.t (by simp; omega) ?_
    exact (Tr.t (by first | omega | (constructor <;> omega)) (Tr.t (by first | omega | (constructor <;> omega)) (Tr.bf rfl (by rw [Tr.val_ok, wrap64 (i := (i : Int) + 1) (by omega) (by omega)]; rfl))))
  · show (spec_l02Enum_12_step k s sg bg NA NU ME BA ct low high ix (ix.toNat : Int)).val = _
    refine Tr.n (by first | (simp; done) | (simp; omega) | omega) ?_
    rfl
theorem spec_l02Enum_is12 : LoopIs tab FT D22 live 72 spec_l02Enum_lo 1 12 := by
  refine loop_told (sl := spec_l02Enum_12_sl) (step := spec_l02Enum_12_st) (out := spec_l02Enum_12_out) (lor := spec_l02Enum_lo12) (fin := fun x => (spec_l02Enum_12_fin (x.1) (x.2.1) (x.2.2.1) (x.2.2.2.1) (x.2.2.2.2.1) (x.2.2.2.2.2.1) (x.2.2.2.2.2.2.1) (x.2.2.2.2.2.2.2.1) (x.2.2.2.2.2.2.2.2.1) (x.2.2.2.2.2.2.2.2.2.1) (x.2.2.2.2.2.2.2.2.2.2.1) (x.2.2.2.2.2.2.2.2.2.2.2.1) (x.2.2.2.2.2.2.2.2.2.2.2.2))) (fun _ => rfl) ?_ (fun x n => spec_l02Enum_12_r x.1 x.2.1 x.2.2.1 x.2.2.2.1 x.2.2.2.2.1 x.2.2.2.2.2.1 x.2.2.2.2.2.2.1 x.2.2.2.2.2.2.2.1 x.2.2.2.2.2.2.2.2.1 x.2.2.2.2.2.2.2.2.2.1 x.2.2.2.2.2.2.2.2.2.2.1 x.2.2.2.2.2.2.2.2.2.2.2.1 x.2.2.2.2.2.2.2.2.2.2.2.2 n) (fun x ow => spec_l02Enum_12_h x.1 x.2.1 x.2.2.1 x.2.2.2.1 x.2.2.2.2.1 x.2.2.2.2.2.1 x.2.2.2.2.2.2.1 x.2.2.2.2.2.2.2.1 x.2.2.2.2.2.2.2.2.1 x.2.2.2.2.2.2.2.2.2.1 x.2.2.2.2.2.2.2.2.2.2.1 x.2.2.2.2.2.2.2.2.2.2.2.1 x.2.2.2.2.2.2.2.2.2.2.2.2 ow)
  intro s t h
  unfold spec_l02Enum_lo12 at h
  split at h
  · cases h; exact ⟨(_, _, _, _, _, _, _, _, _, _, _, _, _), rfl, rfl⟩
  · cases h
theorem spec_l02Enum_7_r (k s : Int) (sg bg : Bool) (NA NU ME BA : List (List TC)) (ct low high i : Int) (fuel : Nat) : rounds (rnd tab FT D22 live 72 spec_l02Enum_lo 0 7) leave (fuel + 1) (spec_l02Enum_7_sl (k, s, sg, bg, NA, NU, ME, BA, ct, low, high, i)) = ((spec_l02Enum_7_step k s sg bg NA NU ME BA ct low high i)).run (goOn (fun s => rounds (rnd tab FT D22 live 72 spec_l02Enum_lo 0 7) leave fuel (spec_l02Enum_7_sl s)) fun w => some (spec_l02Enum_7_out w)) := by kernel_rfl
theorem spec_l02Enum_f7_eq (k s : Int) (sg bg : Bool) (NA NU ME BA : List (List TC)) (ct low high : Int) (i : Int) : spec_l02Enum_f7 k s sg bg NA NU ME BA ct low high i = bif enumP NA NU low high i then Sum.inl () else Sum.inr (Sum.inl ()) := by
  unfold spec_l02Enum_f7 enumP ascB strAt intAt
  rw [show spec_l02Enum_k12_1 k s sg bg NA NU ME BA ct low high i 0 = !(noDupN NA i) from by unfold spec_l02Enum_k12_1 noDupN; rw [spec_l02Enum_R12_eq]; generalize allI _ _ = q; cases q <;> rfl]
  rw [show spec_l00In_v (nth (row NU i) 0).int low high = inB (nth (row NU i) 0).int low high from rfl, spec_IsName_vv]
  generalize nameOk (nth (row NA i) 0).str = p0, inB (nth (row NU i) 0).int low high = p1, decide (i > 0) = p2, decide ((nth (row NU (IntKind.wrap .i64 (i - (1 : Int)))) 0).int ≥ (nth (row NU i) 0).int) = p3, noDupN NA i = p4
  cases p0 <;> cases p1 <;> cases p2 <;> cases p3 <;> cases p4 <;> rfl
theorem spec_l02Enum_R7_eq (k s : Int) (sg bg : Bool) (NA NU ME BA : List (List TC)) (ct low high : Int)  : spec_l02Enum_R7 k s sg bg NA NU ME BA ct low high 0 = bif allI (fun i : Nat => enumP NA NU low high (i : Int)) (NA.length) then Sum.inr () else (Sum.inl ()) := by
  unfold spec_l02Enum_R7
  exact (iter_all (P := (fun i : Nat => enumP NA NU low high (i : Int))) (g := fun _ a => a) (w := Sum.inl ()) fun j a _ => spec_l02Enum_f7_eq k s sg bg NA NU ME BA ct low high _)
theorem spec_l02Enum_7_h (k s : Int) (sg bg : Bool) (NA NU ME BA : List (List TC)) (ct low high i : Int) (ow : spec_l02Enum_7_ω) : ((spec_l02Enum_7_fin k s sg bg NA NU ME BA ct low high i)).val = some ow → ∃ fuel, loopN spec_l02Enum_7_st fuel (k, s, sg, bg, NA, NU, ME, BA, ct, low, high, i) = some ow := by
  refine auto_const (R := (spec_l02Enum_R7 k s sg bg NA NU ME BA ct low high i)) rfl (iter_onR (f := (fun i a => (spec_l02Enum_f7 k s sg bg NA NU ME BA ct low high (i : Int)))) (fin := (fun a => (spec_l02Enum_e7 k s sg bg NA NU ME BA ct low high))) (Q := endsAs () ()) (fun i a => by unfold spec_l02Enum_f7; exact (onR_bif rfl (onR_bif rfl (onR_bif (onR_bif rfl (onR_bif rfl trivial)) (onR_bif rfl trivial))))) (fun _ => rfl) _ _ _) ?_
  intro ho
  have ho : is (i = 0 ∧ Typed tab (.slice 9) (.l NA) ∧ NU.length = NA.length) = true := ho.elim id id
  obtain ⟨rfl, ht, hU⟩ := is_iff.1 ho
  have hlen : NA.length ≤ 140737488351232 := by have := typed_room ht; simp only [show (tab 9).bytes = 16 from rfl] at this; omega
  refine ⟨(NA.length) + 1, ?_⟩
  refine iter_loop (step := spec_l02Enum_7_st) (NA.length) (fun i a => (spec_l02Enum_f7 k s sg bg NA NU ME BA ct low high (i : Int))) (fun a => (spec_l02Enum_e7 k s sg bg NA NU ME BA ct low high)) (fun i a => (k, s, sg, bg, NA, NU, ME, BA, ct, low, high, (i : Int))) (fun _ _ => True) trivial (fun i a hi hI => ⟨?_, fun _ _ => trivial⟩) (fun a hI => ?_)
  · show (spec_l02Enum_7_step k s sg bg NA NU ME BA ct low high (i : Int)).val = _
    unfold spec_l02Enum_7_step spec_l02Enum_f7
    have c0 : Typed tab (.str) (.s (nth (NA.getD i []) 0).str) := typed_s (typed_cell ht (NA.getD i []) (mem_getD hi) 0 (by decide))
    refine Tr.t (by simp; omega) ?_
    exact (Tr.t (by first | omega | (constructor <;> omega) | (exact is_true ⟨rfl, by omega, by omega, by omega⟩) | (simp only [decide_eq_true_eq] at *; rw [wrap64 (by omega) (by omega)]; constructor <;> omega)) (Tr.t (by first | (exact is_true ⟨rfl, by omega, by omega, by omega⟩) | (simp only [decide_eq_true_eq] at *; rw [wrap64 (by omega) (by omega)]; constructor <;> omega) | (first | (apply spec_IsName_cc <;> assumption) | (first | (apply is_true; and_intros <;> (first | rfl | assumption | (apply laws_szStringS_cc <;> assumption) | (apply laws_szMember_cc <;> assumption) | (apply laws_szMemberS_cc <;> assumption) | (apply laws_szTypeS_cc <;> assumption) | (apply spec_l00Has_cc <;> assumption) | (apply spec_l02Range_cc <;> assumption) | (apply spec_IsName_cc <;> assumption) | (first | (apply is_true; and_intros <;> (first | rfl | assumption | (apply laws_szStringS_cc <;> assumption) | (apply laws_szMember_cc <;> assumption) | (apply laws_szMemberS_cc <;> assumption) | (apply laws_szTypeS_cc <;> assumption) | (apply spec_l00Has_cc <;> assumption) | (apply spec_l02Range_cc <;> assumption) | (apply spec_IsName_cc <;> assumption))) | (apply laws_szStringS_cc <;> assumption) | (apply laws_szMember_cc <;> assumption) | (apply laws_szMemberS_cc <;> assumption) | (apply laws_szTypeS_cc <;> assumption) | (apply spec_l00Has_cc <;> assumption) | (apply spec_l02Range_cc <;> assumption) | (apply spec_IsName_cc <;> assumption)))) | (apply laws_szStringS_cc <;> assumption) | (apply laws_szMember_cc <;> assumption) | (apply laws_szMemberS_cc <;> assumption) | (apply laws_szTypeS_cc <;> assumption) | (apply spec_l00Has_cc <;> assumption) | (apply spec_l02Range_cc <;> assumption) | (apply spec_IsName_cc <;> assumption)))) (Tr.bh (fun _ => rfl) (fun _ => (Tr.t (by first | omega | (constructor <;> omega) | (exact is_true ⟨rfl, by omega, by omega, by omega⟩) | (simp only [decide_eq_true_eq] at *; rw [wrap64 (by omega) (by omega)]; constructor <;> omega)) (Tr.bh (fun _ => rfl) (fun _ => (Tr.bh (fun _ => (Tr.t (by first | omega | (constructor <;> omega) | (exact is_true ⟨rfl, by omega, by omega, by omega⟩) | (simp only [decide_eq_true_eq] at *; rw [wrap64 (by omega) (by omega)]; constructor <;> omega)) (Tr.t (by first | omega | (constructor <;> omega) | (exact is_true ⟨rfl, by omega, by omega, by omega⟩) | (simp only [decide_eq_true_eq] at *; rw [wrap64 (by omega) (by omega)]; constructor <;> omega)) (Tr.bh (fun _ => rfl) (fun _ => (Tr.bh (fun _ => (Tr.t (by first | (exact is_true ⟨rfl, by omega, by omega, by omega⟩) | (simp only [decide_eq_true_eq] at *; rw [wrap64 (by omega) (by omega)]; constructor <;> omega) | (first | (apply is_true; and_intros <;> (first | rfl | assumption | (apply laws_szStringS_cc <;> assumption) | (apply laws_szMember_cc <;> assumption) | (apply laws_szMemberS_cc <;> assumption) | (apply laws_szTypeS_cc <;> assumption) | (apply spec_l00Has_cc <;> assumption) | (apply spec_l02Range_cc <;> assumption) | (apply spec_IsName_cc <;> assumption) | (first | (apply is_true; and_intros <;> (first | rfl | assumption | (apply laws_szStringS_cc <;> assumption) | (apply laws_szMember_cc <;> assumption) | (apply laws_szMemberS_cc <;> assumption) | (apply laws_szTypeS_cc <;> assumption) | (apply spec_l00Has_cc <;> assumption) | (apply spec_l02Range_cc <;> assumption) | (apply spec_IsName_cc <;> assumption) | (first | (apply is_true; and_intros <;> (first | rfl | assumption | (apply laws_szStringS_cc <;> assumption) | (apply laws_szMember_cc <;> assumption) | (apply laws_szMemberS_cc <;> assumption) | (apply laws_szTypeS_cc <;> assumption) | (apply spec_l00Has_cc <;> assumption) | (apply spec_l02Range_cc <;> assumption) | (apply spec_IsName_cc <;> assumption))) | (apply laws_szStringS_cc <;> assumption) | (apply laws_szMember_cc <;> assumption) | (apply laws_szMemberS_cc <;> assumption) | (apply laws_szTypeS_cc <;> assumption) | (apply spec_l00Has_cc <;> assumption) | (apply spec_l02Range_cc <;> assumption) | (apply spec_IsName_cc <;> assumption)))) | (apply laws_szStringS_cc <;> assumption) | (apply laws_szMember_cc <;> assumption) | (apply laws_szMemberS_cc <;> assumption) | (apply laws_szTypeS_cc <;> assumption) | (apply spec_l00Has_cc <;> assumption) | (apply spec_l02Range_cc <;> assumption) | (apply spec_IsName_cc <;> assumption)))) | (apply laws_szStringS_cc <;> assumption) | (apply laws_szMember_cc <;> assumption) | (apply laws_szMemberS_cc <;> assumption) | (apply laws_szTypeS_cc <;> assumption) | (apply spec_l00Has_cc <;> assumption) | (apply spec_l02Range_cc <;> assumption) | (apply spec_IsName_cc <;> assumption))) rfl)) (fun _ => (Tr.t (by first | (exact is_true ⟨rfl, by omega, by omega, by omega⟩) | (simp only [decide_eq_true_eq] at *; rw [wrap64 (by omega) (by omega)]; constructor <;> omega) | (first | (apply is_true; and_intros <;> (first | rfl | assumption | (apply laws_szStringS_cc <;> assumption) | (apply laws_szMember_cc <;> assumption) | (apply laws_szMemberS_cc <;> assumption) | (apply laws_szTypeS_cc <;> assumption) | (apply spec_l00Has_cc <;> assumption) | (apply spec_l02Range_cc <;> assumption) | (apply spec_IsName_cc <;> assumption) | (first | (apply is_true; and_intros <;> (first | rfl | assumption | (apply laws_szStringS_cc <;> assumption) | (apply laws_szMember_cc <;> assumption) | (apply laws_szMemberS_cc <;> assumption) | (apply laws_szTypeS_cc <;> assumption) | (apply spec_l00Has_cc <;> assumption) | (apply spec_l02Range_cc <;> assumption) | (apply spec_IsName_cc <;> assumption) | (first | (apply is_true; and_intros <;> (first | rfl | assumption | (apply laws_szStringS_cc <;> assumption) | (apply laws_szMember_cc <;> assumption) | (apply laws_szMemberS_cc <;> assumption) | (apply laws_szTypeS_cc <;> assumption) | (apply spec_l00Has_cc <;> assumption) | (apply spec_l02Range_cc <;> assumption) | (apply spec_IsName_cc <;> assumption))) | (apply laws_szStringS_cc <;> assumption) | (apply laws_szMember_cc <;> assumption) | (apply laws_szMemberS_cc <;> assumption) | (apply laws_szTypeS_cc <;> assumption) | (apply spec_l00Has_cc <;> assumption) | (apply spec_l02Range_cc <;> assumption) | (apply spec_IsName_cc <;> assumption)))) | (apply laws_szStringS_cc <;> assumption) | (apply laws_szMember_cc <;> assumption) | (apply laws_szMemberS_cc <;> assumption) | (apply laws_szTypeS_cc <;> assumption) | (apply spec_l00Has_cc <;> assumption) | (apply spec_l02Range_cc <;> assumption) | (apply spec_IsName_cc <;> assumption)))) | (apply laws_szStringS_cc <;> assumption) | (apply laws_szMember_cc <;> assumption) | (apply laws_szMemberS_cc <;> assumption) | (apply laws_szTypeS_cc <;> assumption) | (apply spec_l00Has_cc <;> assumption) | (apply spec_l02Range_cc <;> assumption) | (apply spec_IsName_cc <;> assumption))) (by rw [Tr.val_ok, wrap64 (i := (i : Int) + 1) (by omega) (by omega)]; rfl))))))))) (fun _ => (Tr.bh (fun _ => (Tr.t (by first | (exact is_true ⟨rfl, by omega, by omega, by omega⟩) | (simp only [decide_eq_true_eq] at *; rw [wrap64 (by omega) (by omega)]; constructor <;> omega) | (first | (apply is_true; and_intros <;> (first | rfl | assumption | (apply laws_szStringS_cc <;> assumption) | (apply laws_szMember_cc <;> assumption) | (apply laws_szMemberS_cc <;> assumption) | (apply laws_szTypeS_cc <;> assumption) | (apply spec_l00Has_cc <;> assumption) | (apply spec_l02Range_cc <;> assumption) | (apply spec_IsName_cc <;> assumption) | (first | (apply is_true; and_intros <;> (first | rfl | assumption | (apply laws_szStringS_cc <;> assumption) | (apply laws_szMember_cc <;> assumption) | (apply laws_szMemberS_cc <;> assumption) | (apply laws_szTypeS_cc <;> assumption) | (apply spec_l00Has_cc <;> assumption) | (apply spec_l02Range_cc <;> assumption) | (apply spec_IsName_cc <;> assumption) | (first | (apply is_true; and_intros <;> (first | rfl | assumption | (apply laws_szStringS_cc <;> assumption) | (apply laws_szMember_cc <;> assumption) | (apply laws_szMemberS_cc <;> assumption) | (apply laws_szTypeS_cc <;> assumption) | (apply spec_l00Has_cc <;> assumption) | (apply spec_l02Range_cc <;> assumption) | (apply spec_IsName_cc <;> assumption))) | (apply laws_szStringS_cc <;> assumption) | (apply laws_szMember_cc <;> assumption) | (apply laws_szMemberS_cc <;> assumption) | (apply laws_szTypeS_cc <;> assumption) | (apply spec_l00Has_cc <;> assumption) | (apply spec_l02Range_cc <;> assumption) | (apply spec_IsName_cc <;> assumption)))) | (apply laws_szStringS_cc <;> assumption) | (apply laws_szMember_cc <;> assumption) | (apply laws_szMemberS_cc <;> assumption) | (apply laws_szTypeS_cc <;> assumption) | (apply spec_l00Has_cc <;> assumption) | (apply spec_l02Range_cc <;> assumption) | (apply spec_IsName_cc <;> assumption)))) | (apply laws_szStringS_cc <;> assumption) | (apply laws_szMember_cc <;> assumption) | (apply laws_szMemberS_cc <;> assumption) | (apply laws_szTypeS_cc <;> assumption) | (apply spec_l00Has_cc <;> assumption) | (apply spec_l02Range_cc <;> assumption) | (apply spec_IsName_cc <;> assumption))) rfl)) (fun _ => (Tr.t (by first | (exact is_true ⟨rfl, by omega, by omega, by omega⟩) | (simp only [decide_eq_true_eq] at *; rw [wrap64 (by omega) (by omega)]; constructor <;> omega) | (first | (apply is_true; and_intros <;> (first | rfl | assumption | (apply laws_szStringS_cc <;> assumption) | (apply laws_szMember_cc <;> assumption) | (apply laws_szMemberS_cc <;> assumption) | (apply laws_szTypeS_cc <;> assumption) | (apply spec_l00Has_cc <;> assumption) | (apply spec_l02Range_cc <;> assumption) | (apply spec_IsName_cc <;> assumption) | (first | (apply is_true; and_intros <;> (first | rfl | assumption | (apply laws_szStringS_cc <;> assumption) | (apply laws_szMember_cc <;> assumption) | (apply laws_szMemberS_cc <;> assumption) | (apply laws_szTypeS_cc <;> assumption) | (apply spec_l00Has_cc <;> assumption) | (apply spec_l02Range_cc <;> assumption) | (apply spec_IsName_cc <;> assumption) | (first | (apply is_true; and_intros <;> (first | rfl | assumption | (apply laws_szStringS_cc <;> assumption) | (apply laws_szMember_cc <;> assumption) | (apply laws_szMemberS_cc <;> assumption) | (apply laws_szTypeS_cc <;> assumption) | (apply spec_l00Has_cc <;> assumption) | (apply spec_l02Range_cc <;> assumption) | (apply spec_IsName_cc <;> assumption))) | (apply laws_szStringS_cc <;> assumption) | (apply laws_szMember_cc <;> assumption) | (apply laws_szMemberS_cc <;> assumption) | (apply laws_szTypeS_cc <;> assumption) | (apply spec_l00Has_cc <;> assumption) | (apply spec_l02Range_cc <;> assumption) | (apply spec_IsName_cc <;> assumption)))) | (apply laws_szStringS_cc <;> assumption) | (apply laws_szMember_cc <;> assumption) | (apply laws_szMemberS_cc <;> assumption) | (apply laws_szTypeS_cc <;> assumption) | (apply spec_l00Has_cc <;> assumption) | (apply spec_l02Range_cc <;> assumption) | (apply spec_IsName_cc <;> assumption)))) | (apply laws_szStringS_cc <;> assumption) | (apply laws_szMember_cc <;> assumption) | (apply laws_szMemberS_cc <;> assumption) | (apply laws_szTypeS_cc <;> assumption) | (apply spec_l00Has_cc <;> assumption) | (apply spec_l02Range_cc <;> assumption) | (apply spec_IsName_cc <;> assumption))) (by rw [Tr.val_ok, wrap64 (i := (i : Int) + 1) (by omega) (by omega)]; rfl)))))))))))))
  · show (spec_l02Enum_7_step k s sg bg NA NU ME BA ct low high (NA.length : Int)).val = _
    refine Tr.n (by first | (simp; done) | (simp; omega) | omega) ?_
    rfl
theorem spec_l02Enum_is7 : LoopIs tab FT D22 live 72 spec_l02Enum_lo 0 7 := by
  refine loop_told (sl := spec_l02Enum_7_sl) (step := spec_l02Enum_7_st) (out := spec_l02Enum_7_out) (lor := spec_l02Enum_lo7) (fin := fun x => (spec_l02Enum_7_fin (x.1) (x.2.1) (x.2.2.1) (x.2.2.2.1) (x.2.2.2.2.1) (x.2.2.2.2.2.1) (x.2.2.2.2.2.2.1) (x.2.2.2.2.2.2.2.1) (x.2.2.2.2.2.2.2.2.1) (x.2.2.2.2.2.2.2.2.2.1) (x.2.2.2.2.2.2.2.2.2.2.1) (x.2.2.2.2.2.2.2.2.2.2.2))) (fun _ => rfl) ?_ (fun x n => spec_l02Enum_7_r x.1 x.2.1 x.2.2.1 x.2.2.2.1 x.2.2.2.2.1 x.2.2.2.2.2.1 x.2.2.2.2.2.2.1 x.2.2.2.2.2.2.2.1 x.2.2.2.2.2.2.2.2.1 x.2.2.2.2.2.2.2.2.2.1 x.2.2.2.2.2.2.2.2.2.2.1 x.2.2.2.2.2.2.2.2.2.2.2 n) (fun x ow => spec_l02Enum_7_h x.1 x.2.1 x.2.2.1 x.2.2.2.1 x.2.2.2.2.1 x.2.2.2.2.2.1 x.2.2.2.2.2.2.1 x.2.2.2.2.2.2.2.1 x.2.2.2.2.2.2.2.2.1 x.2.2.2.2.2.2.2.2.2.1 x.2.2.2.2.2.2.2.2.2.2.1 x.2.2.2.2.2.2.2.2.2.2.2 ow)
  intro s t h
  unfold spec_l02Enum_lo7 at h
  split at h
  · cases h; exact ⟨(_, _, _, _, _, _, _, _, _, _, _, _), rfl, rfl⟩
  · cases h
noncomputable def spec_l02Enum_t (k s : Int) (sg bg : Bool) (NA NU ME BA : List (List TC)) (ct : Int) : Tr (Bool) := (.ite ((!(s == (0 : Int))) = true) (.ok false)
  (.ite ((!(spec_l02Plain_v k s sg bg NA NU ME BA ct)) = true) (.ok false)
   (.ite ((decide ((ME.length : Int) > (0 : Int))) = true) (.ok false)
    (.ite ((!(ct == (0 : Int))) = true) (.ok false)
     (.ite ((!((BA.length : Int) == (1 : Int))) = true) (.ok false)
      (.ite ((0 : Int) ≤ (0 : Int) ∧ (0 : Int) < (BA.length : Int)) (.ite ((!((nth (row BA (0 : Int)) 0).int == (1 : Int))) = true) (.ok false)
        (.ite ((0 : Int) ≤ (0 : Int) ∧ (0 : Int) < (BA.length : Int)) (.ite ((!(spec_l02Int_v ((nth (row BA (0 : Int)) 0).int) ((nth (row BA (0 : Int)) 1).int) ((nth (row BA (0 : Int)) 2).bool) ((nth (row BA (0 : Int)) 3).bool) ((nth (row BA (0 : Int)) 4).list) ((nth (row BA (0 : Int)) 5).list) ((nth (row BA (0 : Int)) 6).list) ((nth (row BA (0 : Int)) 7).list) ((nth (row BA (0 : Int)) 8).int))) = true) (.ok false)
          (.ite ((decide ((NA.length : Int) < (1 : Int))) = true) (.ok false)
           (.ite ((decide ((NA.length : Int) > (6 : Int))) = true) (.ok false)
            (.ite ((!((NU.length : Int) == (NA.length : Int))) = true) (.ok false)
             (.ite ((0 : Int) ≤ (0 : Int) ∧ (0 : Int) < (BA.length : Int)) (.ite ((spec_l02Range_c ((nth (row BA (0 : Int)) 0).int) ((nth (row BA (0 : Int)) 1).int) ((nth (row BA (0 : Int)) 2).bool) ((nth (row BA (0 : Int)) 3).bool) ((nth (row BA (0 : Int)) 4).list) ((nth (row BA (0 : Int)) 5).list) ((nth (row BA (0 : Int)) 6).list) ((nth (row BA (0 : Int)) 7).list) ((nth (row BA (0 : Int)) 8).int)) = true) (.ite ((spec_l02Enum_k7_1 k s sg bg NA NU ME BA ct ((spec_l02Range_v ((nth (row BA (0 : Int)) 0).int) ((nth (row BA (0 : Int)) 1).int) ((nth (row BA (0 : Int)) 2).bool) ((nth (row BA (0 : Int)) 3).bool) ((nth (row BA (0 : Int)) 4).list) ((nth (row BA (0 : Int)) 5).list) ((nth (row BA (0 : Int)) 6).list) ((nth (row BA (0 : Int)) 7).list) ((nth (row BA (0 : Int)) 8).int)).1) ((spec_l02Range_v ((nth (row BA (0 : Int)) 0).int) ((nth (row BA (0 : Int)) 1).int) ((nth (row BA (0 : Int)) 2).bool) ((nth (row BA (0 : Int)) 3).bool) ((nth (row BA (0 : Int)) 4).list) ((nth (row BA (0 : Int)) 5).list) ((nth (row BA (0 : Int)) 6).list) ((nth (row BA (0 : Int)) 7).list) ((nth (row BA (0 : Int)) 8).int)).2) (0 : Int)) = true) (.ite ((spec_l02Enum_o7_2 k s sg bg NA NU ME BA ct ((spec_l02Range_v ((nth (row BA (0 : Int)) 0).int) ((nth (row BA (0 : Int)) 1).int) ((nth (row BA (0 : Int)) 2).bool) ((nth (row BA (0 : Int)) 3).bool) ((nth (row BA (0 : Int)) 4).list) ((nth (row BA (0 : Int)) 5).list) ((nth (row BA (0 : Int)) 6).list) ((nth (row BA (0 : Int)) 7).list) ((nth (row BA (0 : Int)) 8).int)).1) ((spec_l02Range_v ((nth (row BA (0 : Int)) 0).int) ((nth (row BA (0 : Int)) 1).int) ((nth (row BA (0 : Int)) 2).bool) ((nth (row BA (0 : Int)) 3).bool) ((nth (row BA (0 : Int)) 4).list) ((nth (row BA (0 : Int)) 5).list) ((nth (row BA (0 : Int)) 6).list) ((nth (row BA (0 : Int)) 7).list) ((nth (row BA (0 : Int)) 8).int)).2) (0 : Int)) = true) (.ok false)
                 .no)
                (.ite ((spec_l02Enum_o7_3 k s sg bg NA NU ME BA ct ((spec_l02Range_v ((nth (row BA (0 : Int)) 0).int) ((nth (row BA (0 : Int)) 1).int) ((nth (row BA (0 : Int)) 2).bool) ((nth (row BA (0 : Int)) 3).bool) ((nth (row BA (0 : Int)) 4).list) ((nth (row BA (0 : Int)) 5).list) ((nth (row BA (0 : Int)) 6).list) ((nth (row BA (0 : Int)) 7).list) ((nth (row BA (0 : Int)) 8).int)).1) ((spec_l02Range_v ((nth (row BA (0 : Int)) 0).int) ((nth (row BA (0 : Int)) 1).int) ((nth (row BA (0 : Int)) 2).bool) ((nth (row BA (0 : Int)) 3).bool) ((nth (row BA (0 : Int)) 4).list) ((nth (row BA (0 : Int)) 5).list) ((nth (row BA (0 : Int)) 6).list) ((nth (row BA (0 : Int)) 7).list) ((nth (row BA (0 : Int)) 8).int)).2) (0 : Int)) = true) (.ok true)
                 .no))
               .no)
              .no)))))
         .no))
       .no))))))
def spec_l02Enum_mk (p : Bool) : Res := [(false, [⟨.bool, .sh, TC.b p⟩])]
noncomputable def spec_l02Enum_c (k s : Int) (sg bg : Bool) (NA NU ME BA : List (List TC)) (ct : Int) : Bool := (bif (!(s == (0 : Int))) then true else (bif (!(spec_l02Plain_v k s sg bg NA NU ME BA ct)) then true else (bif (decide ((ME.length : Int) > (0 : Int))) then true else (bif (!(ct == (0 : Int))) then true else (bif (!((BA.length : Int) == (1 : Int))) then true else (is ((0 : Int) ≤ (0 : Int) ∧ (0 : Int) < (BA.length : Int)) && (bif (!((nth (row BA (0 : Int)) 0).int == (1 : Int))) then true else (is ((0 : Int) ≤ (0 : Int) ∧ (0 : Int) < (BA.length : Int)) && (bif (!(spec_l02Int_v ((nth (row BA (0 : Int)) 0).int) ((nth (row BA (0 : Int)) 1).int) ((nth (row BA (0 : Int)) 2).bool) ((nth (row BA (0 : Int)) 3).bool) ((nth (row BA (0 : Int)) 4).list) ((nth (row BA (0 : Int)) 5).list) ((nth (row BA (0 : Int)) 6).list) ((nth (row BA (0 : Int)) 7).list) ((nth (row BA (0 : Int)) 8).int))) then true else (bif (decide ((NA.length : Int) < (1 : Int))) then true else (bif (decide ((NA.length : Int) > (6 : Int))) then true else (bif (!((NU.length : Int) == (NA.length : Int))) then true else (is ((0 : Int) ≤ (0 : Int) ∧ (0 : Int) < (BA.length : Int)) && ((spec_l02Range_c ((nth (row BA (0 : Int)) 0).int) ((nth (row BA (0 : Int)) 1).int) ((nth (row BA (0 : Int)) 2).bool) ((nth (row BA (0 : Int)) 3).bool) ((nth (row BA (0 : Int)) 4).list) ((nth (row BA (0 : Int)) 5).list) ((nth (row BA (0 : Int)) 6).list) ((nth (row BA (0 : Int)) 7).list) ((nth (row BA (0 : Int)) 8).int)) && (bif (spec_l02Enum_k7_1 k s sg bg NA NU ME BA ct ((spec_l02Range_v ((nth (row BA (0 : Int)) 0).int) ((nth (row BA (0 : Int)) 1).int) ((nth (row BA (0 : Int)) 2).bool) ((nth (row BA (0 : Int)) 3).bool) ((nth (row BA (0 : Int)) 4).list) ((nth (row BA (0 : Int)) 5).list) ((nth (row BA (0 : Int)) 6).list) ((nth (row BA (0 : Int)) 7).list) ((nth (row BA (0 : Int)) 8).int)).1) ((spec_l02Range_v ((nth (row BA (0 : Int)) 0).int) ((nth (row BA (0 : Int)) 1).int) ((nth (row BA (0 : Int)) 2).bool) ((nth (row BA (0 : Int)) 3).bool) ((nth (row BA (0 : Int)) 4).list) ((nth (row BA (0 : Int)) 5).list) ((nth (row BA (0 : Int)) 6).list) ((nth (row BA (0 : Int)) 7).list) ((nth (row BA (0 : Int)) 8).int)).2) (0 : Int)) then ((spec_l02Enum_o7_2 k s sg bg NA NU ME BA ct ((spec_l02Range_v ((nth (row BA (0 : Int)) 0).int) ((nth (row BA (0 : Int)) 1).int) ((nth (row BA (0 : Int)) 2).bool) ((nth (row BA (0 : Int)) 3).bool) ((nth (row BA (0 : Int)) 4).list) ((nth (row BA (0 : Int)) 5).list) ((nth (row BA (0 : Int)) 6).list) ((nth (row BA (0 : Int)) 7).list) ((nth (row BA (0 : Int)) 8).int)).1) ((spec_l02Range_v ((nth (row BA (0 : Int)) 0).int) ((nth (row BA (0 : Int)) 1).int) ((nth (row BA (0 : Int)) 2).bool) ((nth (row BA (0 : Int)) 3).bool) ((nth (row BA (0 : Int)) 4).list) ((nth (row BA (0 : Int)) 5).list) ((nth (row BA (0 : Int)) 6).list) ((nth (row BA (0 : Int)) 7).list) ((nth (row BA (0 : Int)) 8).int)).2) (0 : Int)) && true) else ((spec_l02Enum_o7_3 k s sg bg NA NU ME BA ct ((spec_l02Range_v ((nth (row BA (0 : Int)) 0).int) ((nth (row BA (0 : Int)) 1).int) ((nth (row BA (0 : Int)) 2).bool) ((nth (row BA (0 : Int)) 3).bool) ((nth (row BA (0 : Int)) 4).list) ((nth (row BA (0 : Int)) 5).list) ((nth (row BA (0 : Int)) 6).list) ((nth (row BA (0 : Int)) 7).list) ((nth (row BA (0 : Int)) 8).int)).1) ((spec_l02Range_v ((nth (row BA (0 : Int)) 0).int) ((nth (row BA (0 : Int)) 1).int) ((nth (row BA (0 : Int)) 2).bool) ((nth (row BA (0 : Int)) 3).bool) ((nth (row BA (0 : Int)) 4).list) ((nth (row BA (0 : Int)) 5).list) ((nth (row BA (0 : Int)) 6).list) ((nth (row BA (0 : Int)) 7).list) ((nth (row BA (0 : Int)) 8).int)).2) (0 : Int)) && true))))))))))))))))
noncomputable def spec_l02Enum_v (k s : Int) (sg bg : Bool) (NA NU ME BA : List (List TC)) (ct : Int) : Bool := (bif (!(s == (0 : Int))) then false else (bif (!(spec_l02Plain_v k s sg bg NA NU ME BA ct)) then false else (bif (decide ((ME.length : Int) > (0 : Int))) then false else (bif (!(ct == (0 : Int))) then false else (bif (!((BA.length : Int) == (1 : Int))) then false else (bif (!((nth (row BA (0 : Int)) 0).int == (1 : Int))) then false else (bif (!(spec_l02Int_v ((nth (row BA (0 : Int)) 0).int) ((nth (row BA (0 : Int)) 1).int) ((nth (row BA (0 : Int)) 2).bool) ((nth (row BA (0 : Int)) 3).bool) ((nth (row BA (0 : Int)) 4).list) ((nth (row BA (0 : Int)) 5).list) ((nth (row BA (0 : Int)) 6).list) ((nth (row BA (0 : Int)) 7).list) ((nth (row BA (0 : Int)) 8).int))) then false else (bif (decide ((NA.length : Int) < (1 : Int))) then false else (bif (decide ((NA.length : Int) > (6 : Int))) then false else (bif (!((NU.length : Int) == (NA.length : Int))) then false else (bif (spec_l02Enum_k7_1 k s sg bg NA NU ME BA ct ((spec_l02Range_v ((nth (row BA (0 : Int)) 0).int) ((nth (row BA (0 : Int)) 1).int) ((nth (row BA (0 : Int)) 2).bool) ((nth (row BA (0 : Int)) 3).bool) ((nth (row BA (0 : Int)) 4).list) ((nth (row BA (0 : Int)) 5).list) ((nth (row BA (0 : Int)) 6).list) ((nth (row BA (0 : Int)) 7).list) ((nth (row BA (0 : Int)) 8).int)).1) ((spec_l02Range_v ((nth (row BA (0 : Int)) 0).int) ((nth (row BA (0 : Int)) 1).int) ((nth (row BA (0 : Int)) 2).bool) ((nth (row BA (0 : Int)) 3).bool) ((nth (row BA (0 : Int)) 4).list) ((nth (row BA (0 : Int)) 5).list) ((nth (row BA (0 : Int)) 6).list) ((nth (row BA (0 : Int)) 7).list) ((nth (row BA (0 : Int)) 8).int)).2) (0 : Int)) then false else true)))))))))))
theorem spec_l02Enum_l (k s : Int) (sg bg : Bool) (NA NU ME BA : List (List TC)) (ct : Int) : (spec_l02Enum_c k s sg bg NA NU ME BA ct) = true → (spec_l02Enum_t k s sg bg NA NU ME BA ct).val = some (spec_l02Enum_v k s sg bg NA NU ME BA ct) := by
  unfold spec_l02Enum_t spec_l02Enum_v spec_l02Enum_c
  exact fun h => (Tr.ss h (fun h => rfl) (fun h => (Tr.ss h (fun h => rfl) (fun h => (Tr.ss h (fun h => rfl) (fun h => (Tr.ss h (fun h => rfl) (fun h => (Tr.ss h (fun h => rfl) (fun h => (Tr.gs h fun h => (Tr.ss h (fun h => rfl) (fun h => (Tr.gs h fun h => (Tr.ss h (fun h => rfl) (fun h => (Tr.ss h (fun h => rfl) (fun h => (Tr.ss h (fun h => rfl) (fun h => (Tr.ss h (fun h => rfl) (fun h => (Tr.gs h fun h => (Tr.gb h fun h => (Tr.ss h (fun h => (Tr.gb h fun h => rfl)) (fun h => (Tr.gb h fun h => rfl)))))))))))))))))))))))))))
noncomputable def spec_l02Enum_S : List Arg → Option (Bool × Res) := fun xs => match xs with
  | [(true, [(.int .i64, TC.i k), (.int .i64, TC.i s), (.bool, TC.b sg), (.bool, TC.b bg), (.slice 9, TC.l NA), (.slice 2, TC.l NU), (.slice 77, TC.l ME), (.slice 32, TC.l BA), (.int .i64, TC.i ct)])] => some ((spec_l02Enum_c k s sg bg NA NU ME BA ct), spec_l02Enum_mk (spec_l02Enum_v k s sg bg NA NU ME BA ct))
  | _ => .none
theorem spec_l02Enum_e (k s : Int) (sg bg : Bool) (NA NU ME BA : List (List TC)) (ct : Int) : runF tab FT D22 live 72 spec_l02Enum_lo [(true, [(.int .i64, TC.i k), (.int .i64, TC.i s), (.bool, TC.b sg), (.bool, TC.b bg), (.slice 9, TC.l NA), (.slice 2, TC.l NU), (.slice 77, TC.l ME), (.slice 32, TC.l BA), (.int .i64, TC.i ct)])] = (spec_l02Enum_t k s sg bg NA NU ME BA ct).run fun p => some (spec_l02Enum_mk p) := by kernel_rfl
theorem spec_l02Enum_s : ∀ xs r, spec_l02Enum_S xs = some (true, r) → runF tab FT D22 live 72 spec_l02Enum_lo xs = some r := by
  intro xs r h
  unfold spec_l02Enum_S at h
  split at h
  · simp only [Option.some.injEq, Prod.mk.injEq] at h
    obtain ⟨h1, rfl⟩ := h
    exact fun_told (spec_l02Enum_e _ _ _ _ _ _ _ _ _) (spec_l02Enum_l _ _ _ _ _ _ _ _ _) h1
  · cases h
noncomputable def D23 : Dt := also D22 72 spec_l02Enum_S
theorem d23 : DOk Go.Proofs.Try.prog tab D23 := d22.also mixed_ok tab_ok names_ok (fnLoops_two (by kernel_rfl) spec_l02Enum_is7 spec_l02Enum_is12) spec_l02Enum_s
theorem spec_l02Enum_cc {k : Int} {s : Int} {sg : Bool} {bg : Bool} {NA : List (List TC)} {NU : List (List TC)} {ME : List (List TC)} {BA : List (List TC)} {ct : Int} (t4 : Typed tab (.slice 9) (.l NA)) : (spec_l02Enum_c k s sg bg NA NU ME BA ct) = true := by
  unfold spec_l02Enum_c
  refine bifT (fun b1 => ?_) (fun b1 => ?_)
  · skip
    rfl
  · skip
    refine bifT (fun b2 => ?_) (fun b2 => ?_)
    · skip
      rfl
    · skip
      refine bifT (fun b3 => ?_) (fun b3 => ?_)
      · skip
        rfl
      · skip
        refine bifT (fun b4 => ?_) (fun b4 => ?_)
        · skip
          rfl
        · skip
          refine bifT (fun b5 => ?_) (fun b5 => ?_)
          · skip
            rfl
          · skip
            refine andT (is_true (by have e5 := bneF b5; omega)) ?_
            refine bifT (fun b6 => ?_) (fun b6 => ?_)
            · skip
              rfl
            · skip
              refine andT (is_true (by have e5 := bneF b5; omega)) ?_
              refine bifT (fun b7 => ?_) (fun b7 => ?_)
              · skip
                rfl
              · skip
                refine bifT (fun b8 => ?_) (fun b8 => ?_)
                · skip
                  rfl
                · skip
                  refine bifT (fun b9 => ?_) (fun b9 => ?_)
                  · skip
                    rfl
                  · skip
                    refine bifT (fun b10 => ?_) (fun b10 => ?_)
                    · skip
                      rfl
                    · skip
                      refine andT (is_true (by have e5 := bneF b5; omega)) ?_
                      refine andT (by exact spec_l02Range_cc) ?_
                      refine bifT (fun b11 => ?_) (fun b11 => ?_)
                      · skip
                        refine andT (by have e5 := bneF b5; have e10 := bneF b10; exact is_true ⟨rfl, t4, by omega⟩) ?_
                        rfl
                      · skip
                        refine andT (by have e5 := bneF b5; have e10 := bneF b10; exact is_true ⟨rfl, t4, by omega⟩) ?_
                        rfl
theorem range_lo {k s : Int} {sg bg : Bool} {NA NU ME BA : List (List TC)} {ct : Int} (h : intV s sg bg NA NU ME BA ct = true) : (spec_l02Range_v k s sg bg NA NU ME BA ct).1 = loV s sg ∧ (spec_l02Range_v k s sg bg NA NU ME BA ct).2 = hiV s sg := by
  unfold intV has4 at h
  simp only [Bool.and_eq_true, Bool.or_eq_true, beq_iff_eq] at h
  have hs := h.1.1.1
  have h8 := h.1.1.2
  rcases hs with ((rfl | rfl) | rfl) | rfl <;> cases sg <;> first | (exact ⟨by unfold spec_l02Range_v loV; decide, by unfold spec_l02Range_v hiV; decide⟩) | (exact absurd h8 (by decide))
theorem spec_l02Enum_vv (k s : Int) (sg bg : Bool) (NA NU ME BA : List (List TC)) (ct : Int) : spec_l02Enum_v k s sg bg NA NU ME BA ct = enumV s sg bg NA NU ME BA ct := by
  unfold spec_l02Enum_v enumV
  rw [show spec_l02Plain_v k s sg bg NA NU ME BA ct = plain sg bg from by unfold spec_l02Plain_v plain; cases sg <;> cases bg <;> rfl, show spec_l02Int_v (nth (row BA (0 : Int)) 0).int (nth (row BA (0 : Int)) 1).int (nth (row BA (0 : Int)) 2).bool (nth (row BA (0 : Int)) 3).bool (nth (row BA (0 : Int)) 4).list (nth (row BA (0 : Int)) 5).list (nth (row BA (0 : Int)) 6).list (nth (row BA (0 : Int)) 7).list (nth (row BA (0 : Int)) 8).int = intV (nth (row BA (0 : Int)) 1).int (nth (row BA (0 : Int)) 2).bool (nth (row BA (0 : Int)) 3).bool (nth (row BA (0 : Int)) 4).list (nth (row BA (0 : Int)) 5).list (nth (row BA (0 : Int)) 6).list (nth (row BA (0 : Int)) 7).list (nth (row BA (0 : Int)) 8).int from rfl]
  cases hI : intV (nth (row BA (0 : Int)) 1).int (nth (row BA (0 : Int)) 2).bool (nth (row BA (0 : Int)) 3).bool (nth (row BA (0 : Int)) 4).list (nth (row BA (0 : Int)) 5).list (nth (row BA (0 : Int)) 6).list (nth (row BA (0 : Int)) 7).list (nth (row BA (0 : Int)) 8).int with
  | false => simp only [bif_nf, bif_tf, bif_ft, Bool.not_not, Bool.false_and, Bool.and_false]
  | true =>
    rw [show ∀ lo hi, spec_l02Enum_k7_1 k s sg bg NA NU ME BA ct lo hi 0 = !(allI (fun i : Nat => enumP NA NU lo hi (i : Int)) NA.length) from fun lo hi => by unfold spec_l02Enum_k7_1; rw [spec_l02Enum_R7_eq]; generalize allI _ _ = q; cases q <;> rfl]
    rw [(range_lo (k := (nth (row BA (0 : Int)) 0).int) hI).1, (range_lo (k := (nth (row BA (0 : Int)) 0).int) hI).2]
    simp only [bif_nf, bif_tf, bif_ft, Bool.not_not, Bool.and_true]
/-! spec_l02Ok calls itself -/
section
class spec_l02Ok_O where n : Nat
variable [i_spec_l02Ok : spec_l02Ok_O]
noncomputable def spec_l02Ok_rc (k s : Int) (sg bg : Bool) (NA NU ME BA : List (List TC)) (ct : Int) : Bool := is (max (rowsDep ME) (rowsDep BA) < spec_l02Ok_O.n ∧ max (rowsDep ME) (rowsDep BA) < spec_l02Size_O.n ∧ max (rowsDep ME) (rowsDep BA) < spec_l02Depth_O.n ∧ Typed tab (.slice 9) (.l NA) ∧ Typed tab (.slice 2) (.l NU) ∧ Typed tab (.slice 77) (.l ME) ∧ Typed tab (.slice 32) (.l BA))
noncomputable def spec_l02Ok_rv (k s : Int) (sg bg : Bool) (NA NU ME BA : List (List TC)) (ct : Int) : Bool := okV k s sg bg NA NU ME BA ct
def spec_l02Ok_rmk (p : Bool) : Res := [(false, [⟨.bool, .sh, TC.b p⟩])]
noncomputable def spec_l02Ok_rS : List Arg → Option (Bool × Res) := fun xs => match xs with
  | [(true, [(.int .i64, TC.i k), (.int .i64, TC.i s), (.bool, TC.b sg), (.bool, TC.b bg), (.slice 9, TC.l NA), (.slice 2, TC.l NU), (.slice 77, TC.l ME), (.slice 32, TC.l BA), (.int .i64, TC.i ct)])] => some ((spec_l02Ok_rc k s sg bg NA NU ME BA ct), spec_l02Ok_rmk (spec_l02Ok_rv k s sg bg NA NU ME BA ct))
  | _ => .none
noncomputable def D24 : Dt := also D23 33 spec_l02Ok_rS
class spec_l02Ok_G : Prop where ok : DOk Go.Proofs.Try.prog tab D24
variable [g_spec_l02Ok : spec_l02Ok_G]
theorem d24 : DOk Go.Proofs.Try.prog tab D24 := spec_l02Ok_G.ok
/-! spec_l02Compound -/
noncomputable def spec_l02Compound_f13 (k s : Int) (sg bg : Bool) (NA NU ME BA : List (List TC)) (ct en ix : Int) (mn : List UInt8) (mo mk ms : Int) (msg mbg : Bool) (mNA mNU mME mBA : List (List TC)) (mct q : Int) : (Unit) ⊕ ((Int × Int × Bool × Bool × List (List TC) × List (List TC) × List (List TC) × List (List TC) × Int × Int × Int × List UInt8 × Int × Int × Int × Bool × Bool × List (List TC) × List (List TC) × List (List TC) × List (List TC) × Int) ⊕ (Int × Int × Bool × Bool × List (List TC) × List (List TC) × List (List TC) × List (List TC) × Int × Int × Int × List UInt8 × Int × Int × Int × Bool × Bool × List (List TC) × List (List TC) × List (List TC) × List (List TC) × Int)) := (bif ((nth (row ME q) 0).str == mn) then (.inr (.inl (k, s, sg, bg, NA, NU, ME, BA, ct, en, ix, mn, mo, mk, ms, msg, mbg, mNA, mNU, mME, mBA, mct))) else (.inl ()))
noncomputable def spec_l02Compound_e13 (k s : Int) (sg bg : Bool) (NA NU ME BA : List (List TC)) (ct en ix : Int) (mn : List UInt8) (mo mk ms : Int) (msg mbg : Bool) (mNA mNU mME mBA : List (List TC)) (mct : Int) : (Int × Int × Bool × Bool × List (List TC) × List (List TC) × List (List TC) × List (List TC) × Int × Int × Int × List UInt8 × Int × Int × Int × Bool × Bool × List (List TC) × List (List TC) × List (List TC) × List (List TC) × Int) ⊕ (Int × Int × Bool × Bool × List (List TC) × List (List TC) × List (List TC) × List (List TC) × Int × Int × Int × List UInt8 × Int × Int × Int × Bool × Bool × List (List TC) × List (List TC) × List (List TC) × List (List TC) × Int) := .inr (k, s, sg, bg, NA, NU, ME, BA, ct, en, ix, mn, mo, mk, ms, msg, mbg, mNA, mNU, mME, mBA, mct)
noncomputable def spec_l02Compound_R13 (k s : Int) (sg bg : Bool) (NA NU ME BA : List (List TC)) (ct en ix : Int) (mn : List UInt8) (mo mk ms : Int) (msg mbg : Bool) (mNA mNU mME mBA : List (List TC)) (mct q : Int) : (Int × Int × Bool × Bool × List (List TC) × List (List TC) × List (List TC) × List (List TC) × Int × Int × Int × List UInt8 × Int × Int × Int × Bool × Bool × List (List TC) × List (List TC) × List (List TC) × List (List TC) × Int) ⊕ (Int × Int × Bool × Bool × List (List TC) × List (List TC) × List (List TC) × List (List TC) × Int × Int × Int × List UInt8 × Int × Int × Int × Bool × Bool × List (List TC) × List (List TC) × List (List TC) × List (List TC) × Int) := iter (fun i a => (spec_l02Compound_f13 k s sg bg NA NU ME BA ct en ix mn mo mk ms msg mbg mNA mNU mME mBA mct (i : Int))) (fun a => (spec_l02Compound_e13 k s sg bg NA NU ME BA ct en ix mn mo mk ms msg mbg mNA mNU mME mBA mct)) (ix.toNat) 0 ()
abbrev spec_l02Compound_13_σ := Int × Int × Bool × Bool × List (List TC) × List (List TC) × List (List TC) × List (List TC) × Int × Int × Int × List UInt8 × Int × Int × Int × Bool × Bool × List (List TC) × List (List TC) × List (List TC) × List (List TC) × Int × Int
abbrev spec_l02Compound_13_ω := (Int × Int × Bool × Bool × List (List TC) × List (List TC) × List (List TC) × List (List TC) × Int × Int × Int × List UInt8 × Int × Int × Int × Bool × Bool × List (List TC) × List (List TC) × List (List TC) × List (List TC) × Int) ⊕ (Int × Int × Bool × Bool × List (List TC) × List (List TC) × List (List TC) × List (List TC) × Int × Int × Int × List UInt8 × Int × Int × Int × Bool × Bool × List (List TC) × List (List TC) × List (List TC) × List (List TC) × Int)
noncomputable def spec_l02Compound_13_step (k s : Int) (sg bg : Bool) (NA NU ME BA : List (List TC)) (ct en ix : Int) (mn : List UInt8) (mo mk ms : Int) (msg mbg : Bool) (mNA mNU mME mBA : List (List TC)) (mct q : Int) : Tr (spec_l02Compound_13_σ ⊕ spec_l02Compound_13_ω) := (.ite ((decide (q < ix)) = true) (.ite ((0 : Int) ≤ q ∧ q < (ME.length : Int)) (.ite (((nth (row ME q) 0).str == mn) = true) (.ok (.inr (.inl (k, s, sg, bg, NA, NU, ME, BA, ct, en, ix, mn, mo, mk, ms, msg, mbg, mNA, mNU, mME, mBA, mct))))
    (.ok (.inl (k, s, sg, bg, NA, NU, ME, BA, ct, en, ix, mn, mo, mk, ms, msg, mbg, mNA, mNU, mME, mBA, mct, (IntKind.wrap .i64 (q + (1 : Int)))))))
   .no)
  (.ok (.inr (.inr (k, s, sg, bg, NA, NU, ME, BA, ct, en, ix, mn, mo, mk, ms, msg, mbg, mNA, mNU, mME, mBA, mct)))))
noncomputable def spec_l02Compound_13_st : spec_l02Compound_13_σ → Tr (spec_l02Compound_13_σ ⊕ spec_l02Compound_13_ω) := fun x => (spec_l02Compound_13_step (x.1) (x.2.1) (x.2.2.1) (x.2.2.2.1) (x.2.2.2.2.1) (x.2.2.2.2.2.1) (x.2.2.2.2.2.2.1) (x.2.2.2.2.2.2.2.1) (x.2.2.2.2.2.2.2.2.1) (x.2.2.2.2.2.2.2.2.2.1) (x.2.2.2.2.2.2.2.2.2.2.1) (x.2.2.2.2.2.2.2.2.2.2.2.1) (x.2.2.2.2.2.2.2.2.2.2.2.2.1) (x.2.2.2.2.2.2.2.2.2.2.2.2.2.1) (x.2.2.2.2.2.2.2.2.2.2.2.2.2.2.1) (x.2.2.2.2.2.2.2.2.2.2.2.2.2.2.2.1) (x.2.2.2.2.2.2.2.2.2.2.2.2.2.2.2.2.1) (x.2.2.2.2.2.2.2.2.2.2.2.2.2.2.2.2.2.1) (x.2.2.2.2.2.2.2.2.2.2.2.2.2.2.2.2.2.2.1) (x.2.2.2.2.2.2.2.2.2.2.2.2.2.2.2.2.2.2.2.1) (x.2.2.2.2.2.2.2.2.2.2.2.2.2.2.2.2.2.2.2.2.1) (x.2.2.2.2.2.2.2.2.2.2.2.2.2.2.2.2.2.2.2.2.2.1) (x.2.2.2.2.2.2.2.2.2.2.2.2.2.2.2.2.2.2.2.2.2.2))
noncomputable def spec_l02Compound_k13_1 (k s : Int) (sg bg : Bool) (NA NU ME BA : List (List TC)) (ct en ix : Int) (mn : List UInt8) (mo mk ms : Int) (msg mbg : Bool) (mNA mNU mME mBA : List (List TC)) (mct q : Int) : Bool := sumIs (spec_l02Compound_R13 k s sg bg NA NU ME BA ct en ix mn mo mk ms msg mbg mNA mNU mME mBA mct q)
noncomputable def spec_l02Compound_o13_2 (k s : Int) (sg bg : Bool) (NA NU ME BA : List (List TC)) (ct en ix : Int) (mn : List UInt8) (mo mk ms : Int) (msg mbg : Bool) (mNA mNU mME mBA : List (List TC)) (mct q : Int) : Bool := is (q = 0 ∧ 0 ≤ ix ∧ ix < (ME.length : Int) ∧ ME.length ≤ 140737488355328)
noncomputable def spec_l02Compound_o13_3 (k s : Int) (sg bg : Bool) (NA NU ME BA : List (List TC)) (ct en ix : Int) (mn : List UInt8) (mo mk ms : Int) (msg mbg : Bool) (mNA mNU mME mBA : List (List TC)) (mct q : Int) : Bool := is (q = 0 ∧ 0 ≤ ix ∧ ix < (ME.length : Int) ∧ ME.length ≤ 140737488355328)
noncomputable def spec_l02Compound_13_fin (k s : Int) (sg bg : Bool) (NA NU ME BA : List (List TC)) (ct en ix : Int) (mn : List UInt8) (mo mk ms : Int) (msg mbg : Bool) (mNA mNU mME mBA : List (List TC)) (mct q : Int) : Told spec_l02Compound_13_ω := (.br (spec_l02Compound_k13_1 k s sg bg NA NU ME BA ct en ix mn mo mk ms msg mbg mNA mNU mME mBA mct q) (.leaf (spec_l02Compound_o13_2 k s sg bg NA NU ME BA ct en ix mn mo mk ms msg mbg mNA mNU mME mBA mct q) (.inl (k, s, sg, bg, NA, NU, ME, BA, ct, en, ix, mn, mo, mk, ms, msg, mbg, mNA, mNU, mME, mBA, mct))) (.leaf (spec_l02Compound_o13_3 k s sg bg NA NU ME BA ct en ix mn mo mk ms msg mbg mNA mNU mME mBA mct q) (.inr (k, s, sg, bg, NA, NU, ME, BA, ct, en, ix, mn, mo, mk, ms, msg, mbg, mNA, mNU, mME, mBA, mct))))
def spec_l02Compound_13_sl : spec_l02Compound_13_σ → List Slot := fun x => match x with | (k, s, sg, bg, NA, NU, ME, BA, ct, en, ix, mn, mo, mk, ms, msg, mbg, mNA, mNU, mME, mBA, mct, q) => [⟨.bx 32 [⟨.int .i64, .sh, TC.i k⟩, ⟨.int .i64, .sh, TC.i s⟩, ⟨.bool, .sh, TC.b sg⟩, ⟨.bool, .sh, TC.b bg⟩, ⟨.slice 9, .sh, TC.l NA⟩, ⟨.slice 2, .sh, TC.l NU⟩, ⟨.slice 77, .sh, TC.l ME⟩, ⟨.slice 32, .sh, TC.l BA⟩, ⟨.int .i64, .sh, TC.i ct⟩], ⟨0, 0⟩⟩, ⟨.val false [⟨.int .i64, .sh, TC.i en⟩], ⟨0, 0⟩⟩, ⟨.val false [⟨.int .i64, .sh, TC.i ix⟩], ⟨0, 0⟩⟩, ⟨.bx 77 [⟨.str, .sh, TC.s mn⟩, ⟨.int .i64, .sh, TC.i mo⟩, ⟨.int .i64, .sh, TC.i mk⟩, ⟨.int .i64, .sh, TC.i ms⟩, ⟨.bool, .sh, TC.b msg⟩, ⟨.bool, .sh, TC.b mbg⟩, ⟨.slice 9, .sh, TC.l mNA⟩, ⟨.slice 2, .sh, TC.l mNU⟩, ⟨.slice 77, .sh, TC.l mME⟩, ⟨.slice 32, .sh, TC.l mBA⟩, ⟨.int .i64, .sh, TC.i mct⟩], ⟨0, 0⟩⟩, ⟨.val false [⟨.int .i64, .sh, TC.i q⟩], ⟨0, 0⟩⟩]
def spec_l02Compound_13_out : spec_l02Compound_13_ω → Ex × List Slot := (Sum.elim (fun x => (.ret, [⟨.bx 32 [⟨.int .i64, .sh, TC.i (x.1)⟩, ⟨.int .i64, .sh, TC.i (x.2.1)⟩, ⟨.bool, .sh, TC.b (x.2.2.1)⟩, ⟨.bool, .sh, TC.b (x.2.2.2.1)⟩, ⟨.slice 9, .sh, TC.l (x.2.2.2.2.1)⟩, ⟨.slice 2, .sh, TC.l (x.2.2.2.2.2.1)⟩, ⟨.slice 77, .sh, TC.l (x.2.2.2.2.2.2.1)⟩, ⟨.slice 32, .sh, TC.l (x.2.2.2.2.2.2.2.1)⟩, ⟨.int .i64, .sh, TC.i (x.2.2.2.2.2.2.2.2.1)⟩], ⟨0, 0⟩⟩, ⟨.val false [⟨.bool, .sh, TC.b false⟩], ⟨0, 0⟩⟩, ⟨.val false [⟨.int .i64, .sh, TC.i (x.2.2.2.2.2.2.2.2.2.1)⟩], ⟨0, 0⟩⟩, ⟨.val false [⟨.int .i64, .sh, TC.i (x.2.2.2.2.2.2.2.2.2.2.1)⟩], ⟨0, 0⟩⟩, ⟨.bx 77 [⟨.str, .sh, TC.s (x.2.2.2.2.2.2.2.2.2.2.2.1)⟩, ⟨.int .i64, .sh, TC.i (x.2.2.2.2.2.2.2.2.2.2.2.2.1)⟩, ⟨.int .i64, .sh, TC.i (x.2.2.2.2.2.2.2.2.2.2.2.2.2.1)⟩, ⟨.int .i64, .sh, TC.i (x.2.2.2.2.2.2.2.2.2.2.2.2.2.2.1)⟩, ⟨.bool, .sh, TC.b (x.2.2.2.2.2.2.2.2.2.2.2.2.2.2.2.1)⟩, ⟨.bool, .sh, TC.b (x.2.2.2.2.2.2.2.2.2.2.2.2.2.2.2.2.1)⟩, ⟨.slice 9, .sh, TC.l (x.2.2.2.2.2.2.2.2.2.2.2.2.2.2.2.2.2.1)⟩, ⟨.slice 2, .sh, TC.l (x.2.2.2.2.2.2.2.2.2.2.2.2.2.2.2.2.2.2.1)⟩, ⟨.slice 77, .sh, TC.l (x.2.2.2.2.2.2.2.2.2.2.2.2.2.2.2.2.2.2.2.1)⟩, ⟨.slice 32, .sh, TC.l (x.2.2.2.2.2.2.2.2.2.2.2.2.2.2.2.2.2.2.2.2.1)⟩, ⟨.int .i64, .sh, TC.i (x.2.2.2.2.2.2.2.2.2.2.2.2.2.2.2.2.2.2.2.2.2)⟩], ⟨0, 0⟩⟩])) (fun x => (.exit 2, [⟨.bx 32 [⟨.int .i64, .sh, TC.i (x.1)⟩, ⟨.int .i64, .sh, TC.i (x.2.1)⟩, ⟨.bool, .sh, TC.b (x.2.2.1)⟩, ⟨.bool, .sh, TC.b (x.2.2.2.1)⟩, ⟨.slice 9, .sh, TC.l (x.2.2.2.2.1)⟩, ⟨.slice 2, .sh, TC.l (x.2.2.2.2.2.1)⟩, ⟨.slice 77, .sh, TC.l (x.2.2.2.2.2.2.1)⟩, ⟨.slice 32, .sh, TC.l (x.2.2.2.2.2.2.2.1)⟩, ⟨.int .i64, .sh, TC.i (x.2.2.2.2.2.2.2.2.1)⟩], ⟨0, 0⟩⟩, Slot.none, ⟨.val false [⟨.int .i64, .sh, TC.i (x.2.2.2.2.2.2.2.2.2.1)⟩], ⟨0, 0⟩⟩, ⟨.val false [⟨.int .i64, .sh, TC.i (x.2.2.2.2.2.2.2.2.2.2.1)⟩], ⟨0, 0⟩⟩, ⟨.bx 77 [⟨.str, .sh, TC.s (x.2.2.2.2.2.2.2.2.2.2.2.1)⟩, ⟨.int .i64, .sh, TC.i (x.2.2.2.2.2.2.2.2.2.2.2.2.1)⟩, ⟨.int .i64, .sh, TC.i (x.2.2.2.2.2.2.2.2.2.2.2.2.2.1)⟩, ⟨.int .i64, .sh, TC.i (x.2.2.2.2.2.2.2.2.2.2.2.2.2.2.1)⟩, ⟨.bool, .sh, TC.b (x.2.2.2.2.2.2.2.2.2.2.2.2.2.2.2.1)⟩, ⟨.bool, .sh, TC.b (x.2.2.2.2.2.2.2.2.2.2.2.2.2.2.2.2.1)⟩, ⟨.slice 9, .sh, TC.l (x.2.2.2.2.2.2.2.2.2.2.2.2.2.2.2.2.2.1)⟩, ⟨.slice 2, .sh, TC.l (x.2.2.2.2.2.2.2.2.2.2.2.2.2.2.2.2.2.2.1)⟩, ⟨.slice 77, .sh, TC.l (x.2.2.2.2.2.2.2.2.2.2.2.2.2.2.2.2.2.2.2.1)⟩, ⟨.slice 32, .sh, TC.l (x.2.2.2.2.2.2.2.2.2.2.2.2.2.2.2.2.2.2.2.2.1)⟩, ⟨.int .i64, .sh, TC.i (x.2.2.2.2.2.2.2.2.2.2.2.2.2.2.2.2.2.2.2.2.2)⟩], ⟨0, 0⟩⟩])))
noncomputable def spec_l02Compound_lo13 : List Slot → Option (Told (Ex × List Slot)) := fun s => match s with
  | [⟨.bx 32 [⟨.int .i64, .sh, TC.i k⟩, ⟨.int .i64, .sh, TC.i s⟩, ⟨.bool, .sh, TC.b sg⟩, ⟨.bool, .sh, TC.b bg⟩, ⟨.slice 9, .sh, TC.l NA⟩, ⟨.slice 2, .sh, TC.l NU⟩, ⟨.slice 77, .sh, TC.l ME⟩, ⟨.slice 32, .sh, TC.l BA⟩, ⟨.int .i64, .sh, TC.i ct⟩], ⟨0, 0⟩⟩, ⟨.val false [⟨.int .i64, .sh, TC.i en⟩], ⟨0, 0⟩⟩, ⟨.val false [⟨.int .i64, .sh, TC.i ix⟩], ⟨0, 0⟩⟩, ⟨.bx 77 [⟨.str, .sh, TC.s mn⟩, ⟨.int .i64, .sh, TC.i mo⟩, ⟨.int .i64, .sh, TC.i mk⟩, ⟨.int .i64, .sh, TC.i ms⟩, ⟨.bool, .sh, TC.b msg⟩, ⟨.bool, .sh, TC.b mbg⟩, ⟨.slice 9, .sh, TC.l mNA⟩, ⟨.slice 2, .sh, TC.l mNU⟩, ⟨.slice 77, .sh, TC.l mME⟩, ⟨.slice 32, .sh, TC.l mBA⟩, ⟨.int .i64, .sh, TC.i mct⟩], ⟨0, 0⟩⟩, ⟨.val false [⟨.int .i64, .sh, TC.i q⟩], ⟨0, 0⟩⟩] => some (((spec_l02Compound_13_fin k s sg bg NA NU ME BA ct en ix mn mo mk ms msg mbg mNA mNU mME mBA mct q)).map spec_l02Compound_13_out)
  | _ => .none
noncomputable def spec_l02Compound_f7 (k s : Int) (sg bg : Bool) (NA NU ME BA : List (List TC)) (ct i en : Int) : (Int) ⊕ ((Int × Int × Bool × Bool × List (List TC) × List (List TC) × List (List TC) × List (List TC) × Int × Int) ⊕ (Int × Int × Bool × Bool × List (List TC) × List (List TC) × List (List TC) × List (List TC) × Int × Int)) := (bif (!(spec_IsName_v ((nth (row ME i) 0).str))) then (.inr (.inl (k, s, sg, bg, NA, NU, ME, BA, ct, en))) else (bif (decide ((nth (row ME i) 1).int < en)) then (.inr (.inl (k, s, sg, bg, NA, NU, ME, BA, ct, en))) else (bif (decide ((nth (row ME i) 1).int > (24 : Int))) then (.inr (.inl (k, s, sg, bg, NA, NU, ME, BA, ct, en))) else (bif (!(spec_l02Ok_rv ((nth (row ME i) 2).int) ((nth (row ME i) 3).int) ((nth (row ME i) 4).bool) ((nth (row ME i) 5).bool) ((nth (row ME i) 6).list) ((nth (row ME i) 7).list) ((nth (row ME i) 8).list) ((nth (row ME i) 9).list) ((nth (row ME i) 10).int))) then (.inr (.inl (k, s, sg, bg, NA, NU, ME, BA, ct, en))) else (bif (spec_l02Compound_k13_1 k s sg bg NA NU ME BA ct en i ((nth (row ME i) 0).str) ((nth (row ME i) 1).int) ((nth (row ME i) 2).int) ((nth (row ME i) 3).int) ((nth (row ME i) 4).bool) ((nth (row ME i) 5).bool) ((nth (row ME i) 6).list) ((nth (row ME i) 7).list) ((nth (row ME i) 8).list) ((nth (row ME i) 9).list) ((nth (row ME i) 10).int) (0 : Int)) then (.inr (.inl (k, s, sg, bg, NA, NU, ME, BA, ct, en))) else (.inl (IntKind.wrap .i64 ((nth (row ME i) 1).int + (spec_l02Size_rv ((nth (row ME i) 2).int) ((nth (row ME i) 3).int) ((nth (row ME i) 4).bool) ((nth (row ME i) 5).bool) ((nth (row ME i) 6).list) ((nth (row ME i) 7).list) ((nth (row ME i) 8).list) ((nth (row ME i) 9).list) ((nth (row ME i) 10).int))))))))))
noncomputable def spec_l02Compound_e7 (k s : Int) (sg bg : Bool) (NA NU ME BA : List (List TC)) (ct en : Int) : (Int × Int × Bool × Bool × List (List TC) × List (List TC) × List (List TC) × List (List TC) × Int × Int) ⊕ (Int × Int × Bool × Bool × List (List TC) × List (List TC) × List (List TC) × List (List TC) × Int × Int) := .inr (k, s, sg, bg, NA, NU, ME, BA, ct, en)
noncomputable def spec_l02Compound_R7 (k s : Int) (sg bg : Bool) (NA NU ME BA : List (List TC)) (ct en i : Int) : (Int × Int × Bool × Bool × List (List TC) × List (List TC) × List (List TC) × List (List TC) × Int × Int) ⊕ (Int × Int × Bool × Bool × List (List TC) × List (List TC) × List (List TC) × List (List TC) × Int × Int) := iter (fun i a => (spec_l02Compound_f7 k s sg bg NA NU ME BA ct (i : Int) a)) (fun a => (spec_l02Compound_e7 k s sg bg NA NU ME BA ct a)) (ME.length) 0 en
abbrev spec_l02Compound_7_σ := Int × Int × Bool × Bool × List (List TC) × List (List TC) × List (List TC) × List (List TC) × Int × Int × Int
abbrev spec_l02Compound_7_ω := (Int × Int × Bool × Bool × List (List TC) × List (List TC) × List (List TC) × List (List TC) × Int × Int) ⊕ (Int × Int × Bool × Bool × List (List TC) × List (List TC) × List (List TC) × List (List TC) × Int × Int)
noncomputable def spec_l02Compound_7_step (k s : Int) (sg bg : Bool) (NA NU ME BA : List (List TC)) (ct en i : Int) : Tr (spec_l02Compound_7_σ ⊕ spec_l02Compound_7_ω) := (.ite ((decide (i < (ME.length : Int))) = true) (.ite ((0 : Int) ≤ i ∧ i < (ME.length : Int)) (.ite ((spec_IsName_c ((nth (row ME i) 0).str)) = true) (.ite ((!(spec_IsName_v ((nth (row ME i) 0).str))) = true) (.ok (.inr (.inl (k, s, sg, bg, NA, NU, ME, BA, ct, en))))
     (.ite ((decide ((nth (row ME i) 1).int < en)) = true) (.ok (.inr (.inl (k, s, sg, bg, NA, NU, ME, BA, ct, en))))
      (.ite ((decide ((nth (row ME i) 1).int > (24 : Int))) = true) (.ok (.inr (.inl (k, s, sg, bg, NA, NU, ME, BA, ct, en))))
       (.ite ((spec_l02Ok_rc ((nth (row ME i) 2).int) ((nth (row ME i) 3).int) ((nth (row ME i) 4).bool) ((nth (row ME i) 5).bool) ((nth (row ME i) 6).list) ((nth (row ME i) 7).list) ((nth (row ME i) 8).list) ((nth (row ME i) 9).list) ((nth (row ME i) 10).int)) = true) (.ite ((!(spec_l02Ok_rv ((nth (row ME i) 2).int) ((nth (row ME i) 3).int) ((nth (row ME i) 4).bool) ((nth (row ME i) 5).bool) ((nth (row ME i) 6).list) ((nth (row ME i) 7).list) ((nth (row ME i) 8).list) ((nth (row ME i) 9).list) ((nth (row ME i) 10).int))) = true) (.ok (.inr (.inl (k, s, sg, bg, NA, NU, ME, BA, ct, en))))
         (.ite ((spec_l02Compound_k13_1 k s sg bg NA NU ME BA ct en i ((nth (row ME i) 0).str) ((nth (row ME i) 1).int) ((nth (row ME i) 2).int) ((nth (row ME i) 3).int) ((nth (row ME i) 4).bool) ((nth (row ME i) 5).bool) ((nth (row ME i) 6).list) ((nth (row ME i) 7).list) ((nth (row ME i) 8).list) ((nth (row ME i) 9).list) ((nth (row ME i) 10).int) (0 : Int)) = true) (.ite ((spec_l02Compound_o13_2 k s sg bg NA NU ME BA ct en i ((nth (row ME i) 0).str) ((nth (row ME i) 1).int) ((nth (row ME i) 2).int) ((nth (row ME i) 3).int) ((nth (row ME i) 4).bool) ((nth (row ME i) 5).bool) ((nth (row ME i) 6).list) ((nth (row ME i) 7).list) ((nth (row ME i) 8).list) ((nth (row ME i) 9).list) ((nth (row ME i) 10).int) (0 : Int)) = true) (.ok (.inr (.inl (k, s, sg, bg, NA, NU, ME, BA, ct, en))))
           .no)
          (.ite ((spec_l02Compound_o13_3 k s sg bg NA NU ME BA ct en i ((nth (row ME i) 0).str) ((nth (row ME i) 1).int) ((nth (row ME i) 2).int) ((nth (row ME i) 3).int) ((nth (row ME i) 4).bool) ((nth (row ME i) 5).bool) ((nth (row ME i) 6).list) ((nth (row ME i) 7).list) ((nth (row ME i) 8).list) ((nth (row ME i) 9).list) ((nth (row ME i) 10).int) (0 : Int)) = true) (.ite ((spec_l02Size_rc ((nth (row ME i) 2).int) ((nth (row ME i) 3).int) ((nth (row ME i) 4).bool) ((nth (row ME i) 5).bool) ((nth (row ME i) 6).list) ((nth (row ME i) 7).list) ((nth (row ME i) 8).list) ((nth (row ME i) 9).list) ((nth (row ME i) 10).int)) = true) (.ok (.inl (k, s, sg, bg, NA, NU, ME, BA, ct, (IntKind.wrap .i64 ((nth (row ME i) 1).int + (spec_l02Size_rv ((nth (row ME i) 2).int) ((nth (row ME i) 3).int) ((nth (row ME i) 4).bool) ((nth (row ME i) 5).bool) ((nth (row ME i) 6).list) ((nth (row ME i) 7).list) ((nth (row ME i) 8).list) ((nth (row ME i) 9).list) ((nth (row ME i) 10).int)))), (IntKind.wrap .i64 (i + (1 : Int))))))
            .no)
           .no)))
        .no))))
    .no)
   .no)
  (.ok (.inr (.inr (k, s, sg, bg, NA, NU, ME, BA, ct, en)))))
noncomputable def spec_l02Compound_7_st : spec_l02Compound_7_σ → Tr (spec_l02Compound_7_σ ⊕ spec_l02Compound_7_ω) := fun x => (spec_l02Compound_7_step (x.1) (x.2.1) (x.2.2.1) (x.2.2.2.1) (x.2.2.2.2.1) (x.2.2.2.2.2.1) (x.2.2.2.2.2.2.1) (x.2.2.2.2.2.2.2.1) (x.2.2.2.2.2.2.2.2.1) (x.2.2.2.2.2.2.2.2.2.1) (x.2.2.2.2.2.2.2.2.2.2))
noncomputable def spec_l02Compound_k7_1 (k s : Int) (sg bg : Bool) (NA NU ME BA : List (List TC)) (ct en i : Int) : Bool := sumIs (spec_l02Compound_R7 k s sg bg NA NU ME BA ct en i)
noncomputable def spec_l02Compound_o7_2 (k s : Int) (sg bg : Bool) (NA NU ME BA : List (List TC)) (ct en i : Int) : Bool := is (i = 0 ∧ Typed tab (.slice 77) (.l ME) ∧ (∀ x : List TC, x ∈ ME → spec_l02Ok_rc (nth x 2).int (nth x 3).int (nth x 4).bool (nth x 5).bool (nth x 6).list (nth x 7).list (nth x 8).list (nth x 9).list (nth x 10).int = true) ∧ (∀ x : List TC, x ∈ ME → (!(spec_l02Ok_rv (nth x 2).int (nth x 3).int (nth x 4).bool (nth x 5).bool (nth x 6).list (nth x 7).list (nth x 8).list (nth x 9).list (nth x 10).int)) = false → spec_l02Size_rc (nth x 2).int (nth x 3).int (nth x 4).bool (nth x 5).bool (nth x 6).list (nth x 7).list (nth x 8).list (nth x 9).list (nth x 10).int = true))
noncomputable def spec_l02Compound_u7_2_0 (k s : Int) (sg bg : Bool) (NA NU ME BA : List (List TC)) (ct en i : Int) : Int := (sumL (spec_l02Compound_R7 k s sg bg NA NU ME BA ct en i)).1
noncomputable def spec_l02Compound_u7_2_1 (k s : Int) (sg bg : Bool) (NA NU ME BA : List (List TC)) (ct en i : Int) : Int := (sumL (spec_l02Compound_R7 k s sg bg NA NU ME BA ct en i)).2.1
noncomputable def spec_l02Compound_u7_2_2 (k s : Int) (sg bg : Bool) (NA NU ME BA : List (List TC)) (ct en i : Int) : Bool := (sumL (spec_l02Compound_R7 k s sg bg NA NU ME BA ct en i)).2.2.1
noncomputable def spec_l02Compound_u7_2_3 (k s : Int) (sg bg : Bool) (NA NU ME BA : List (List TC)) (ct en i : Int) : Bool := (sumL (spec_l02Compound_R7 k s sg bg NA NU ME BA ct en i)).2.2.2.1
noncomputable def spec_l02Compound_u7_2_4 (k s : Int) (sg bg : Bool) (NA NU ME BA : List (List TC)) (ct en i : Int) : List (List TC) := (sumL (spec_l02Compound_R7 k s sg bg NA NU ME BA ct en i)).2.2.2.2.1
noncomputable def spec_l02Compound_u7_2_5 (k s : Int) (sg bg : Bool) (NA NU ME BA : List (List TC)) (ct en i : Int) : List (List TC) := (sumL (spec_l02Compound_R7 k s sg bg NA NU ME BA ct en i)).2.2.2.2.2.1
noncomputable def spec_l02Compound_u7_2_6 (k s : Int) (sg bg : Bool) (NA NU ME BA : List (List TC)) (ct en i : Int) : List (List TC) := (sumL (spec_l02Compound_R7 k s sg bg NA NU ME BA ct en i)).2.2.2.2.2.2.1
noncomputable def spec_l02Compound_u7_2_7 (k s : Int) (sg bg : Bool) (NA NU ME BA : List (List TC)) (ct en i : Int) : List (List TC) := (sumL (spec_l02Compound_R7 k s sg bg NA NU ME BA ct en i)).2.2.2.2.2.2.2.1
noncomputable def spec_l02Compound_u7_2_8 (k s : Int) (sg bg : Bool) (NA NU ME BA : List (List TC)) (ct en i : Int) : Int := (sumL (spec_l02Compound_R7 k s sg bg NA NU ME BA ct en i)).2.2.2.2.2.2.2.2.1
noncomputable def spec_l02Compound_u7_2_9 (k s : Int) (sg bg : Bool) (NA NU ME BA : List (List TC)) (ct en i : Int) : Int := (sumL (spec_l02Compound_R7 k s sg bg NA NU ME BA ct en i)).2.2.2.2.2.2.2.2.2
noncomputable def spec_l02Compound_o7_3 (k s : Int) (sg bg : Bool) (NA NU ME BA : List (List TC)) (ct en i : Int) : Bool := is (i = 0 ∧ Typed tab (.slice 77) (.l ME) ∧ (∀ x : List TC, x ∈ ME → spec_l02Ok_rc (nth x 2).int (nth x 3).int (nth x 4).bool (nth x 5).bool (nth x 6).list (nth x 7).list (nth x 8).list (nth x 9).list (nth x 10).int = true) ∧ (∀ x : List TC, x ∈ ME → (!(spec_l02Ok_rv (nth x 2).int (nth x 3).int (nth x 4).bool (nth x 5).bool (nth x 6).list (nth x 7).list (nth x 8).list (nth x 9).list (nth x 10).int)) = false → spec_l02Size_rc (nth x 2).int (nth x 3).int (nth x 4).bool (nth x 5).bool (nth x 6).list (nth x 7).list (nth x 8).list (nth x 9).list (nth x 10).int = true))
noncomputable def spec_l02Compound_u7_3_0 (k s : Int) (sg bg : Bool) (NA NU ME BA : List (List TC)) (ct en i : Int) : Int := (sumR (spec_l02Compound_R7 k s sg bg NA NU ME BA ct en i)).1
noncomputable def spec_l02Compound_u7_3_1 (k s : Int) (sg bg : Bool) (NA NU ME BA : List (List TC)) (ct en i : Int) : Int := (sumR (spec_l02Compound_R7 k s sg bg NA NU ME BA ct en i)).2.1
noncomputable def spec_l02Compound_u7_3_2 (k s : Int) (sg bg : Bool) (NA NU ME BA : List (List TC)) (ct en i : Int) : Bool := (sumR (spec_l02Compound_R7 k s sg bg NA NU ME BA ct en i)).2.2.1
noncomputable def spec_l02Compound_u7_3_3 (k s : Int) (sg bg : Bool) (NA NU ME BA : List (List TC)) (ct en i : Int) : Bool := (sumR (spec_l02Compound_R7 k s sg bg NA NU ME BA ct en i)).2.2.2.1
noncomputable def spec_l02Compound_u7_3_4 (k s : Int) (sg bg : Bool) (NA NU ME BA : List (List TC)) (ct en i : Int) : List (List TC) := (sumR (spec_l02Compound_R7 k s sg bg NA NU ME BA ct en i)).2.2.2.2.1
noncomputable def spec_l02Compound_u7_3_5 (k s : Int) (sg bg : Bool) (NA NU ME BA : List (List TC)) (ct en i : Int) : List (List TC) := (sumR (spec_l02Compound_R7 k s sg bg NA NU ME BA ct en i)).2.2.2.2.2.1
noncomputable def spec_l02Compound_u7_3_6 (k s : Int) (sg bg : Bool) (NA NU ME BA : List (List TC)) (ct en i : Int) : List (List TC) := (sumR (spec_l02Compound_R7 k s sg bg NA NU ME BA ct en i)).2.2.2.2.2.2.1
noncomputable def spec_l02Compound_u7_3_7 (k s : Int) (sg bg : Bool) (NA NU ME BA : List (List TC)) (ct en i : Int) : List (List TC) := (sumR (spec_l02Compound_R7 k s sg bg NA NU ME BA ct en i)).2.2.2.2.2.2.2.1
noncomputable def spec_l02Compound_u7_3_8 (k s : Int) (sg bg : Bool) (NA NU ME BA : List (List TC)) (ct en i : Int) : Int := (sumR (spec_l02Compound_R7 k s sg bg NA NU ME BA ct en i)).2.2.2.2.2.2.2.2.1
noncomputable def spec_l02Compound_u7_3_9 (k s : Int) (sg bg : Bool) (NA NU ME BA : List (List TC)) (ct en i : Int) : Int := (sumR (spec_l02Compound_R7 k s sg bg NA NU ME BA ct en i)).2.2.2.2.2.2.2.2.2
noncomputable def spec_l02Compound_7_fin (k s : Int) (sg bg : Bool) (NA NU ME BA : List (List TC)) (ct en i : Int) : Told spec_l02Compound_7_ω := (.br (spec_l02Compound_k7_1 k s sg bg NA NU ME BA ct en i) (.leaf (spec_l02Compound_o7_2 k s sg bg NA NU ME BA ct en i) (.inl ((spec_l02Compound_u7_2_0 k s sg bg NA NU ME BA ct en i), (spec_l02Compound_u7_2_1 k s sg bg NA NU ME BA ct en i), (spec_l02Compound_u7_2_2 k s sg bg NA NU ME BA ct en i), (spec_l02Compound_u7_2_3 k s sg bg NA NU ME BA ct en i), (spec_l02Compound_u7_2_4 k s sg bg NA NU ME BA ct en i), (spec_l02Compound_u7_2_5 k s sg bg NA NU ME BA ct en i), (spec_l02Compound_u7_2_6 k s sg bg NA NU ME BA ct en i), (spec_l02Compound_u7_2_7 k s sg bg NA NU ME BA ct en i), (spec_l02Compound_u7_2_8 k s sg bg NA NU ME BA ct en i), (spec_l02Compound_u7_2_9 k s sg bg NA NU ME BA ct en i)))) (.leaf (spec_l02Compound_o7_3 k s sg bg NA NU ME BA ct en i) (.inr ((spec_l02Compound_u7_3_0 k s sg bg NA NU ME BA ct en i), (spec_l02Compound_u7_3_1 k s sg bg NA NU ME BA ct en i), (spec_l02Compound_u7_3_2 k s sg bg NA NU ME BA ct en i), (spec_l02Compound_u7_3_3 k s sg bg NA NU ME BA ct en i), (spec_l02Compound_u7_3_4 k s sg bg NA NU ME BA ct en i), (spec_l02Compound_u7_3_5 k s sg bg NA NU ME BA ct en i), (spec_l02Compound_u7_3_6 k s sg bg NA NU ME BA ct en i), (spec_l02Compound_u7_3_7 k s sg bg NA NU ME BA ct en i), (spec_l02Compound_u7_3_8 k s sg bg NA NU ME BA ct en i), (spec_l02Compound_u7_3_9 k s sg bg NA NU ME BA ct en i)))))
def spec_l02Compound_7_sl (x : spec_l02Compound_7_σ) : List Slot := [⟨.bx 32 [⟨.int .i64, .sh, TC.i (x.1)⟩, ⟨.int .i64, .sh, TC.i (x.2.1)⟩, ⟨.bool, .sh, TC.b (x.2.2.1)⟩, ⟨.bool, .sh, TC.b (x.2.2.2.1)⟩, ⟨.slice 9, .sh, TC.l (x.2.2.2.2.1)⟩, ⟨.slice 2, .sh, TC.l (x.2.2.2.2.2.1)⟩, ⟨.slice 77, .sh, TC.l (x.2.2.2.2.2.2.1)⟩, ⟨.slice 32, .sh, TC.l (x.2.2.2.2.2.2.2.1)⟩, ⟨.int .i64, .sh, TC.i (x.2.2.2.2.2.2.2.2.1)⟩], ⟨0, 0⟩⟩, ⟨.val false [⟨.int .i64, .sh, TC.i (x.2.2.2.2.2.2.2.2.2.1)⟩], ⟨0, 0⟩⟩, ⟨.val false [⟨.int .i64, .sh, TC.i (x.2.2.2.2.2.2.2.2.2.2)⟩], ⟨0, 0⟩⟩]
def spec_l02Compound_7_out : spec_l02Compound_7_ω → Ex × List Slot := (Sum.elim (fun x => (.ret, [⟨.bx 32 [⟨.int .i64, .sh, TC.i (x.1)⟩, ⟨.int .i64, .sh, TC.i (x.2.1)⟩, ⟨.bool, .sh, TC.b (x.2.2.1)⟩, ⟨.bool, .sh, TC.b (x.2.2.2.1)⟩, ⟨.slice 9, .sh, TC.l (x.2.2.2.2.1)⟩, ⟨.slice 2, .sh, TC.l (x.2.2.2.2.2.1)⟩, ⟨.slice 77, .sh, TC.l (x.2.2.2.2.2.2.1)⟩, ⟨.slice 32, .sh, TC.l (x.2.2.2.2.2.2.2.1)⟩, ⟨.int .i64, .sh, TC.i (x.2.2.2.2.2.2.2.2.1)⟩], ⟨0, 0⟩⟩, ⟨.val false [⟨.bool, .sh, TC.b false⟩], ⟨0, 0⟩⟩, ⟨.val false [⟨.int .i64, .sh, TC.i (x.2.2.2.2.2.2.2.2.2)⟩], ⟨0, 0⟩⟩])) (fun x => (.exit 0, [⟨.bx 32 [⟨.int .i64, .sh, TC.i (x.1)⟩, ⟨.int .i64, .sh, TC.i (x.2.1)⟩, ⟨.bool, .sh, TC.b (x.2.2.1)⟩, ⟨.bool, .sh, TC.b (x.2.2.2.1)⟩, ⟨.slice 9, .sh, TC.l (x.2.2.2.2.1)⟩, ⟨.slice 2, .sh, TC.l (x.2.2.2.2.2.1)⟩, ⟨.slice 77, .sh, TC.l (x.2.2.2.2.2.2.1)⟩, ⟨.slice 32, .sh, TC.l (x.2.2.2.2.2.2.2.1)⟩, ⟨.int .i64, .sh, TC.i (x.2.2.2.2.2.2.2.2.1)⟩], ⟨0, 0⟩⟩, Slot.none, ⟨.val false [⟨.int .i64, .sh, TC.i (x.2.2.2.2.2.2.2.2.2)⟩], ⟨0, 0⟩⟩])))
noncomputable def spec_l02Compound_lo7 : List Slot → Option (Told (Ex × List Slot)) := fun s => match s with
  | [⟨.bx 32 [⟨.int .i64, .sh, TC.i k⟩, ⟨.int .i64, .sh, TC.i s⟩, ⟨.bool, .sh, TC.b sg⟩, ⟨.bool, .sh, TC.b bg⟩, ⟨.slice 9, .sh, TC.l NA⟩, ⟨.slice 2, .sh, TC.l NU⟩, ⟨.slice 77, .sh, TC.l ME⟩, ⟨.slice 32, .sh, TC.l BA⟩, ⟨.int .i64, .sh, TC.i ct⟩], ⟨0, 0⟩⟩, ⟨.val false [⟨.int .i64, .sh, TC.i en⟩], ⟨0, 0⟩⟩, ⟨.val false [⟨.int .i64, .sh, TC.i i⟩], ⟨0, 0⟩⟩] => some (((spec_l02Compound_7_fin k s sg bg NA NU ME BA ct en i)).map spec_l02Compound_7_out)
  | _ => .none
noncomputable def spec_l02Compound_lo : LoopTeller := fun r s => bif Nat.beq r 7 then spec_l02Compound_lo7 s else bif Nat.beq r 13 then spec_l02Compound_lo13 s else .none
theorem spec_l02Compound_13_r (k s : Int) (sg bg : Bool) (NA NU ME BA : List (List TC)) (ct en ix : Int) (mn : List UInt8) (mo mk ms : Int) (msg mbg : Bool) (mNA mNU mME mBA : List (List TC)) (mct q : Int) (fuel : Nat) : rounds (rnd tab FT D24 live 73 spec_l02Compound_lo 1 13) leave (fuel + 1) (spec_l02Compound_13_sl (k, s, sg, bg, NA, NU, ME, BA, ct, en, ix, mn, mo, mk, ms, msg, mbg, mNA, mNU, mME, mBA, mct, q)) = ((spec_l02Compound_13_step k s sg bg NA NU ME BA ct en ix mn mo mk ms msg mbg mNA mNU mME mBA mct q)).run (goOn (fun s => rounds (rnd tab FT D24 live 73 spec_l02Compound_lo 1 13) leave fuel (spec_l02Compound_13_sl s)) fun w => some (spec_l02Compound_13_out w)) := by kernel_rfl
theorem spec_l02Compound_f13_eq (k s : Int) (sg bg : Bool) (NA NU ME BA : List (List TC)) (ct : Int) (en ix : Int) (mn : List UInt8) (mo mk ms : Int) (msg mbg : Bool) (mNA mNU mME mBA : List (List TC)) (mct i : Int) : spec_l02Compound_f13 k s sg bg NA NU ME BA ct en ix mn mo mk ms msg mbg mNA mNU mME mBA mct i = bif !(strAt ME i == mn) then Sum.inl () else Sum.inr (Sum.inl (k, s, sg, bg, NA, NU, ME, BA, ct, en, ix, mn, mo, mk, ms, msg, mbg, mNA, mNU, mME, mBA, mct)) := by
  unfold spec_l02Compound_f13 strAt
  skip
  generalize ((nth (row ME i) 0).str == mn) = p0
  cases p0 <;> rfl
theorem spec_l02Compound_R13_eq (k s : Int) (sg bg : Bool) (NA NU ME BA : List (List TC)) (ct : Int) (en ix : Int) (mn : List UInt8) (mo mk ms : Int) (msg mbg : Bool) (mNA mNU mME mBA : List (List TC)) (mct : Int)  : spec_l02Compound_R13 k s sg bg NA NU ME BA ct en ix mn mo mk ms msg mbg mNA mNU mME mBA mct 0 = bif allI (fun i : Nat => !(strAt ME (i : Int) == mn)) (ix.toNat) then Sum.inr (k, s, sg, bg, NA, NU, ME, BA, ct, en, ix, mn, mo, mk, ms, msg, mbg, mNA, mNU, mME, mBA, mct) else (Sum.inl (k, s, sg, bg, NA, NU, ME, BA, ct, en, ix, mn, mo, mk, ms, msg, mbg, mNA, mNU, mME, mBA, mct)) := by
  unfold spec_l02Compound_R13
  exact (iter_all (P := (fun i : Nat => !(strAt ME (i : Int) == mn))) (g := fun _ a => a) (w := Sum.inl (k, s, sg, bg, NA, NU, ME, BA, ct, en, ix, mn, mo, mk, ms, msg, mbg, mNA, mNU, mME, mBA, mct)) fun j a _ => spec_l02Compound_f13_eq k s sg bg NA NU ME BA ct en ix mn mo mk ms msg mbg mNA mNU mME mBA mct _)
theorem spec_l02Compound_13_h (k s : Int) (sg bg : Bool) (NA NU ME BA : List (List TC)) (ct en ix : Int) (mn : List UInt8) (mo mk ms : Int) (msg mbg : Bool) (mNA mNU mME mBA : List (List TC)) (mct q : Int) (ow : spec_l02Compound_13_ω) : ((spec_l02Compound_13_fin k s sg bg NA NU ME BA ct en ix mn mo mk ms msg mbg mNA mNU mME mBA mct q)).val = some ow → ∃ fuel, loopN spec_l02Compound_13_st fuel (k, s, sg, bg, NA, NU, ME, BA, ct, en, ix, mn, mo, mk, ms, msg, mbg, mNA, mNU, mME, mBA, mct, q) = some ow := by
  refine auto_const (R := (spec_l02Compound_R13 k s sg bg NA NU ME BA ct en ix mn mo mk ms msg mbg mNA mNU mME mBA mct q)) rfl (iter_onR (f := (fun i a => (spec_l02Compound_f13 k s sg bg NA NU ME BA ct en ix mn mo mk ms msg mbg mNA mNU mME mBA mct (i : Int)))) (fin := (fun a => (spec_l02Compound_e13 k s sg bg NA NU ME BA ct en ix mn mo mk ms msg mbg mNA mNU mME mBA mct))) (Q := endsAs (k, s, sg, bg, NA, NU, ME, BA, ct, en, ix, mn, mo, mk, ms, msg, mbg, mNA, mNU, mME, mBA, mct) (k, s, sg, bg, NA, NU, ME, BA, ct, en, ix, mn, mo, mk, ms, msg, mbg, mNA, mNU, mME, mBA, mct)) (fun i a => by unfold spec_l02Compound_f13; exact (onR_bif rfl trivial)) (fun _ => rfl) _ _ _) ?_
  intro ho
  have ho : is (q = 0 ∧ 0 ≤ ix ∧ ix < (ME.length : Int) ∧ ME.length ≤ 140737488355328) = true := ho.elim id id
  obtain ⟨rfl, h0, h1, h2⟩ := is_iff.1 ho
  skip
  refine ⟨(ix.toNat) + 1, ?_⟩
  refine iter_loop (step := spec_l02Compound_13_st) (ix.toNat) (fun i a => (spec_l02Compound_f13 k s sg bg NA NU ME BA ct en ix mn mo mk ms msg mbg mNA mNU mME mBA mct (i : Int))) (fun a => (spec_l02Compound_e13 k s sg bg NA NU ME BA ct en ix mn mo mk ms msg mbg mNA mNU mME mBA mct)) (fun i a => (k, s, sg, bg, NA, NU, ME, BA, ct, en, ix, mn, mo, mk, ms, msg, mbg, mNA, mNU, mME, mBA, mct, (i : Int))) (fun _ _ => True) trivial (fun i a hi hI => ⟨?_, fun _ _ => trivial⟩) (fun a hI => ?_)
  · show (spec_l02Compound_13_step k s sg bg NA NU ME BA ct en ix mn mo mk ms msg mbg mNA mNU mME mBA mct (i : Int)).val = _
    unfold spec_l02Compound_13_step spec_l02Compound_f13
    skip
    refine Tr.t (by simp; omega) ?_
    exact (Tr.t (by first | omega | (constructor <;> omega)) (Tr.bf rfl (by rw [Tr.val_ok, wrap64 (i := (i : Int) + 1) (by omega) (by omega)]; rfl)))
  · show (spec_l02Compound_13_step k s sg bg NA NU ME BA ct en ix mn mo mk ms msg mbg mNA mNU mME mBA mct (ix.toNat : Int)).val = _
    refine Tr.n (by first | (simp; done) | (simp; omega) | omega) ?_
    rfl
theorem spec_l02Compound_is13 : LoopIs tab FT D24 live 73 spec_l02Compound_lo 1 13 := by
  refine loop_told (sl := spec_l02Compound_13_sl) (step := spec_l02Compound_13_st) (out := spec_l02Compound_13_out) (lor := spec_l02Compound_lo13) (fin := fun x => (spec_l02Compound_13_fin (x.1) (x.2.1) (x.2.2.1) (x.2.2.2.1) (x.2.2.2.2.1) (x.2.2.2.2.2.1) (x.2.2.2.2.2.2.1) (x.2.2.2.2.2.2.2.1) (x.2.2.2.2.2.2.2.2.1) (x.2.2.2.2.2.2.2.2.2.1) (x.2.2.2.2.2.2.2.2.2.2.1) (x.2.2.2.2.2.2.2.2.2.2.2.1) (x.2.2.2.2.2.2.2.2.2.2.2.2.1) (x.2.2.2.2.2.2.2.2.2.2.2.2.2.1) (x.2.2.2.2.2.2.2.2.2.2.2.2.2.2.1) (x.2.2.2.2.2.2.2.2.2.2.2.2.2.2.2.1) (x.2.2.2.2.2.2.2.2.2.2.2.2.2.2.2.2.1) (x.2.2.2.2.2.2.2.2.2.2.2.2.2.2.2.2.2.1) (x.2.2.2.2.2.2.2.2.2.2.2.2.2.2.2.2.2.2.1) (x.2.2.2.2.2.2.2.2.2.2.2.2.2.2.2.2.2.2.2.1) (x.2.2.2.2.2.2.2.2.2.2.2.2.2.2.2.2.2.2.2.2.1) (x.2.2.2.2.2.2.2.2.2.2.2.2.2.2.2.2.2.2.2.2.2.1) (x.2.2.2.2.2.2.2.2.2.2.2.2.2.2.2.2.2.2.2.2.2.2))) (fun _ => rfl) ?_ (fun x n => spec_l02Compound_13_r x.1 x.2.1 x.2.2.1 x.2.2.2.1 x.2.2.2.2.1 x.2.2.2.2.2.1 x.2.2.2.2.2.2.1 x.2.2.2.2.2.2.2.1 x.2.2.2.2.2.2.2.2.1 x.2.2.2.2.2.2.2.2.2.1 x.2.2.2.2.2.2.2.2.2.2.1 x.2.2.2.2.2.2.2.2.2.2.2.1 x.2.2.2.2.2.2.2.2.2.2.2.2.1 x.2.2.2.2.2.2.2.2.2.2.2.2.2.1 x.2.2.2.2.2.2.2.2.2.2.2.2.2.2.1 x.2.2.2.2.2.2.2.2.2.2.2.2.2.2.2.1 x.2.2.2.2.2.2.2.2.2.2.2.2.2.2.2.2.1 x.2.2.2.2.2.2.2.2.2.2.2.2.2.2.2.2.2.1 x.2.2.2.2.2.2.2.2.2.2.2.2.2.2.2.2.2.2.1 x.2.2.2.2.2.2.2.2.2.2.2.2.2.2.2.2.2.2.2.1 x.2.2.2.2.2.2.2.2.2.2.2.2.2.2.2.2.2.2.2.2.1 x.2.2.2.2.2.2.2.2.2.2.2.2.2.2.2.2.2.2.2.2.2.1 x.2.2.2.2.2.2.2.2.2.2.2.2.2.2.2.2.2.2.2.2.2.2 n) (fun x ow => spec_l02Compound_13_h x.1 x.2.1 x.2.2.1 x.2.2.2.1 x.2.2.2.2.1 x.2.2.2.2.2.1 x.2.2.2.2.2.2.1 x.2.2.2.2.2.2.2.1 x.2.2.2.2.2.2.2.2.1 x.2.2.2.2.2.2.2.2.2.1 x.2.2.2.2.2.2.2.2.2.2.1 x.2.2.2.2.2.2.2.2.2.2.2.1 x.2.2.2.2.2.2.2.2.2.2.2.2.1 x.2.2.2.2.2.2.2.2.2.2.2.2.2.1 x.2.2.2.2.2.2.2.2.2.2.2.2.2.2.1 x.2.2.2.2.2.2.2.2.2.2.2.2.2.2.2.1 x.2.2.2.2.2.2.2.2.2.2.2.2.2.2.2.2.1 x.2.2.2.2.2.2.2.2.2.2.2.2.2.2.2.2.2.1 x.2.2.2.2.2.2.2.2.2.2.2.2.2.2.2.2.2.2.1 x.2.2.2.2.2.2.2.2.2.2.2.2.2.2.2.2.2.2.2.1 x.2.2.2.2.2.2.2.2.2.2.2.2.2.2.2.2.2.2.2.2.1 x.2.2.2.2.2.2.2.2.2.2.2.2.2.2.2.2.2.2.2.2.2.1 x.2.2.2.2.2.2.2.2.2.2.2.2.2.2.2.2.2.2.2.2.2.2 ow)
  intro s t h
  unfold spec_l02Compound_lo13 at h
  split at h
  · cases h; exact ⟨(_, _, _, _, _, _, _, _, _, _, _, _, _, _, _, _, _, _, _, _, _, _, _), rfl, rfl⟩
  · cases h
theorem spec_l02Compound_7_r (k s : Int) (sg bg : Bool) (NA NU ME BA : List (List TC)) (ct en i : Int) (fuel : Nat) : rounds (rnd tab FT D24 live 73 spec_l02Compound_lo 0 7) leave (fuel + 1) (spec_l02Compound_7_sl (k, s, sg, bg, NA, NU, ME, BA, ct, en, i)) = ((spec_l02Compound_7_step k s sg bg NA NU ME BA ct en i)).run (goOn (fun s => rounds (rnd tab FT D24 live 73 spec_l02Compound_lo 0 7) leave fuel (spec_l02Compound_7_sl s)) fun w => some (spec_l02Compound_7_out w)) := by kernel_rfl
theorem spec_l02Compound_f7_eq (k s : Int) (sg bg : Bool) (NA NU ME BA : List (List TC)) (ct : Int) (i e : Int) : spec_l02Compound_f7 k s sg bg NA NU ME BA ct i e = bif (nameOk (strAt ME i) && (!decide ((nth (row ME i) 1).int < e) && (!decide ((nth (row ME i) 1).int > 24) && (okV (nth (row ME i) 2).int (nth (row ME i) 3).int (nth (row ME i) 4).bool (nth (row ME i) 5).bool (nth (row ME i) 6).list (nth (row ME i) 7).list (nth (row ME i) 8).list (nth (row ME i) 9).list (nth (row ME i) 10).int && noDupN ME i)))) then Sum.inl (IntKind.wrap .i64 ((nth (row ME i) 1).int + sizeV (nth (row ME i) 2).int (nth (row ME i) 3).int (nth (row ME i) 9).list (nth (row ME i) 10).int)) else Sum.inr (Sum.inl (k, s, sg, bg, NA, NU, ME, BA, ct, e)) := by
  unfold spec_l02Compound_f7
  rw [show ∀ e, spec_l02Compound_k13_1 k s sg bg NA NU ME BA ct e i (nth (row ME i) 0).str (nth (row ME i) 1).int (nth (row ME i) 2).int (nth (row ME i) 3).int (nth (row ME i) 4).bool (nth (row ME i) 5).bool (nth (row ME i) 6).list (nth (row ME i) 7).list (nth (row ME i) 8).list (nth (row ME i) 9).list (nth (row ME i) 10).int 0 = !(noDupN ME i) from fun e => by unfold spec_l02Compound_k13_1 noDupN; rw [spec_l02Compound_R13_eq]; unfold strAt; generalize allI _ _ = q; cases q <;> rfl]
  rw [spec_IsName_vv, show spec_l02Ok_rv (nth (row ME i) 2).int (nth (row ME i) 3).int (nth (row ME i) 4).bool (nth (row ME i) 5).bool (nth (row ME i) 6).list (nth (row ME i) 7).list (nth (row ME i) 8).list (nth (row ME i) 9).list (nth (row ME i) 10).int = okV (nth (row ME i) 2).int (nth (row ME i) 3).int (nth (row ME i) 4).bool (nth (row ME i) 5).bool (nth (row ME i) 6).list (nth (row ME i) 7).list (nth (row ME i) 8).list (nth (row ME i) 9).list (nth (row ME i) 10).int from rfl, show strAt ME i = (nth (row ME i) 0).str from rfl]
  generalize nameOk _ = p0, decide ((nth (row ME i) 1).int < e) = p1, decide ((nth (row ME i) 1).int > 24) = p2, okV (nth (row ME i) 2).int (nth (row ME i) 3).int (nth (row ME i) 4).bool (nth (row ME i) 5).bool (nth (row ME i) 6).list (nth (row ME i) 7).list (nth (row ME i) 8).list (nth (row ME i) 9).list (nth (row ME i) 10).int = p3, noDupN ME i = p4
  cases p0 <;> cases p1 <;> cases p2 <;> cases p3 <;> cases p4 <;> rfl
theorem spec_l02Compound_R7_eq (k s : Int) (sg bg : Bool) (NA NU ME BA : List (List TC)) (ct : Int) : ∃ e, spec_l02Compound_R7 k s sg bg NA NU ME BA ct 0 0 = bif (allI (memP ME) ME.length && ME.all fun x => okV (nth x 2).int (nth x 3).int (nth x 4).bool (nth x 5).bool (nth x 6).list (nth x 7).list (nth x 8).list (nth x 9).list (nth x 10).int) then Sum.inr (k, s, sg, bg, NA, NU, ME, BA, ct, endAt ME ME.length) else Sum.inl (k, s, sg, bg, NA, NU, ME, BA, ct, e) := by
  unfold spec_l02Compound_R7
  obtain ⟨a, ha⟩ := iter_along (f := fun i a => spec_l02Compound_f7 k s sg bg NA NU ME BA ct (i : Int) a) (fin := fun a => spec_l02Compound_e7 k s sg bg NA NU ME BA ct a) (P := fun i : Nat => nameOk (strAt ME (i : Int)) && (!decide ((nth (row ME (i : Int)) 1).int < endAt ME i) && (!decide ((nth (row ME (i : Int)) 1).int > 24) && (okV (nth (row ME (i : Int)) 2).int (nth (row ME (i : Int)) 3).int (nth (row ME (i : Int)) 4).bool (nth (row ME (i : Int)) 5).bool (nth (row ME (i : Int)) 6).list (nth (row ME (i : Int)) 7).list (nth (row ME (i : Int)) 8).list (nth (row ME (i : Int)) 9).list (nth (row ME (i : Int)) 10).int && noDupN ME (i : Int))))) (A := endAt ME) (w := fun e => Sum.inl (k, s, sg, bg, NA, NU, ME, BA, ct, e)) (N := ME.length) (fun j _ => spec_l02Compound_f7_eq k s sg bg NA NU ME BA ct (j : Int) (endAt ME j))
  refine ⟨a, ha.trans ?_⟩
  rw [show allI (fun i : Nat => nameOk (strAt ME (i : Int)) && (!decide ((nth (row ME (i : Int)) 1).int < endAt ME i) && (!decide ((nth (row ME (i : Int)) 1).int > 24) && (okV (nth (row ME (i : Int)) 2).int (nth (row ME (i : Int)) 3).int (nth (row ME (i : Int)) 4).bool (nth (row ME (i : Int)) 5).bool (nth (row ME (i : Int)) 6).list (nth (row ME (i : Int)) 7).list (nth (row ME (i : Int)) 8).list (nth (row ME (i : Int)) 9).list (nth (row ME (i : Int)) 10).int && noDupN ME (i : Int))))) ME.length = (allI (memP ME) ME.length && ME.all fun x => okV (nth x 2).int (nth x 3).int (nth x 4).bool (nth x 5).bool (nth x 6).list (nth x 7).list (nth x 8).list (nth x 9).list (nth x 10).int) from by
    rw [← allI_rows, ← allI_and]
    refine allI_congr fun i _ => ?_
    unfold memP
    generalize nameOk _ = p0, decide ((nth (row ME (i : Int)) 1).int < endAt ME i) = p1, decide ((nth (row ME (i : Int)) 1).int > 24) = p2, okV (nth (row ME (i : Int)) 2).int (nth (row ME (i : Int)) 3).int (nth (row ME (i : Int)) 4).bool (nth (row ME (i : Int)) 5).bool (nth (row ME (i : Int)) 6).list (nth (row ME (i : Int)) 7).list (nth (row ME (i : Int)) 8).list (nth (row ME (i : Int)) 9).list (nth (row ME (i : Int)) 10).int = p3, noDupN ME _ = p4
    cases p0 <;> cases p1 <;> cases p2 <;> cases p3 <;> cases p4 <;> rfl]
  rfl
theorem spec_l02Compound_7_h (k s : Int) (sg bg : Bool) (NA NU ME BA : List (List TC)) (ct en i : Int) (ow : spec_l02Compound_7_ω) : ((spec_l02Compound_7_fin k s sg bg NA NU ME BA ct en i)).val = some ow → ∃ fuel, loopN spec_l02Compound_7_st fuel (k, s, sg, bg, NA, NU, ME, BA, ct, en, i) = some ow := by
  refine auto_sum (R := (spec_l02Compound_R7 k s sg bg NA NU ME BA ct en i)) rfl rfl rfl ?_
  intro ho
  have ho : is (i = 0 ∧ Typed tab (.slice 77) (.l ME) ∧ (∀ x : List TC, x ∈ ME → spec_l02Ok_rc (nth x 2).int (nth x 3).int (nth x 4).bool (nth x 5).bool (nth x 6).list (nth x 7).list (nth x 8).list (nth x 9).list (nth x 10).int = true) ∧ (∀ x : List TC, x ∈ ME → (!(spec_l02Ok_rv (nth x 2).int (nth x 3).int (nth x 4).bool (nth x 5).bool (nth x 6).list (nth x 7).list (nth x 8).list (nth x 9).list (nth x 10).int)) = false → spec_l02Size_rc (nth x 2).int (nth x 3).int (nth x 4).bool (nth x 5).bool (nth x 6).list (nth x 7).list (nth x 8).list (nth x 9).list (nth x 10).int = true)) = true := ho.elim id id
  obtain ⟨rfl, ht, hr, hz⟩ := is_iff.1 ho
  have hlen : ME.length ≤ 140737488351232 := by have := typed_room ht; simp only [show (tab 77).bytes = 152 from rfl] at this; omega
  refine ⟨(ME.length) + 1, ?_⟩
  refine iter_loop (step := spec_l02Compound_7_st) (ME.length) (fun i a => (spec_l02Compound_f7 k s sg bg NA NU ME BA ct (i : Int) a)) (fun a => (spec_l02Compound_e7 k s sg bg NA NU ME BA ct a)) (fun i a => (k, s, sg, bg, NA, NU, ME, BA, ct, a, (i : Int))) (fun _ _ => True) trivial (fun i a hi hI => ⟨?_, fun _ _ => trivial⟩) (fun a hI => ?_)
  · show (spec_l02Compound_7_step k s sg bg NA NU ME BA ct a (i : Int)).val = _
    unfold spec_l02Compound_7_step spec_l02Compound_f7
    have c0 : Typed tab (.str) (.s (nth (ME.getD i []) 0).str) := typed_s (typed_cell ht (ME.getD i []) (mem_getD hi) 0 (by decide))
    have c6 : Typed tab (.slice 9) (.l (nth (ME.getD i []) 6).list) := typed_list (typed_cell ht (ME.getD i []) (mem_getD hi) 6 (by decide))
    have c7 : Typed tab (.slice 2) (.l (nth (ME.getD i []) 7).list) := typed_list (typed_cell ht (ME.getD i []) (mem_getD hi) 7 (by decide))
    have c8 : Typed tab (.slice 77) (.l (nth (ME.getD i []) 8).list) := typed_list (typed_cell ht (ME.getD i []) (mem_getD hi) 8 (by decide))
    have c9 : Typed tab (.slice 32) (.l (nth (ME.getD i []) 9).list) := typed_list (typed_cell ht (ME.getD i []) (mem_getD hi) 9 (by decide))
    refine Tr.t (by simp; omega) ?_
    exact (Tr.t (by first | omega | (constructor <;> omega) | (exact is_true ⟨rfl, by omega, by omega, by omega⟩) | (exact hr _ (mem_getD (by omega))) | (exact hz _ (mem_getD (by omega)) (by assumption))) (Tr.t (by first | (exact is_true ⟨rfl, by omega, by omega, by omega⟩) | (exact hr _ (mem_getD (by omega))) | (exact hz _ (mem_getD (by omega)) (by assumption)) | (first | (apply spec_IsName_cc <;> assumption) | (first | (apply is_true; and_intros <;> (first | rfl | assumption | (apply laws_szStringS_cc <;> assumption) | (apply laws_szMember_cc <;> assumption) | (apply laws_szMemberS_cc <;> assumption) | (apply laws_szTypeS_cc <;> assumption) | (apply spec_l00Has_cc <;> assumption) | (apply spec_l02Range_cc <;> assumption) | (apply spec_IsName_cc <;> assumption) | (apply spec_l02Enum_cc <;> assumption) | (first | (apply is_true; and_intros <;> (first | rfl | assumption | (apply laws_szStringS_cc <;> assumption) | (apply laws_szMember_cc <;> assumption) | (apply laws_szMemberS_cc <;> assumption) | (apply laws_szTypeS_cc <;> assumption) | (apply spec_l00Has_cc <;> assumption) | (apply spec_l02Range_cc <;> assumption) | (apply spec_IsName_cc <;> assumption) | (apply spec_l02Enum_cc <;> assumption))) | (apply laws_szStringS_cc <;> assumption) | (apply laws_szMember_cc <;> assumption) | (apply laws_szMemberS_cc <;> assumption) | (apply laws_szTypeS_cc <;> assumption) | (apply spec_l00Has_cc <;> assumption) | (apply spec_l02Range_cc <;> assumption) | (apply spec_IsName_cc <;> assumption) | (apply spec_l02Enum_cc <;> assumption)))) | (apply laws_szStringS_cc <;> assumption) | (apply laws_szMember_cc <;> assumption) | (apply laws_szMemberS_cc <;> assumption) | (apply laws_szTypeS_cc <;> assumption) | (apply spec_l00Has_cc <;> assumption) | (apply spec_l02Range_cc <;> assumption) | (apply spec_IsName_cc <;> assumption) | (apply spec_l02Enum_cc <;> assumption)))) (Tr.bh (fun _ => rfl) (fun _ => (Tr.bh (fun _ => rfl) (fun _ => (Tr.bh (fun _ => rfl) (fun _ => (Tr.t (by first | omega | (constructor <;> omega) | (exact is_true ⟨rfl, by omega, by omega, by omega⟩) | (exact hr _ (mem_getD (by omega))) | (exact hz _ (mem_getD (by omega)) (by assumption))) (Tr.bh (fun _ => rfl) (fun _ => (Tr.bh (fun _ => (Tr.t (by first | (exact is_true ⟨rfl, by omega, by omega, by omega⟩) | (exact hr _ (mem_getD (by omega))) | (exact hz _ (mem_getD (by omega)) (by assumption)) | (first | (apply is_true; and_intros <;> (first | rfl | assumption | (apply laws_szStringS_cc <;> assumption) | (apply laws_szMember_cc <;> assumption) | (apply laws_szMemberS_cc <;> assumption) | (apply laws_szTypeS_cc <;> assumption) | (apply spec_l00Has_cc <;> assumption) | (apply spec_l02Range_cc <;> assumption) | (apply spec_IsName_cc <;> assumption) | (apply spec_l02Enum_cc <;> assumption) | (first | (apply is_true; and_intros <;> (first | rfl | assumption | (apply laws_szStringS_cc <;> assumption) | (apply laws_szMember_cc <;> assumption) | (apply laws_szMemberS_cc <;> assumption) | (apply laws_szTypeS_cc <;> assumption) | (apply spec_l00Has_cc <;> assumption) | (apply spec_l02Range_cc <;> assumption) | (apply spec_IsName_cc <;> assumption) | (apply spec_l02Enum_cc <;> assumption) | (first | (apply is_true; and_intros <;> (first | rfl | assumption | (apply laws_szStringS_cc <;> assumption) | (apply laws_szMember_cc <;> assumption) | (apply laws_szMemberS_cc <;> assumption) | (apply laws_szTypeS_cc <;> assumption) | (apply spec_l00Has_cc <;> assumption) | (apply spec_l02Range_cc <;> assumption) | (apply spec_IsName_cc <;> assumption) | (apply spec_l02Enum_cc <;> assumption))) | (apply laws_szStringS_cc <;> assumption) | (apply laws_szMember_cc <;> assumption) | (apply laws_szMemberS_cc <;> assumption) | (apply laws_szTypeS_cc <;> assumption) | (apply spec_l00Has_cc <;> assumption) | (apply spec_l02Range_cc <;> assumption) | (apply spec_IsName_cc <;> assumption) | (apply spec_l02Enum_cc <;> assumption)))) | (apply laws_szStringS_cc <;> assumption) | (apply laws_szMember_cc <;> assumption) | (apply laws_szMemberS_cc <;> assumption) | (apply laws_szTypeS_cc <;> assumption) | (apply spec_l00Has_cc <;> assumption) | (apply spec_l02Range_cc <;> assumption) | (apply spec_IsName_cc <;> assumption) | (apply spec_l02Enum_cc <;> assumption)))) | (apply laws_szStringS_cc <;> assumption) | (apply laws_szMember_cc <;> assumption) | (apply laws_szMemberS_cc <;> assumption) | (apply laws_szTypeS_cc <;> assumption) | (apply spec_l00Has_cc <;> assumption) | (apply spec_l02Range_cc <;> assumption) | (apply spec_IsName_cc <;> assumption) | (apply spec_l02Enum_cc <;> assumption))) rfl)) (fun _ => (Tr.t (by first | (exact is_true ⟨rfl, by omega, by omega, by omega⟩) | (exact hr _ (mem_getD (by omega))) | (exact hz _ (mem_getD (by omega)) (by assumption)) | (first | (apply is_true; and_intros <;> (first | rfl | assumption | (apply laws_szStringS_cc <;> assumption) | (apply laws_szMember_cc <;> assumption) | (apply laws_szMemberS_cc <;> assumption) | (apply laws_szTypeS_cc <;> assumption) | (apply spec_l00Has_cc <;> assumption) | (apply spec_l02Range_cc <;> assumption) | (apply spec_IsName_cc <;> assumption) | (apply spec_l02Enum_cc <;> assumption) | (first | (apply is_true; and_intros <;> (first | rfl | assumption | (apply laws_szStringS_cc <;> assumption) | (apply laws_szMember_cc <;> assumption) | (apply laws_szMemberS_cc <;> assumption) | (apply laws_szTypeS_cc <;> assumption) | (apply spec_l00Has_cc <;> assumption) | (apply spec_l02Range_cc <;> assumption) | (apply spec_IsName_cc <;> assumption) | (apply spec_l02Enum_cc <;> assumption) | (first | (apply is_true; and_intros <;> (first | rfl | assumption | (apply laws_szStringS_cc <;> assumption) | (apply laws_szMember_cc <;> assumption) | (apply laws_szMemberS_cc <;> assumption) | (apply laws_szTypeS_cc <;> assumption) | (apply spec_l00Has_cc <;> assumption) | (apply spec_l02Range_cc <;> assumption) | (apply spec_IsName_cc <;> assumption) | (apply spec_l02Enum_cc <;> assumption))) | (apply laws_szStringS_cc <;> assumption) | (apply laws_szMember_cc <;> assumption) | (apply laws_szMemberS_cc <;> assumption) | (apply laws_szTypeS_cc <;> assumption) | (apply spec_l00Has_cc <;> assumption) | (apply spec_l02Range_cc <;> assumption) | (apply spec_IsName_cc <;> assumption) | (apply spec_l02Enum_cc <;> assumption)))) | (apply laws_szStringS_cc <;> assumption) | (apply laws_szMember_cc <;> assumption) | (apply laws_szMemberS_cc <;> assumption) | (apply laws_szTypeS_cc <;> assumption) | (apply spec_l00Has_cc <;> assumption) | (apply spec_l02Range_cc <;> assumption) | (apply spec_IsName_cc <;> assumption) | (apply spec_l02Enum_cc <;> assumption)))) | (apply laws_szStringS_cc <;> assumption) | (apply laws_szMember_cc <;> assumption) | (apply laws_szMemberS_cc <;> assumption) | (apply laws_szTypeS_cc <;> assumption) | (apply spec_l00Has_cc <;> assumption) | (apply spec_l02Range_cc <;> assumption) | (apply spec_IsName_cc <;> assumption) | (apply spec_l02Enum_cc <;> assumption))) (Tr.t (by first | omega | (constructor <;> omega) | (exact is_true ⟨rfl, by omega, by omega, by omega⟩) | (exact hr _ (mem_getD (by omega))) | (exact hz _ (mem_getD (by omega)) (by assumption))) (by rw [Tr.val_ok, wrap64 (i := (i : Int) + 1) (by omega) (by omega)]; rfl))))))))))))))))
  · show (spec_l02Compound_7_step k s sg bg NA NU ME BA ct a (ME.length : Int)).val = _
    refine Tr.n (by first | (simp; done) | (simp; omega) | omega) ?_
    rfl
theorem spec_l02Compound_is7 : LoopIs tab FT D24 live 73 spec_l02Compound_lo 0 7 := by
  refine loop_told (sl := spec_l02Compound_7_sl) (step := spec_l02Compound_7_st) (out := spec_l02Compound_7_out) (lor := spec_l02Compound_lo7) (fin := fun x => (spec_l02Compound_7_fin (x.1) (x.2.1) (x.2.2.1) (x.2.2.2.1) (x.2.2.2.2.1) (x.2.2.2.2.2.1) (x.2.2.2.2.2.2.1) (x.2.2.2.2.2.2.2.1) (x.2.2.2.2.2.2.2.2.1) (x.2.2.2.2.2.2.2.2.2.1) (x.2.2.2.2.2.2.2.2.2.2))) (fun _ => rfl) ?_ (fun x n => spec_l02Compound_7_r x.1 x.2.1 x.2.2.1 x.2.2.2.1 x.2.2.2.2.1 x.2.2.2.2.2.1 x.2.2.2.2.2.2.1 x.2.2.2.2.2.2.2.1 x.2.2.2.2.2.2.2.2.1 x.2.2.2.2.2.2.2.2.2.1 x.2.2.2.2.2.2.2.2.2.2 n) (fun x ow => spec_l02Compound_7_h x.1 x.2.1 x.2.2.1 x.2.2.2.1 x.2.2.2.2.1 x.2.2.2.2.2.1 x.2.2.2.2.2.2.1 x.2.2.2.2.2.2.2.1 x.2.2.2.2.2.2.2.2.1 x.2.2.2.2.2.2.2.2.2.1 x.2.2.2.2.2.2.2.2.2.2 ow)
  intro s t h
  unfold spec_l02Compound_lo7 at h
  split at h
  · cases h; exact ⟨(_, _, _, _, _, _, _, _, _, _, _), rfl, rfl⟩
  · cases h
noncomputable def spec_l02Compound_t (k s : Int) (sg bg : Bool) (NA NU ME BA : List (List TC)) (ct : Int) : Tr (Bool) := (.ite ((!(spec_l00In_v s (1 : Int) (24 : Int))) = true) (.ok false)
  (.ite ((!(spec_l02Plain_v k s sg bg NA NU ME BA ct)) = true) (.ok false)
   (.ite ((decide ((NA.length : Int) > (0 : Int))) = true) (.ok false)
    (.ite ((decide ((NU.length : Int) > (0 : Int))) = true) (.ok false)
     (.ite ((decide ((BA.length : Int) > (0 : Int))) = true) (.ok false)
      (.ite ((!(ct == (0 : Int))) = true) (.ok false)
       (.ite ((decide ((ME.length : Int) < (1 : Int))) = true) (.ok false)
        (.ite ((decide ((ME.length : Int) > (4 : Int))) = true) (.ok false)
         (.ite ((spec_l02Compound_k7_1 k s sg bg NA NU ME BA ct (0 : Int) (0 : Int)) = true) (.ite ((spec_l02Compound_o7_2 k s sg bg NA NU ME BA ct (0 : Int) (0 : Int)) = true) (.ok false)
           .no)
          (.ite ((spec_l02Compound_o7_3 k s sg bg NA NU ME BA ct (0 : Int) (0 : Int)) = true) (.ok (decide ((spec_l02Compound_u7_3_9 k s sg bg NA NU ME BA ct (0 : Int) (0 : Int)) ≤ (spec_l02Compound_u7_3_1 k s sg bg NA NU ME BA ct (0 : Int) (0 : Int)))))
           .no))))))))))
def spec_l02Compound_mk (p : Bool) : Res := [(false, [⟨.bool, .sh, TC.b p⟩])]
noncomputable def spec_l02Compound_c (k s : Int) (sg bg : Bool) (NA NU ME BA : List (List TC)) (ct : Int) : Bool := (bif (!(spec_l00In_v s (1 : Int) (24 : Int))) then true else (bif (!(spec_l02Plain_v k s sg bg NA NU ME BA ct)) then true else (bif (decide ((NA.length : Int) > (0 : Int))) then true else (bif (decide ((NU.length : Int) > (0 : Int))) then true else (bif (decide ((BA.length : Int) > (0 : Int))) then true else (bif (!(ct == (0 : Int))) then true else (bif (decide ((ME.length : Int) < (1 : Int))) then true else (bif (decide ((ME.length : Int) > (4 : Int))) then true else (bif (spec_l02Compound_k7_1 k s sg bg NA NU ME BA ct (0 : Int) (0 : Int)) then ((spec_l02Compound_o7_2 k s sg bg NA NU ME BA ct (0 : Int) (0 : Int)) && true) else ((spec_l02Compound_o7_3 k s sg bg NA NU ME BA ct (0 : Int) (0 : Int)) && true))))))))))
noncomputable def spec_l02Compound_v (k s : Int) (sg bg : Bool) (NA NU ME BA : List (List TC)) (ct : Int) : Bool := (bif (!(spec_l00In_v s (1 : Int) (24 : Int))) then false else (bif (!(spec_l02Plain_v k s sg bg NA NU ME BA ct)) then false else (bif (decide ((NA.length : Int) > (0 : Int))) then false else (bif (decide ((NU.length : Int) > (0 : Int))) then false else (bif (decide ((BA.length : Int) > (0 : Int))) then false else (bif (!(ct == (0 : Int))) then false else (bif (decide ((ME.length : Int) < (1 : Int))) then false else (bif (decide ((ME.length : Int) > (4 : Int))) then false else (bif (spec_l02Compound_k7_1 k s sg bg NA NU ME BA ct (0 : Int) (0 : Int)) then false else (decide ((spec_l02Compound_u7_3_9 k s sg bg NA NU ME BA ct (0 : Int) (0 : Int)) ≤ (spec_l02Compound_u7_3_1 k s sg bg NA NU ME BA ct (0 : Int) (0 : Int)))))))))))))
theorem spec_l02Compound_l (k s : Int) (sg bg : Bool) (NA NU ME BA : List (List TC)) (ct : Int) : (spec_l02Compound_c k s sg bg NA NU ME BA ct) = true → (spec_l02Compound_t k s sg bg NA NU ME BA ct).val = some (spec_l02Compound_v k s sg bg NA NU ME BA ct) := by
  unfold spec_l02Compound_t spec_l02Compound_v spec_l02Compound_c
  exact fun h => (Tr.ss h (fun h => rfl) (fun h => (Tr.ss h (fun h => rfl) (fun h => (Tr.ss h (fun h => rfl) (fun h => (Tr.ss h (fun h => rfl) (fun h => (Tr.ss h (fun h => rfl) (fun h => (Tr.ss h (fun h => rfl) (fun h => (Tr.ss h (fun h => rfl) (fun h => (Tr.ss h (fun h => rfl) (fun h => (Tr.ss h (fun h => (Tr.gb h fun h => rfl)) (fun h => (Tr.gb h fun h => rfl)))))))))))))))))))
noncomputable def spec_l02Compound_S : List Arg → Option (Bool × Res) := fun xs => match xs with
  | [(true, [(.int .i64, TC.i k), (.int .i64, TC.i s), (.bool, TC.b sg), (.bool, TC.b bg), (.slice 9, TC.l NA), (.slice 2, TC.l NU), (.slice 77, TC.l ME), (.slice 32, TC.l BA), (.int .i64, TC.i ct)])] => some ((spec_l02Compound_c k s sg bg NA NU ME BA ct), spec_l02Compound_mk (spec_l02Compound_v k s sg bg NA NU ME BA ct))
  | _ => .none
theorem spec_l02Compound_e (k s : Int) (sg bg : Bool) (NA NU ME BA : List (List TC)) (ct : Int) : runF tab FT D24 live 73 spec_l02Compound_lo [(true, [(.int .i64, TC.i k), (.int .i64, TC.i s), (.bool, TC.b sg), (.bool, TC.b bg), (.slice 9, TC.l NA), (.slice 2, TC.l NU), (.slice 77, TC.l ME), (.slice 32, TC.l BA), (.int .i64, TC.i ct)])] = (spec_l02Compound_t k s sg bg NA NU ME BA ct).run fun p => some (spec_l02Compound_mk p) := by kernel_rfl
theorem spec_l02Compound_s : ∀ xs r, spec_l02Compound_S xs = some (true, r) → runF tab FT D24 live 73 spec_l02Compound_lo xs = some r := by
  intro xs r h
  unfold spec_l02Compound_S at h
  split at h
  · simp only [Option.some.injEq, Prod.mk.injEq] at h
    obtain ⟨h1, rfl⟩ := h
    exact fun_told (spec_l02Compound_e _ _ _ _ _ _ _ _ _) (spec_l02Compound_l _ _ _ _ _ _ _ _ _) h1
  · cases h
noncomputable def D25 : Dt := also D24 73 spec_l02Compound_S
theorem d25 : DOk Go.Proofs.Try.prog tab D25 := d24.also mixed_ok tab_ok names_ok (fnLoops_two (by kernel_rfl) spec_l02Compound_is7 spec_l02Compound_is13) spec_l02Compound_s
theorem spec_l02Compound_cc {k : Int} {s : Int} {sg : Bool} {bg : Bool} {NA : List (List TC)} {NU : List (List TC)} {ME : List (List TC)} {BA : List (List TC)} {ct : Int} (ht : Typed tab (.slice 77) (.l ME)) (hr : (∀ x : List TC, x ∈ ME → spec_l02Ok_rc (nth x 2).int (nth x 3).int (nth x 4).bool (nth x 5).bool (nth x 6).list (nth x 7).list (nth x 8).list (nth x 9).list (nth x 10).int = true)) (hz : (∀ x : List TC, x ∈ ME → (!(spec_l02Ok_rv (nth x 2).int (nth x 3).int (nth x 4).bool (nth x 5).bool (nth x 6).list (nth x 7).list (nth x 8).list (nth x 9).list (nth x 10).int)) = false → spec_l02Size_rc (nth x 2).int (nth x 3).int (nth x 4).bool (nth x 5).bool (nth x 6).list (nth x 7).list (nth x 8).list (nth x 9).list (nth x 10).int = true)) : (spec_l02Compound_c k s sg bg NA NU ME BA ct) = true := by
  unfold spec_l02Compound_c
  refine bifT (fun b1 => ?_) (fun b1 => ?_)
  · skip
    rfl
  · skip
    refine bifT (fun b2 => ?_) (fun b2 => ?_)
    · skip
      rfl
    · skip
      refine bifT (fun b3 => ?_) (fun b3 => ?_)
      · skip
        rfl
      · skip
        refine bifT (fun b4 => ?_) (fun b4 => ?_)
        · skip
          rfl
        · skip
          refine bifT (fun b5 => ?_) (fun b5 => ?_)
          · skip
            rfl
          · skip
            refine bifT (fun b6 => ?_) (fun b6 => ?_)
            · skip
              rfl
            · skip
              refine bifT (fun b7 => ?_) (fun b7 => ?_)
              · skip
                rfl
              · skip
                refine bifT (fun b8 => ?_) (fun b8 => ?_)
                · skip
                  rfl
                · skip
                  refine bifT (fun b9 => ?_) (fun b9 => ?_)
                  · skip
                    refine andT (by exact is_true ⟨rfl, ht, hr, hz⟩) ?_
                    rfl
                  · skip
                    refine andT (by exact is_true ⟨rfl, ht, hr, hz⟩) ?_
                    rfl
theorem spec_l02Compound_vv (k s : Int) (sg bg : Bool) (NA NU ME BA : List (List TC)) (ct : Int) : spec_l02Compound_v k s sg bg NA NU ME BA ct = (compS s sg bg NA NU ME BA ct && ((allI (memP ME) ME.length && ME.all fun x => okV (nth x 2).int (nth x 3).int (nth x 4).bool (nth x 5).bool (nth x 6).list (nth x 7).list (nth x 8).list (nth x 9).list (nth x 10).int) && decide (endAt ME ME.length ≤ s))) := by
  unfold spec_l02Compound_v compS
  rw [show spec_l02Plain_v k s sg bg NA NU ME BA ct = plain sg bg from by unfold spec_l02Plain_v plain; cases sg <;> cases bg <;> rfl, show spec_l00In_v s 1 24 = inB s 1 24 from rfl]
  obtain ⟨e, he⟩ := spec_l02Compound_R7_eq k s sg bg NA NU ME BA ct
  have hv : (bif spec_l02Compound_k7_1 k s sg bg NA NU ME BA ct 0 0 then false else decide (spec_l02Compound_u7_3_9 k s sg bg NA NU ME BA ct 0 0 ≤ spec_l02Compound_u7_3_1 k s sg bg NA NU ME BA ct 0 0)) = ((allI (memP ME) ME.length && ME.all fun x => okV (nth x 2).int (nth x 3).int (nth x 4).bool (nth x 5).bool (nth x 6).list (nth x 7).list (nth x 8).list (nth x 9).list (nth x 10).int) && decide (endAt ME ME.length ≤ s)) := by
    unfold spec_l02Compound_k7_1 spec_l02Compound_u7_3_9 spec_l02Compound_u7_3_1
    rw [he]
    generalize (allI (memP ME) ME.length && ME.all fun x => okV (nth x 2).int (nth x 3).int (nth x 4).bool (nth x 5).bool (nth x 6).list (nth x 7).list (nth x 8).list (nth x 9).list (nth x 10).int) = q
    cases q <;> rfl
  rw [hv]
  simp only [bif_nf, bif_tf, bif_ft, Bool.not_not, Bool.and_assoc]
/-! spec_l02Array -/
noncomputable def spec_l02Array_t (k s : Int) (sg bg : Bool) (NA NU ME BA : List (List TC)) (ct : Int) : Tr (Bool) := (.ite ((!(s == (0 : Int))) = true) (.ok false)
  (.ite ((!(spec_l02Plain_v k s sg bg NA NU ME BA ct)) = true) (.ok false)
   (.ite ((decide ((NA.length : Int) > (0 : Int))) = true) (.ok false)
    (.ite ((decide ((NU.length : Int) > (0 : Int))) = true) (.ok false)
     (.ite ((decide ((ME.length : Int) > (0 : Int))) = true) (.ok false)
      (.ite ((!((BA.length : Int) == (1 : Int))) = true) (.ok false)
       (.ite ((spec_l00In_v ct (1 : Int) (4 : Int)) = true) (.ite ((0 : Int) ≤ (0 : Int) ∧ (0 : Int) < (BA.length : Int)) (.ite ((spec_l02Ok_rc ((nth (row BA (0 : Int)) 0).int) ((nth (row BA (0 : Int)) 1).int) ((nth (row BA (0 : Int)) 2).bool) ((nth (row BA (0 : Int)) 3).bool) ((nth (row BA (0 : Int)) 4).list) ((nth (row BA (0 : Int)) 5).list) ((nth (row BA (0 : Int)) 6).list) ((nth (row BA (0 : Int)) 7).list) ((nth (row BA (0 : Int)) 8).int)) = true) (.ok (spec_l02Ok_rv ((nth (row BA (0 : Int)) 0).int) ((nth (row BA (0 : Int)) 1).int) ((nth (row BA (0 : Int)) 2).bool) ((nth (row BA (0 : Int)) 3).bool) ((nth (row BA (0 : Int)) 4).list) ((nth (row BA (0 : Int)) 5).list) ((nth (row BA (0 : Int)) 6).list) ((nth (row BA (0 : Int)) 7).list) ((nth (row BA (0 : Int)) 8).int)))
          .no)
         .no)
        (.ok false))))))))
def spec_l02Array_mk (p : Bool) : Res := [(false, [⟨.bool, .sh, TC.b p⟩])]
noncomputable def spec_l02Array_c (k s : Int) (sg bg : Bool) (NA NU ME BA : List (List TC)) (ct : Int) : Bool := (bif (!(s == (0 : Int))) then true else (bif (!(spec_l02Plain_v k s sg bg NA NU ME BA ct)) then true else (bif (decide ((NA.length : Int) > (0 : Int))) then true else (bif (decide ((NU.length : Int) > (0 : Int))) then true else (bif (decide ((ME.length : Int) > (0 : Int))) then true else (bif (!((BA.length : Int) == (1 : Int))) then true else (bif (spec_l00In_v ct (1 : Int) (4 : Int)) then (is ((0 : Int) ≤ (0 : Int) ∧ (0 : Int) < (BA.length : Int)) && ((spec_l02Ok_rc ((nth (row BA (0 : Int)) 0).int) ((nth (row BA (0 : Int)) 1).int) ((nth (row BA (0 : Int)) 2).bool) ((nth (row BA (0 : Int)) 3).bool) ((nth (row BA (0 : Int)) 4).list) ((nth (row BA (0 : Int)) 5).list) ((nth (row BA (0 : Int)) 6).list) ((nth (row BA (0 : Int)) 7).list) ((nth (row BA (0 : Int)) 8).int)) && true)) else true)))))))
noncomputable def spec_l02Array_v (k s : Int) (sg bg : Bool) (NA NU ME BA : List (List TC)) (ct : Int) : Bool := (bif (!(s == (0 : Int))) then false else (bif (!(spec_l02Plain_v k s sg bg NA NU ME BA ct)) then false else (bif (decide ((NA.length : Int) > (0 : Int))) then false else (bif (decide ((NU.length : Int) > (0 : Int))) then false else (bif (decide ((ME.length : Int) > (0 : Int))) then false else (bif (!((BA.length : Int) == (1 : Int))) then false else (bif (spec_l00In_v ct (1 : Int) (4 : Int)) then (spec_l02Ok_rv ((nth (row BA (0 : Int)) 0).int) ((nth (row BA (0 : Int)) 1).int) ((nth (row BA (0 : Int)) 2).bool) ((nth (row BA (0 : Int)) 3).bool) ((nth (row BA (0 : Int)) 4).list) ((nth (row BA (0 : Int)) 5).list) ((nth (row BA (0 : Int)) 6).list) ((nth (row BA (0 : Int)) 7).list) ((nth (row BA (0 : Int)) 8).int)) else false)))))))
theorem spec_l02Array_l (k s : Int) (sg bg : Bool) (NA NU ME BA : List (List TC)) (ct : Int) : (spec_l02Array_c k s sg bg NA NU ME BA ct) = true → (spec_l02Array_t k s sg bg NA NU ME BA ct).val = some (spec_l02Array_v k s sg bg NA NU ME BA ct) := by
  unfold spec_l02Array_t spec_l02Array_v spec_l02Array_c
  exact fun h => (Tr.ss h (fun h => rfl) (fun h => (Tr.ss h (fun h => rfl) (fun h => (Tr.ss h (fun h => rfl) (fun h => (Tr.ss h (fun h => rfl) (fun h => (Tr.ss h (fun h => rfl) (fun h => (Tr.ss h (fun h => rfl) (fun h => (Tr.ss h (fun h => (Tr.gs h fun h => (Tr.gb h fun h => rfl))) (fun h => rfl))))))))))))))
noncomputable def spec_l02Array_S : List Arg → Option (Bool × Res) := fun xs => match xs with
  | [(true, [(.int .i64, TC.i k), (.int .i64, TC.i s), (.bool, TC.b sg), (.bool, TC.b bg), (.slice 9, TC.l NA), (.slice 2, TC.l NU), (.slice 77, TC.l ME), (.slice 32, TC.l BA), (.int .i64, TC.i ct)])] => some ((spec_l02Array_c k s sg bg NA NU ME BA ct), spec_l02Array_mk (spec_l02Array_v k s sg bg NA NU ME BA ct))
  | _ => .none
theorem spec_l02Array_e (k s : Int) (sg bg : Bool) (NA NU ME BA : List (List TC)) (ct : Int) : runF tab FT D25 live 74 noLoops [(true, [(.int .i64, TC.i k), (.int .i64, TC.i s), (.bool, TC.b sg), (.bool, TC.b bg), (.slice 9, TC.l NA), (.slice 2, TC.l NU), (.slice 77, TC.l ME), (.slice 32, TC.l BA), (.int .i64, TC.i ct)])] = (spec_l02Array_t k s sg bg NA NU ME BA ct).run fun p => some (spec_l02Array_mk p) := by kernel_rfl
theorem spec_l02Array_s : ∀ xs r, spec_l02Array_S xs = some (true, r) → runF tab FT D25 live 74 noLoops xs = some r := by
  intro xs r h
  unfold spec_l02Array_S at h
  split at h
  · simp only [Option.some.injEq, Prod.mk.injEq] at h
    obtain ⟨h1, rfl⟩ := h
    exact fun_told (spec_l02Array_e _ _ _ _ _ _ _ _ _) (spec_l02Array_l _ _ _ _ _ _ _ _ _) h1
  · cases h
noncomputable def D26 : Dt := also D25 74 spec_l02Array_S
theorem d26 : DOk Go.Proofs.Try.prog tab D26 := d25.also mixed_ok tab_ok names_ok noLoops_ok spec_l02Array_s
theorem spec_l02Array_cc {k : Int} {s : Int} {sg : Bool} {bg : Bool} {NA : List (List TC)} {NU : List (List TC)} {ME : List (List TC)} {BA : List (List TC)} {ct : Int} (hr : 0 < BA.length → spec_l02Ok_rc (nth (row BA (0 : Int)) 0).int (nth (row BA (0 : Int)) 1).int (nth (row BA (0 : Int)) 2).bool (nth (row BA (0 : Int)) 3).bool (nth (row BA (0 : Int)) 4).list (nth (row BA (0 : Int)) 5).list (nth (row BA (0 : Int)) 6).list (nth (row BA (0 : Int)) 7).list (nth (row BA (0 : Int)) 8).int = true) : (spec_l02Array_c k s sg bg NA NU ME BA ct) = true := by
  unfold spec_l02Array_c
  refine bifT (fun b1 => ?_) (fun b1 => ?_)
  · skip
    rfl
  · skip
    refine bifT (fun b2 => ?_) (fun b2 => ?_)
    · skip
      rfl
    · skip
      refine bifT (fun b3 => ?_) (fun b3 => ?_)
      · skip
        rfl
      · skip
        refine bifT (fun b4 => ?_) (fun b4 => ?_)
        · skip
          rfl
        · skip
          refine bifT (fun b5 => ?_) (fun b5 => ?_)
          · skip
            rfl
          · skip
            refine bifT (fun b6 => ?_) (fun b6 => ?_)
            · skip
              rfl
            · skip
              refine bifT (fun b7 => ?_) (fun b7 => ?_)
              · skip
                refine andT (is_true (by have e6 := bneF b6; omega)) ?_
                refine andT (by have e6 := bneF b6; exact hr (by omega)) ?_
                rfl
              · skip
                rfl
theorem spec_l02Array_vv (k s : Int) (sg bg : Bool) (NA NU ME BA : List (List TC)) (ct : Int) : spec_l02Array_v k s sg bg NA NU ME BA ct = (arrS s sg bg NA NU ME BA ct && (if h : 0 < BA.length then okV (nth (row BA (0 : Int)) 0).int (nth (row BA (0 : Int)) 1).int (nth (row BA (0 : Int)) 2).bool (nth (row BA (0 : Int)) 3).bool (nth (row BA (0 : Int)) 4).list (nth (row BA (0 : Int)) 5).list (nth (row BA (0 : Int)) 6).list (nth (row BA (0 : Int)) 7).list (nth (row BA (0 : Int)) 8).int else false)) := by
  unfold spec_l02Array_v arrS
  rw [show spec_l02Plain_v k s sg bg NA NU ME BA ct = plain sg bg from by unfold spec_l02Plain_v plain; cases sg <;> cases bg <;> rfl, show spec_l00In_v ct 1 4 = inB ct 1 4 from rfl, show spec_l02Ok_rv (nth (row BA (0 : Int)) 0).int (nth (row BA (0 : Int)) 1).int (nth (row BA (0 : Int)) 2).bool (nth (row BA (0 : Int)) 3).bool (nth (row BA (0 : Int)) 4).list (nth (row BA (0 : Int)) 5).list (nth (row BA (0 : Int)) 6).list (nth (row BA (0 : Int)) 7).list (nth (row BA (0 : Int)) 8).int = okV (nth (row BA (0 : Int)) 0).int (nth (row BA (0 : Int)) 1).int (nth (row BA (0 : Int)) 2).bool (nth (row BA (0 : Int)) 3).bool (nth (row BA (0 : Int)) 4).list (nth (row BA (0 : Int)) 5).list (nth (row BA (0 : Int)) 6).list (nth (row BA (0 : Int)) 7).list (nth (row BA (0 : Int)) 8).int from rfl]
  simp only [bif_nf, bif_tf, bif_ft, Bool.not_not, Bool.and_assoc]
  cases hb : ((BA.length : Int) == 1) with
  | true => rw [dif_pos (by have := beq_iff_eq.1 hb; omega)]
  | false => simp only [Bool.false_and, Bool.and_false]
/-! spec_l02Ok -/
noncomputable def spec_l02Ok_t (k s : Int) (sg bg : Bool) (NA NU ME BA : List (List TC)) (ct : Int) : Tr (Bool) := (.ite ((k == (1 : Int)) = true) (.ite ((k == (2 : Int)) = true) (.ite ((spec_l02Int_v k s sg bg NA NU ME BA ct) = true) (.ite ((spec_l02Plain_v k s sg bg NA NU ME BA ct) = true) (.ite (((NA.length : Int) == (0 : Int)) = true) (.ite (((NU.length : Int) == (0 : Int)) = true) (.ite (((ME.length : Int) == (0 : Int)) = true) (.ite (((BA.length : Int) == (0 : Int)) = true) (.ite ((ct == (0 : Int)) = true) (.ite ((spec_l02Size_rc k s sg bg NA NU ME BA ct) = true) (.ite ((decide ((spec_l02Size_rv k s sg bg NA NU ME BA ct) ≤ (24 : Int))) = true) (.ite ((spec_l02Depth_rc k s sg bg NA NU ME BA ct) = true) (.ok (decide ((spec_l02Depth_rv k s sg bg NA NU ME BA ct) ≤ (3 : Int))))
             .no)
            (.ok false))
           .no)
          (.ok false))
         (.ok false))
        (.ok false))
       (.ok false))
      (.ok false))
     (.ok false))
    (.ok false))
   (.ite ((k == (6 : Int)) = true) (.ite ((spec_l02Int_v k s sg bg NA NU ME BA ct) = true) (.ite ((spec_l02Plain_v k s sg bg NA NU ME BA ct) = true) (.ite (((NA.length : Int) == (0 : Int)) = true) (.ite (((NU.length : Int) == (0 : Int)) = true) (.ite (((ME.length : Int) == (0 : Int)) = true) (.ite (((BA.length : Int) == (0 : Int)) = true) (.ite ((ct == (0 : Int)) = true) (.ite ((spec_l02Size_rc k s sg bg NA NU ME BA ct) = true) (.ite ((decide ((spec_l02Size_rv k s sg bg NA NU ME BA ct) ≤ (24 : Int))) = true) (.ite ((spec_l02Depth_rc k s sg bg NA NU ME BA ct) = true) (.ok (decide ((spec_l02Depth_rv k s sg bg NA NU ME BA ct) ≤ (3 : Int))))
              .no)
             (.ok false))
            .no)
           (.ok false))
          (.ok false))
         (.ok false))
        (.ok false))
       (.ok false))
      (.ok false))
     (.ok false))
    (.ite ((spec_l02Int_v k s sg bg NA NU ME BA ct) = true) (.ite ((spec_l02Size_rc k s sg bg NA NU ME BA ct) = true) (.ite ((decide ((spec_l02Size_rv k s sg bg NA NU ME BA ct) ≤ (24 : Int))) = true) (.ite ((spec_l02Depth_rc k s sg bg NA NU ME BA ct) = true) (.ok (decide ((spec_l02Depth_rv k s sg bg NA NU ME BA ct) ≤ (3 : Int))))
        .no)
       (.ok false))
      .no)
     (.ok false))))
  (.ite ((k == (2 : Int)) = true) (.ite ((k == (2 : Int)) = true) (.ite ((spec_l00In_v s (1 : Int) (16 : Int)) = true) (.ite ((spec_l02Plain_v k s sg bg NA NU ME BA ct) = true) (.ite (((NA.length : Int) == (0 : Int)) = true) (.ite (((NU.length : Int) == (0 : Int)) = true) (.ite (((ME.length : Int) == (0 : Int)) = true) (.ite (((BA.length : Int) == (0 : Int)) = true) (.ite ((ct == (0 : Int)) = true) (.ite ((spec_l02Size_rc k s sg bg NA NU ME BA ct) = true) (.ite ((decide ((spec_l02Size_rv k s sg bg NA NU ME BA ct) ≤ (24 : Int))) = true) (.ite ((spec_l02Depth_rc k s sg bg NA NU ME BA ct) = true) (.ok (decide ((spec_l02Depth_rv k s sg bg NA NU ME BA ct) ≤ (3 : Int))))
              .no)
             (.ok false))
            .no)
           (.ok false))
          (.ok false))
         (.ok false))
        (.ok false))
       (.ok false))
      (.ok false))
     (.ok false))
    (.ite ((k == (6 : Int)) = true) (.ite ((spec_l00In_v s (1 : Int) (16 : Int)) = true) (.ite ((spec_l02Plain_v k s sg bg NA NU ME BA ct) = true) (.ite (((NA.length : Int) == (0 : Int)) = true) (.ite (((NU.length : Int) == (0 : Int)) = true) (.ite (((ME.length : Int) == (0 : Int)) = true) (.ite (((BA.length : Int) == (0 : Int)) = true) (.ite ((ct == (0 : Int)) = true) (.ite ((spec_l02Size_rc k s sg bg NA NU ME BA ct) = true) (.ite ((decide ((spec_l02Size_rv k s sg bg NA NU ME BA ct) ≤ (24 : Int))) = true) (.ite ((spec_l02Depth_rc k s sg bg NA NU ME BA ct) = true) (.ok (decide ((spec_l02Depth_rv k s sg bg NA NU ME BA ct) ≤ (3 : Int))))
               .no)
              (.ok false))
             .no)
            (.ok false))
           (.ok false))
          (.ok false))
         (.ok false))
        (.ok false))
       (.ok false))
      (.ok false))
     (.ite ((spec_l00In_v s (1 : Int) (16 : Int)) = true) (.ite ((spec_l02Size_rc k s sg bg NA NU ME BA ct) = true) (.ite ((decide ((spec_l02Size_rv k s sg bg NA NU ME BA ct) ≤ (24 : Int))) = true) (.ite ((spec_l02Depth_rc k s sg bg NA NU ME BA ct) = true) (.ok (decide ((spec_l02Depth_rv k s sg bg NA NU ME BA ct) ≤ (3 : Int))))
         .no)
        (.ok false))
       .no)
      (.ok false))))
   (.ite ((k == (3 : Int)) = true) (.ite ((spec_l02Enum_c k s sg bg NA NU ME BA ct) = true) (.ite ((k == (2 : Int)) = true) (.ite ((spec_l02Enum_v k s sg bg NA NU ME BA ct) = true) (.ite ((spec_l02Plain_v k s sg bg NA NU ME BA ct) = true) (.ite (((NA.length : Int) == (0 : Int)) = true) (.ite (((NU.length : Int) == (0 : Int)) = true) (.ite (((ME.length : Int) == (0 : Int)) = true) (.ite (((BA.length : Int) == (0 : Int)) = true) (.ite ((ct == (0 : Int)) = true) (.ite ((spec_l02Size_rc k s sg bg NA NU ME BA ct) = true) (.ite ((decide ((spec_l02Size_rv k s sg bg NA NU ME BA ct) ≤ (24 : Int))) = true) (.ite ((spec_l02Depth_rc k s sg bg NA NU ME BA ct) = true) (.ok (decide ((spec_l02Depth_rv k s sg bg NA NU ME BA ct) ≤ (3 : Int))))
                .no)
               (.ok false))
              .no)
             (.ok false))
            (.ok false))
           (.ok false))
          (.ok false))
         (.ok false))
        (.ok false))
       (.ok false))
      (.ite ((k == (6 : Int)) = true) (.ite ((spec_l02Enum_v k s sg bg NA NU ME BA ct) = true) (.ite ((spec_l02Plain_v k s sg bg NA NU ME BA ct) = true) (.ite (((NA.length : Int) == (0 : Int)) = true) (.ite (((NU.length : Int) == (0 : Int)) = true) (.ite (((ME.length : Int) == (0 : Int)) = true) (.ite (((BA.length : Int) == (0 : Int)) = true) (.ite ((ct == (0 : Int)) = true) (.ite ((spec_l02Size_rc k s sg bg NA NU ME BA ct) = true) (.ite ((decide ((spec_l02Size_rv k s sg bg NA NU ME BA ct) ≤ (24 : Int))) = true) (.ite ((spec_l02Depth_rc k s sg bg NA NU ME BA ct) = true) (.ok (decide ((spec_l02Depth_rv k s sg bg NA NU ME BA ct) ≤ (3 : Int))))
                 .no)
                (.ok false))
               .no)
              (.ok false))
             (.ok false))
            (.ok false))
           (.ok false))
          (.ok false))
         (.ok false))
        (.ok false))
       (.ite ((spec_l02Enum_v k s sg bg NA NU ME BA ct) = true) (.ite ((spec_l02Size_rc k s sg bg NA NU ME BA ct) = true) (.ite ((decide ((spec_l02Size_rv k s sg bg NA NU ME BA ct) ≤ (24 : Int))) = true) (.ite ((spec_l02Depth_rc k s sg bg NA NU ME BA ct) = true) (.ok (decide ((spec_l02Depth_rv k s sg bg NA NU ME BA ct) ≤ (3 : Int))))
           .no)
          (.ok false))
         .no)
        (.ok false))))
     .no)
    (.ite ((k == (4 : Int)) = true) (.ite ((spec_l02Compound_c k s sg bg NA NU ME BA ct) = true) (.ite ((k == (2 : Int)) = true) (.ite ((spec_l02Compound_v k s sg bg NA NU ME BA ct) = true) (.ite ((spec_l02Plain_v k s sg bg NA NU ME BA ct) = true) (.ite (((NA.length : Int) == (0 : Int)) = true) (.ite (((NU.length : Int) == (0 : Int)) = true) (.ite (((ME.length : Int) == (0 : Int)) = true) (.ite (((BA.length : Int) == (0 : Int)) = true) (.ite ((ct == (0 : Int)) = true) (.ite ((spec_l02Size_rc k s sg bg NA NU ME BA ct) = true) (.ite ((decide ((spec_l02Size_rv k s sg bg NA NU ME BA ct) ≤ (24 : Int))) = true) (.ite ((spec_l02Depth_rc k s sg bg NA NU ME BA ct) = true) (.ok (decide ((spec_l02Depth_rv k s sg bg NA NU ME BA ct) ≤ (3 : Int))))
                 .no)
                (.ok false))
               .no)
              (.ok false))
             (.ok false))
            (.ok false))
           (.ok false))
          (.ok false))
         (.ok false))
        (.ok false))
       (.ite ((k == (6 : Int)) = true) (.ite ((spec_l02Compound_v k s sg bg NA NU ME BA ct) = true) (.ite ((spec_l02Plain_v k s sg bg NA NU ME BA ct) = true) (.ite (((NA.length : Int) == (0 : Int)) = true) (.ite (((NU.length : Int) == (0 : Int)) = true) (.ite (((ME.length : Int) == (0 : Int)) = true) (.ite (((BA.length : Int) == (0 : Int)) = true) (.ite ((ct == (0 : Int)) = true) (.ite ((spec_l02Size_rc k s sg bg NA NU ME BA ct) = true) (.ite ((decide ((spec_l02Size_rv k s sg bg NA NU ME BA ct) ≤ (24 : Int))) = true) (.ite ((spec_l02Depth_rc k s sg bg NA NU ME BA ct) = true) (.ok (decide ((spec_l02Depth_rv k s sg bg NA NU ME BA ct) ≤ (3 : Int))))
                  .no)
                 (.ok false))
                .no)
               (.ok false))
              (.ok false))
             (.ok false))
            (.ok false))
           (.ok false))
          (.ok false))
         (.ok false))
        (.ite ((spec_l02Compound_v k s sg bg NA NU ME BA ct) = true) (.ite ((spec_l02Size_rc k s sg bg NA NU ME BA ct) = true) (.ite ((decide ((spec_l02Size_rv k s sg bg NA NU ME BA ct) ≤ (24 : Int))) = true) (.ite ((spec_l02Depth_rc k s sg bg NA NU ME BA ct) = true) (.ok (decide ((spec_l02Depth_rv k s sg bg NA NU ME BA ct) ≤ (3 : Int))))
            .no)
           (.ok false))
          .no)
         (.ok false))))
      .no)
     (.ite ((k == (5 : Int)) = true) (.ite ((spec_l02Array_c k s sg bg NA NU ME BA ct) = true) (.ite ((k == (2 : Int)) = true) (.ite ((spec_l02Array_v k s sg bg NA NU ME BA ct) = true) (.ite ((spec_l02Plain_v k s sg bg NA NU ME BA ct) = true) (.ite (((NA.length : Int) == (0 : Int)) = true) (.ite (((NU.length : Int) == (0 : Int)) = true) (.ite (((ME.length : Int) == (0 : Int)) = true) (.ite (((BA.length : Int) == (0 : Int)) = true) (.ite ((ct == (0 : Int)) = true) (.ite ((spec_l02Size_rc k s sg bg NA NU ME BA ct) = true) (.ite ((decide ((spec_l02Size_rv k s sg bg NA NU ME BA ct) ≤ (24 : Int))) = true) (.ite ((spec_l02Depth_rc k s sg bg NA NU ME BA ct) = true) (.ok (decide ((spec_l02Depth_rv k s sg bg NA NU ME BA ct) ≤ (3 : Int))))
                  .no)
                 (.ok false))
                .no)
               (.ok false))
              (.ok false))
             (.ok false))
            (.ok false))
           (.ok false))
          (.ok false))
         (.ok false))
        (.ite ((k == (6 : Int)) = true) (.ite ((spec_l02Array_v k s sg bg NA NU ME BA ct) = true) (.ite ((spec_l02Plain_v k s sg bg NA NU ME BA ct) = true) (.ite (((NA.length : Int) == (0 : Int)) = true) (.ite (((NU.length : Int) == (0 : Int)) = true) (.ite (((ME.length : Int) == (0 : Int)) = true) (.ite (((BA.length : Int) == (0 : Int)) = true) (.ite ((ct == (0 : Int)) = true) (.ite ((spec_l02Size_rc k s sg bg NA NU ME BA ct) = true) (.ite ((decide ((spec_l02Size_rv k s sg bg NA NU ME BA ct) ≤ (24 : Int))) = true) (.ite ((spec_l02Depth_rc k s sg bg NA NU ME BA ct) = true) (.ok (decide ((spec_l02Depth_rv k s sg bg NA NU ME BA ct) ≤ (3 : Int))))
                   .no)
                  (.ok false))
                 .no)
                (.ok false))
               (.ok false))
              (.ok false))
             (.ok false))
            (.ok false))
           (.ok false))
          (.ok false))
         (.ite ((spec_l02Array_v k s sg bg NA NU ME BA ct) = true) (.ite ((spec_l02Size_rc k s sg bg NA NU ME BA ct) = true) (.ite ((decide ((spec_l02Size_rv k s sg bg NA NU ME BA ct) ≤ (24 : Int))) = true) (.ite ((spec_l02Depth_rc k s sg bg NA NU ME BA ct) = true) (.ok (decide ((spec_l02Depth_rv k s sg bg NA NU ME BA ct) ≤ (3 : Int))))
             .no)
            (.ok false))
           .no)
          (.ok false))))
       .no)
      (.ite ((k == (6 : Int)) = true) (.ite ((k == (2 : Int)) = true) (.ite ((s == (2 : Int)) = true) (.ite ((spec_l02Plain_v k s sg bg NA NU ME BA ct) = true) (.ite (((NA.length : Int) == (0 : Int)) = true) (.ite (((NU.length : Int) == (0 : Int)) = true) (.ite (((ME.length : Int) == (0 : Int)) = true) (.ite (((BA.length : Int) == (0 : Int)) = true) (.ite ((ct == (0 : Int)) = true) (.ite ((spec_l02Size_rc k s sg bg NA NU ME BA ct) = true) (.ite ((decide ((spec_l02Size_rv k s sg bg NA NU ME BA ct) ≤ (24 : Int))) = true) (.ite ((spec_l02Depth_rc k s sg bg NA NU ME BA ct) = true) (.ok (decide ((spec_l02Depth_rv k s sg bg NA NU ME BA ct) ≤ (3 : Int))))
                  .no)
                 (.ok false))
                .no)
               (.ok false))
              (.ok false))
             (.ok false))
            (.ok false))
           (.ok false))
          (.ok false))
         (.ok false))
        (.ite ((k == (6 : Int)) = true) (.ite ((s == (2 : Int)) = true) (.ite ((spec_l02Plain_v k s sg bg NA NU ME BA ct) = true) (.ite (((NA.length : Int) == (0 : Int)) = true) (.ite (((NU.length : Int) == (0 : Int)) = true) (.ite (((ME.length : Int) == (0 : Int)) = true) (.ite (((BA.length : Int) == (0 : Int)) = true) (.ite ((ct == (0 : Int)) = true) (.ite ((spec_l02Size_rc k s sg bg NA NU ME BA ct) = true) (.ite ((decide ((spec_l02Size_rv k s sg bg NA NU ME BA ct) ≤ (24 : Int))) = true) (.ite ((spec_l02Depth_rc k s sg bg NA NU ME BA ct) = true) (.ok (decide ((spec_l02Depth_rv k s sg bg NA NU ME BA ct) ≤ (3 : Int))))
                   .no)
                  (.ok false))
                 .no)
                (.ok false))
               (.ok false))
              (.ok false))
             (.ok false))
            (.ok false))
           (.ok false))
          (.ok false))
         (.ite ((s == (2 : Int)) = true) (.ite ((spec_l02Size_rc k s sg bg NA NU ME BA ct) = true) (.ite ((decide ((spec_l02Size_rv k s sg bg NA NU ME BA ct) ≤ (24 : Int))) = true) (.ite ((spec_l02Depth_rc k s sg bg NA NU ME BA ct) = true) (.ok (decide ((spec_l02Depth_rv k s sg bg NA NU ME BA ct) ≤ (3 : Int))))
             .no)
            (.ok false))
           .no)
          (.ok false))))
       (.ite ((k == (2 : Int)) = true) (.ok false)
        (.ite ((k == (6 : Int)) = true) (.ok false)
         (.ok false)))))))))
def spec_l02Ok_mk (p : Bool) : Res := [(false, [⟨.bool, .sh, TC.b p⟩])]
noncomputable def spec_l02Ok_c (k s : Int) (sg bg : Bool) (NA NU ME BA : List (List TC)) (ct : Int) : Bool := (bif (k == (1 : Int)) then (bif (k == (2 : Int)) then (bif (spec_l02Int_v k s sg bg NA NU ME BA ct) then (bif (spec_l02Plain_v k s sg bg NA NU ME BA ct) then (bif ((NA.length : Int) == (0 : Int)) then (bif ((NU.length : Int) == (0 : Int)) then (bif ((ME.length : Int) == (0 : Int)) then (bif ((BA.length : Int) == (0 : Int)) then (bif (ct == (0 : Int)) then ((spec_l02Size_rc k s sg bg NA NU ME BA ct) && (bif (decide ((spec_l02Size_rv k s sg bg NA NU ME BA ct) ≤ (24 : Int))) then ((spec_l02Depth_rc k s sg bg NA NU ME BA ct) && true) else true)) else true) else true) else true) else true) else true) else true) else true) else (bif (k == (6 : Int)) then (bif (spec_l02Int_v k s sg bg NA NU ME BA ct) then (bif (spec_l02Plain_v k s sg bg NA NU ME BA ct) then (bif ((NA.length : Int) == (0 : Int)) then (bif ((NU.length : Int) == (0 : Int)) then (bif ((ME.length : Int) == (0 : Int)) then (bif ((BA.length : Int) == (0 : Int)) then (bif (ct == (0 : Int)) then ((spec_l02Size_rc k s sg bg NA NU ME BA ct) && (bif (decide ((spec_l02Size_rv k s sg bg NA NU ME BA ct) ≤ (24 : Int))) then ((spec_l02Depth_rc k s sg bg NA NU ME BA ct) && true) else true)) else true) else true) else true) else true) else true) else true) else true) else (bif (spec_l02Int_v k s sg bg NA NU ME BA ct) then ((spec_l02Size_rc k s sg bg NA NU ME BA ct) && (bif (decide ((spec_l02Size_rv k s sg bg NA NU ME BA ct) ≤ (24 : Int))) then ((spec_l02Depth_rc k s sg bg NA NU ME BA ct) && true) else true)) else true))) else (bif (k == (2 : Int)) then (bif (k == (2 : Int)) then (bif (spec_l00In_v s (1 : Int) (16 : Int)) then (bif (spec_l02Plain_v k s sg bg NA NU ME BA ct) then (bif ((NA.length : Int) == (0 : Int)) then (bif ((NU.length : Int) == (0 : Int)) then (bif ((ME.length : Int) == (0 : Int)) then (bif ((BA.length : Int) == (0 : Int)) then (bif (ct == (0 : Int)) then ((spec_l02Size_rc k s sg bg NA NU ME BA ct) && (bif (decide ((spec_l02Size_rv k s sg bg NA NU ME BA ct) ≤ (24 : Int))) then ((spec_l02Depth_rc k s sg bg NA NU ME BA ct) && true) else true)) else true) else true) else true) else true) else true) else true) else true) else (bif (k == (6 : Int)) then (bif (spec_l00In_v s (1 : Int) (16 : Int)) then (bif (spec_l02Plain_v k s sg bg NA NU ME BA ct) then (bif ((NA.length : Int) == (0 : Int)) then (bif ((NU.length : Int) == (0 : Int)) then (bif ((ME.length : Int) == (0 : Int)) then (bif ((BA.length : Int) == (0 : Int)) then (bif (ct == (0 : Int)) then ((spec_l02Size_rc k s sg bg NA NU ME BA ct) && (bif (decide ((spec_l02Size_rv k s sg bg NA NU ME BA ct) ≤ (24 : Int))) then ((spec_l02Depth_rc k s sg bg NA NU ME BA ct) && true) else true)) else true) else true) else true) else true) else true) else true) else true) else (bif (spec_l00In_v s (1 : Int) (16 : Int)) then ((spec_l02Size_rc k s sg bg NA NU ME BA ct) && (bif (decide ((spec_l02Size_rv k s sg bg NA NU ME BA ct) ≤ (24 : Int))) then ((spec_l02Depth_rc k s sg bg NA NU ME BA ct) && true) else true)) else true))) else (bif (k == (3 : Int)) then ((spec_l02Enum_c k s sg bg NA NU ME BA ct) && (bif (k == (2 : Int)) then (bif (spec_l02Enum_v k s sg bg NA NU ME BA ct) then (bif (spec_l02Plain_v k s sg bg NA NU ME BA ct) then (bif ((NA.length : Int) == (0 : Int)) then (bif ((NU.length : Int) == (0 : Int)) then (bif ((ME.length : Int) == (0 : Int)) then (bif ((BA.length : Int) == (0 : Int)) then (bif (ct == (0 : Int)) then ((spec_l02Size_rc k s sg bg NA NU ME BA ct) && (bif (decide ((spec_l02Size_rv k s sg bg NA NU ME BA ct) ≤ (24 : Int))) then ((spec_l02Depth_rc k s sg bg NA NU ME BA ct) && true) else true)) else true) else true) else true) else true) else true) else true) else true) else (bif (k == (6 : Int)) then (bif (spec_l02Enum_v k s sg bg NA NU ME BA ct) then (bif (spec_l02Plain_v k s sg bg NA NU ME BA ct) then (bif ((NA.length : Int) == (0 : Int)) then (bif ((NU.length : Int) == (0 : Int)) then (bif ((ME.length : Int) == (0 : Int)) then (bif ((BA.length : Int) == (0 : Int)) then (bif (ct == (0 : Int)) then ((spec_l02Size_rc k s sg bg NA NU ME BA ct) && (bif (decide ((spec_l02Size_rv k s sg bg NA NU ME BA ct) ≤ (24 : Int))) then ((spec_l02Depth_rc k s sg bg NA NU ME BA ct) && true) else true)) else true) else true) else true) else true) else true) else true) else true) else (bif (spec_l02Enum_v k s sg bg NA NU ME BA ct) then ((spec_l02Size_rc k s sg bg NA NU ME BA ct) && (bif (decide ((spec_l02Size_rv k s sg bg NA NU ME BA ct) ≤ (24 : Int))) then ((spec_l02Depth_rc k s sg bg NA NU ME BA ct) && true) else true)) else true)))) else (bif (k == (4 : Int)) then ((spec_l02Compound_c k s sg bg NA NU ME BA ct) && (bif (k == (2 : Int)) then (bif (spec_l02Compound_v k s sg bg NA NU ME BA ct) then (bif (spec_l02Plain_v k s sg bg NA NU ME BA ct) then (bif ((NA.length : Int) == (0 : Int)) then (bif ((NU.length : Int) == (0 : Int)) then (bif ((ME.length : Int) == (0 : Int)) then (bif ((BA.length : Int) == (0 : Int)) then (bif (ct == (0 : Int)) then ((spec_l02Size_rc k s sg bg NA NU ME BA ct) && (bif (decide ((spec_l02Size_rv k s sg bg NA NU ME BA ct) ≤ (24 : Int))) then ((spec_l02Depth_rc k s sg bg NA NU ME BA ct) && true) else true)) else true) else true) else true) else true) else true) else true) else true) else (bif (k == (6 : Int)) then (bif (spec_l02Compound_v k s sg bg NA NU ME BA ct) then (bif (spec_l02Plain_v k s sg bg NA NU ME BA ct) then (bif ((NA.length : Int) == (0 : Int)) then (bif ((NU.length : Int) == (0 : Int)) then (bif ((ME.length : Int) == (0 : Int)) then (bif ((BA.length : Int) == (0 : Int)) then (bif (ct == (0 : Int)) then ((spec_l02Size_rc k s sg bg NA NU ME BA ct) && (bif (decide ((spec_l02Size_rv k s sg bg NA NU ME BA ct) ≤ (24 : Int))) then ((spec_l02Depth_rc k s sg bg NA NU ME BA ct) && true) else true)) else true) else true) else true) else true) else true) else true) else true) else (bif (spec_l02Compound_v k s sg bg NA NU ME BA ct) then ((spec_l02Size_rc k s sg bg NA NU ME BA ct) && (bif (decide ((spec_l02Size_rv k s sg bg NA NU ME BA ct) ≤ (24 : Int))) then ((spec_l02Depth_rc k s sg bg NA NU ME BA ct) && true) else true)) else true)))) else (bif (k == (5 : Int)) then ((spec_l02Array_c k s sg bg NA NU ME BA ct) && (bif (k == (2 : Int)) then (bif (spec_l02Array_v k s sg bg NA NU ME BA ct) then (bif (spec_l02Plain_v k s sg bg NA NU ME BA ct) then (bif ((NA.length : Int) == (0 : Int)) then (bif ((NU.length : Int) == (0 : Int)) then (bif ((ME.length : Int) == (0 : Int)) then (bif ((BA.length : Int) == (0 : Int)) then (bif (ct == (0 : Int)) then ((spec_l02Size_rc k s sg bg NA NU ME BA ct) && (bif (decide ((spec_l02Size_rv k s sg bg NA NU ME BA ct) ≤ (24 : Int))) then ((spec_l02Depth_rc k s sg bg NA NU ME BA ct) && true) else true)) else true) else true) else true) else true) else true) else true) else true) else (bif (k == (6 : Int)) then (bif (spec_l02Array_v k s sg bg NA NU ME BA ct) then (bif (spec_l02Plain_v k s sg bg NA NU ME BA ct) then (bif ((NA.length : Int) == (0 : Int)) then (bif ((NU.length : Int) == (0 : Int)) then (bif ((ME.length : Int) == (0 : Int)) then (bif ((BA.length : Int) == (0 : Int)) then (bif (ct == (0 : Int)) then ((spec_l02Size_rc k s sg bg NA NU ME BA ct) && (bif (decide ((spec_l02Size_rv k s sg bg NA NU ME BA ct) ≤ (24 : Int))) then ((spec_l02Depth_rc k s sg bg NA NU ME BA ct) && true) else true)) else true) else true) else true) else true) else true) else true) else true) else (bif (spec_l02Array_v k s sg bg NA NU ME BA ct) then ((spec_l02Size_rc k s sg bg NA NU ME BA ct) && (bif (decide ((spec_l02Size_rv k s sg bg NA NU ME BA ct) ≤ (24 : Int))) then ((spec_l02Depth_rc k s sg bg NA NU ME BA ct) && true) else true)) else true)))) else (bif (k == (6 : Int)) then (bif (k == (2 : Int)) then (bif (s == (2 : Int)) then (bif (spec_l02Plain_v k s sg bg NA NU ME BA ct) then (bif ((NA.length : Int) == (0 : Int)) then (bif ((NU.length : Int) == (0 : Int)) then (bif ((ME.length : Int) == (0 : Int)) then (bif ((BA.length : Int) == (0 : Int)) then (bif (ct == (0 : Int)) then ((spec_l02Size_rc k s sg bg NA NU ME BA ct) && (bif (decide ((spec_l02Size_rv k s sg bg NA NU ME BA ct) ≤ (24 : Int))) then ((spec_l02Depth_rc k s sg bg NA NU ME BA ct) && true) else true)) else true) else true) else true) else true) else true) else true) else true) else (bif (k == (6 : Int)) then (bif (s == (2 : Int)) then (bif (spec_l02Plain_v k s sg bg NA NU ME BA ct) then (bif ((NA.length : Int) == (0 : Int)) then (bif ((NU.length : Int) == (0 : Int)) then (bif ((ME.length : Int) == (0 : Int)) then (bif ((BA.length : Int) == (0 : Int)) then (bif (ct == (0 : Int)) then ((spec_l02Size_rc k s sg bg NA NU ME BA ct) && (bif (decide ((spec_l02Size_rv k s sg bg NA NU ME BA ct) ≤ (24 : Int))) then ((spec_l02Depth_rc k s sg bg NA NU ME BA ct) && true) else true)) else true) else true) else true) else true) else true) else true) else true) else (bif (s == (2 : Int)) then ((spec_l02Size_rc k s sg bg NA NU ME BA ct) && (bif (decide ((spec_l02Size_rv k s sg bg NA NU ME BA ct) ≤ (24 : Int))) then ((spec_l02Depth_rc k s sg bg NA NU ME BA ct) && true) else true)) else true))) else (bif (k == (2 : Int)) then true else (bif (k == (6 : Int)) then true else true))))))))
noncomputable def spec_l02Ok_v (k s : Int) (sg bg : Bool) (NA NU ME BA : List (List TC)) (ct : Int) : Bool := (bif (k == (1 : Int)) then (bif (k == (2 : Int)) then (bif (spec_l02Int_v k s sg bg NA NU ME BA ct) then (bif (spec_l02Plain_v k s sg bg NA NU ME BA ct) then (bif ((NA.length : Int) == (0 : Int)) then (bif ((NU.length : Int) == (0 : Int)) then (bif ((ME.length : Int) == (0 : Int)) then (bif ((BA.length : Int) == (0 : Int)) then (bif (ct == (0 : Int)) then (bif (decide ((spec_l02Size_rv k s sg bg NA NU ME BA ct) ≤ (24 : Int))) then (decide ((spec_l02Depth_rv k s sg bg NA NU ME BA ct) ≤ (3 : Int))) else false) else false) else false) else false) else false) else false) else false) else false) else (bif (k == (6 : Int)) then (bif (spec_l02Int_v k s sg bg NA NU ME BA ct) then (bif (spec_l02Plain_v k s sg bg NA NU ME BA ct) then (bif ((NA.length : Int) == (0 : Int)) then (bif ((NU.length : Int) == (0 : Int)) then (bif ((ME.length : Int) == (0 : Int)) then (bif ((BA.length : Int) == (0 : Int)) then (bif (ct == (0 : Int)) then (bif (decide ((spec_l02Size_rv k s sg bg NA NU ME BA ct) ≤ (24 : Int))) then (decide ((spec_l02Depth_rv k s sg bg NA NU ME BA ct) ≤ (3 : Int))) else false) else false) else false) else false) else false) else false) else false) else false) else (bif (spec_l02Int_v k s sg bg NA NU ME BA ct) then (bif (decide ((spec_l02Size_rv k s sg bg NA NU ME BA ct) ≤ (24 : Int))) then (decide ((spec_l02Depth_rv k s sg bg NA NU ME BA ct) ≤ (3 : Int))) else false) else false))) else (bif (k == (2 : Int)) then (bif (k == (2 : Int)) then (bif (spec_l00In_v s (1 : Int) (16 : Int)) then (bif (spec_l02Plain_v k s sg bg NA NU ME BA ct) then (bif ((NA.length : Int) == (0 : Int)) then (bif ((NU.length : Int) == (0 : Int)) then (bif ((ME.length : Int) == (0 : Int)) then (bif ((BA.length : Int) == (0 : Int)) then (bif (ct == (0 : Int)) then (bif (decide ((spec_l02Size_rv k s sg bg NA NU ME BA ct) ≤ (24 : Int))) then (decide ((spec_l02Depth_rv k s sg bg NA NU ME BA ct) ≤ (3 : Int))) else false) else false) else false) else false) else false) else false) else false) else false) else (bif (k == (6 : Int)) then (bif (spec_l00In_v s (1 : Int) (16 : Int)) then (bif (spec_l02Plain_v k s sg bg NA NU ME BA ct) then (bif ((NA.length : Int) == (0 : Int)) then (bif ((NU.length : Int) == (0 : Int)) then (bif ((ME.length : Int) == (0 : Int)) then (bif ((BA.length : Int) == (0 : Int)) then (bif (ct == (0 : Int)) then (bif (decide ((spec_l02Size_rv k s sg bg NA NU ME BA ct) ≤ (24 : Int))) then (decide ((spec_l02Depth_rv k s sg bg NA NU ME BA ct) ≤ (3 : Int))) else false) else false) else false) else false) else false) else false) else false) else false) else (bif (spec_l00In_v s (1 : Int) (16 : Int)) then (bif (decide ((spec_l02Size_rv k s sg bg NA NU ME BA ct) ≤ (24 : Int))) then (decide ((spec_l02Depth_rv k s sg bg NA NU ME BA ct) ≤ (3 : Int))) else false) else false))) else (bif (k == (3 : Int)) then (bif (k == (2 : Int)) then (bif (spec_l02Enum_v k s sg bg NA NU ME BA ct) then (bif (spec_l02Plain_v k s sg bg NA NU ME BA ct) then (bif ((NA.length : Int) == (0 : Int)) then (bif ((NU.length : Int) == (0 : Int)) then (bif ((ME.length : Int) == (0 : Int)) then (bif ((BA.length : Int) == (0 : Int)) then (bif (ct == (0 : Int)) then (bif (decide ((spec_l02Size_rv k s sg bg NA NU ME BA ct) ≤ (24 : Int))) then (decide ((spec_l02Depth_rv k s sg bg NA NU ME BA ct) ≤ (3 : Int))) else false) else false) else false) else false) else false) else false) else false) else false) else (bif (k == (6 : Int)) then (bif (spec_l02Enum_v k s sg bg NA NU ME BA ct) then (bif (spec_l02Plain_v k s sg bg NA NU ME BA ct) then (bif ((NA.length : Int) == (0 : Int)) then (bif ((NU.length : Int) == (0 : Int)) then (bif ((ME.length : Int) == (0 : Int)) then (bif ((BA.length : Int) == (0 : Int)) then (bif (ct == (0 : Int)) then (bif (decide ((spec_l02Size_rv k s sg bg NA NU ME BA ct) ≤ (24 : Int))) then (decide ((spec_l02Depth_rv k s sg bg NA NU ME BA ct) ≤ (3 : Int))) else false) else false) else false) else false) else false) else false) else false) else false) else (bif (spec_l02Enum_v k s sg bg NA NU ME BA ct) then (bif (decide ((spec_l02Size_rv k s sg bg NA NU ME BA ct) ≤ (24 : Int))) then (decide ((spec_l02Depth_rv k s sg bg NA NU ME BA ct) ≤ (3 : Int))) else false) else false))) else (bif (k == (4 : Int)) then (bif (k == (2 : Int)) then (bif (spec_l02Compound_v k s sg bg NA NU ME BA ct) then (bif (spec_l02Plain_v k s sg bg NA NU ME BA ct) then (bif ((NA.length : Int) == (0 : Int)) then (bif ((NU.length : Int) == (0 : Int)) then (bif ((ME.length : Int) == (0 : Int)) then (bif ((BA.length : Int) == (0 : Int)) then (bif (ct == (0 : Int)) then (bif (decide ((spec_l02Size_rv k s sg bg NA NU ME BA ct) ≤ (24 : Int))) then (decide ((spec_l02Depth_rv k s sg bg NA NU ME BA ct) ≤ (3 : Int))) else false) else false) else false) else false) else false) else false) else false) else false) else (bif (k == (6 : Int)) then (bif (spec_l02Compound_v k s sg bg NA NU ME BA ct) then (bif (spec_l02Plain_v k s sg bg NA NU ME BA ct) then (bif ((NA.length : Int) == (0 : Int)) then (bif ((NU.length : Int) == (0 : Int)) then (bif ((ME.length : Int) == (0 : Int)) then (bif ((BA.length : Int) == (0 : Int)) then (bif (ct == (0 : Int)) then (bif (decide ((spec_l02Size_rv k s sg bg NA NU ME BA ct) ≤ (24 : Int))) then (decide ((spec_l02Depth_rv k s sg bg NA NU ME BA ct) ≤ (3 : Int))) else false) else false) else false) else false) else false) else false) else false) else false) else (bif (spec_l02Compound_v k s sg bg NA NU ME BA ct) then (bif (decide ((spec_l02Size_rv k s sg bg NA NU ME BA ct) ≤ (24 : Int))) then (decide ((spec_l02Depth_rv k s sg bg NA NU ME BA ct) ≤ (3 : Int))) else false) else false))) else (bif (k == (5 : Int)) then (bif (k == (2 : Int)) then (bif (spec_l02Array_v k s sg bg NA NU ME BA ct) then (bif (spec_l02Plain_v k s sg bg NA NU ME BA ct) then (bif ((NA.length : Int) == (0 : Int)) then (bif ((NU.length : Int) == (0 : Int)) then (bif ((ME.length : Int) == (0 : Int)) then (bif ((BA.length : Int) == (0 : Int)) then (bif (ct == (0 : Int)) then (bif (decide ((spec_l02Size_rv k s sg bg NA NU ME BA ct) ≤ (24 : Int))) then (decide ((spec_l02Depth_rv k s sg bg NA NU ME BA ct) ≤ (3 : Int))) else false) else false) else false) else false) else false) else false) else false) else false) else (bif (k == (6 : Int)) then (bif (spec_l02Array_v k s sg bg NA NU ME BA ct) then (bif (spec_l02Plain_v k s sg bg NA NU ME BA ct) then (bif ((NA.length : Int) == (0 : Int)) then (bif ((NU.length : Int) == (0 : Int)) then (bif ((ME.length : Int) == (0 : Int)) then (bif ((BA.length : Int) == (0 : Int)) then (bif (ct == (0 : Int)) then (bif (decide ((spec_l02Size_rv k s sg bg NA NU ME BA ct) ≤ (24 : Int))) then (decide ((spec_l02Depth_rv k s sg bg NA NU ME BA ct) ≤ (3 : Int))) else false) else false) else false) else false) else false) else false) else false) else false) else (bif (spec_l02Array_v k s sg bg NA NU ME BA ct) then (bif (decide ((spec_l02Size_rv k s sg bg NA NU ME BA ct) ≤ (24 : Int))) then (decide ((spec_l02Depth_rv k s sg bg NA NU ME BA ct) ≤ (3 : Int))) else false) else false))) else (bif (k == (6 : Int)) then (bif (k == (2 : Int)) then (bif (s == (2 : Int)) then (bif (spec_l02Plain_v k s sg bg NA NU ME BA ct) then (bif ((NA.length : Int) == (0 : Int)) then (bif ((NU.length : Int) == (0 : Int)) then (bif ((ME.length : Int) == (0 : Int)) then (bif ((BA.length : Int) == (0 : Int)) then (bif (ct == (0 : Int)) then (bif (decide ((spec_l02Size_rv k s sg bg NA NU ME BA ct) ≤ (24 : Int))) then (decide ((spec_l02Depth_rv k s sg bg NA NU ME BA ct) ≤ (3 : Int))) else false) else false) else false) else false) else false) else false) else false) else false) else (bif (k == (6 : Int)) then (bif (s == (2 : Int)) then (bif (spec_l02Plain_v k s sg bg NA NU ME BA ct) then (bif ((NA.length : Int) == (0 : Int)) then (bif ((NU.length : Int) == (0 : Int)) then (bif ((ME.length : Int) == (0 : Int)) then (bif ((BA.length : Int) == (0 : Int)) then (bif (ct == (0 : Int)) then (bif (decide ((spec_l02Size_rv k s sg bg NA NU ME BA ct) ≤ (24 : Int))) then (decide ((spec_l02Depth_rv k s sg bg NA NU ME BA ct) ≤ (3 : Int))) else false) else false) else false) else false) else false) else false) else false) else false) else (bif (s == (2 : Int)) then (bif (decide ((spec_l02Size_rv k s sg bg NA NU ME BA ct) ≤ (24 : Int))) then (decide ((spec_l02Depth_rv k s sg bg NA NU ME BA ct) ≤ (3 : Int))) else false) else false))) else (bif (k == (2 : Int)) then false else (bif (k == (6 : Int)) then false else false))))))))
theorem spec_l02Ok_l (k s : Int) (sg bg : Bool) (NA NU ME BA : List (List TC)) (ct : Int) : (spec_l02Ok_c k s sg bg NA NU ME BA ct) = true → (spec_l02Ok_t k s sg bg NA NU ME BA ct).val = some (spec_l02Ok_v k s sg bg NA NU ME BA ct) := by
  unfold spec_l02Ok_t spec_l02Ok_v spec_l02Ok_c
  exact fun h => (Tr.ss h (fun h => (Tr.ss h (fun h => (Tr.ss h (fun h => (Tr.ss h (fun h => (Tr.ss h (fun h => (Tr.ss h (fun h => (Tr.ss h (fun h => (Tr.ss h (fun h => (Tr.ss h (fun h => (Tr.gb h fun h => (Tr.ss h (fun h => (Tr.gb h fun h => rfl)) (fun h => rfl)))) (fun h => rfl))) (fun h => rfl))) (fun h => rfl))) (fun h => rfl))) (fun h => rfl))) (fun h => rfl))) (fun h => rfl))) (fun h => (Tr.ss h (fun h => (Tr.ss h (fun h => (Tr.ss h (fun h => (Tr.ss h (fun h => (Tr.ss h (fun h => (Tr.ss h (fun h => (Tr.ss h (fun h => (Tr.ss h (fun h => (Tr.gb h fun h => (Tr.ss h (fun h => (Tr.gb h fun h => rfl)) (fun h => rfl)))) (fun h => rfl))) (fun h => rfl))) (fun h => rfl))) (fun h => rfl))) (fun h => rfl))) (fun h => rfl))) (fun h => rfl))) (fun h => (Tr.ss h (fun h => (Tr.gb h fun h => (Tr.ss h (fun h => (Tr.gb h fun h => rfl)) (fun h => rfl)))) (fun h => rfl))))))) (fun h => (Tr.ss h (fun h => (Tr.ss h (fun h => (Tr.ss h (fun h => (Tr.ss h (fun h => (Tr.ss h (fun h => (Tr.ss h (fun h => (Tr.ss h (fun h => (Tr.ss h (fun h => (Tr.ss h (fun h => (Tr.gb h fun h => (Tr.ss h (fun h => (Tr.gb h fun h => rfl)) (fun h => rfl)))) (fun h => rfl))) (fun h => rfl))) (fun h => rfl))) (fun h => rfl))) (fun h => rfl))) (fun h => rfl))) (fun h => rfl))) (fun h => (Tr.ss h (fun h => (Tr.ss h (fun h => (Tr.ss h (fun h => (Tr.ss h (fun h => (Tr.ss h (fun h => (Tr.ss h (fun h => (Tr.ss h (fun h => (Tr.ss h (fun h => (Tr.gb h fun h => (Tr.ss h (fun h => (Tr.gb h fun h => rfl)) (fun h => rfl)))) (fun h => rfl))) (fun h => rfl))) (fun h => rfl))) (fun h => rfl))) (fun h => rfl))) (fun h => rfl))) (fun h => rfl))) (fun h => (Tr.ss h (fun h => (Tr.gb h fun h => (Tr.ss h (fun h => (Tr.gb h fun h => rfl)) (fun h => rfl)))) (fun h => rfl))))))) (fun h => (Tr.ss h (fun h => (Tr.gb h fun h => (Tr.ss h (fun h => (Tr.ss h (fun h => (Tr.ss h (fun h => (Tr.ss h (fun h => (Tr.ss h (fun h => (Tr.ss h (fun h => (Tr.ss h (fun h => (Tr.ss h (fun h => (Tr.gb h fun h => (Tr.ss h (fun h => (Tr.gb h fun h => rfl)) (fun h => rfl)))) (fun h => rfl))) (fun h => rfl))) (fun h => rfl))) (fun h => rfl))) (fun h => rfl))) (fun h => rfl))) (fun h => rfl))) (fun h => (Tr.ss h (fun h => (Tr.ss h (fun h => (Tr.ss h (fun h => (Tr.ss h (fun h => (Tr.ss h (fun h => (Tr.ss h (fun h => (Tr.ss h (fun h => (Tr.ss h (fun h => (Tr.gb h fun h => (Tr.ss h (fun h => (Tr.gb h fun h => rfl)) (fun h => rfl)))) (fun h => rfl))) (fun h => rfl))) (fun h => rfl))) (fun h => rfl))) (fun h => rfl))) (fun h => rfl))) (fun h => rfl))) (fun h => (Tr.ss h (fun h => (Tr.gb h fun h => (Tr.ss h (fun h => (Tr.gb h fun h => rfl)) (fun h => rfl)))) (fun h => rfl)))))))) (fun h => (Tr.ss h (fun h => (Tr.gb h fun h => (Tr.ss h (fun h => (Tr.ss h (fun h => (Tr.ss h (fun h => (Tr.ss h (fun h => (Tr.ss h (fun h => (Tr.ss h (fun h => (Tr.ss h (fun h => (Tr.ss h (fun h => (Tr.gb h fun h => (Tr.ss h (fun h => (Tr.gb h fun h => rfl)) (fun h => rfl)))) (fun h => rfl))) (fun h => rfl))) (fun h => rfl))) (fun h => rfl))) (fun h => rfl))) (fun h => rfl))) (fun h => rfl))) (fun h => (Tr.ss h (fun h => (Tr.ss h (fun h => (Tr.ss h (fun h => (Tr.ss h (fun h => (Tr.ss h (fun h => (Tr.ss h (fun h => (Tr.ss h (fun h => (Tr.ss h (fun h => (Tr.gb h fun h => (Tr.ss h (fun h => (Tr.gb h fun h => rfl)) (fun h => rfl)))) (fun h => rfl))) (fun h => rfl))) (fun h => rfl))) (fun h => rfl))) (fun h => rfl))) (fun h => rfl))) (fun h => rfl))) (fun h => (Tr.ss h (fun h => (Tr.gb h fun h => (Tr.ss h (fun h => (Tr.gb h fun h => rfl)) (fun h => rfl)))) (fun h => rfl)))))))) (fun h => (Tr.ss h (fun h => (Tr.gb h fun h => (Tr.ss h (fun h => (Tr.ss h (fun h => (Tr.ss h (fun h => (Tr.ss h (fun h => (Tr.ss h (fun h => (Tr.ss h (fun h => (Tr.ss h (fun h => (Tr.ss h (fun h => (Tr.gb h fun h => (Tr.ss h (fun h => (Tr.gb h fun h => rfl)) (fun h => rfl)))) (fun h => rfl))) (fun h => rfl))) (fun h => rfl))) (fun h => rfl))) (fun h => rfl))) (fun h => rfl))) (fun h => rfl))) (fun h => (Tr.ss h (fun h => (Tr.ss h (fun h => (Tr.ss h (fun h => (Tr.ss h (fun h => (Tr.ss h (fun h => (Tr.ss h (fun h => (Tr.ss h (fun h => (Tr.ss h (fun h => (Tr.gb h fun h => (Tr.ss h (fun h => (Tr.gb h fun h => rfl)) (fun h => rfl)))) (fun h => rfl))) (fun h => rfl))) (fun h => rfl))) (fun h => rfl))) (fun h => rfl))) (fun h => rfl))) (fun h => rfl))) (fun h => (Tr.ss h (fun h => (Tr.gb h fun h => (Tr.ss h (fun h => (Tr.gb h fun h => rfl)) (fun h => rfl)))) (fun h => rfl)))))))) (fun h => (Tr.ss h (fun h => (Tr.ss h (fun h => (Tr.ss h (fun h => (Tr.ss h (fun h => (Tr.ss h (fun h => (Tr.ss h (fun h => (Tr.ss h (fun h => (Tr.ss h (fun h => (Tr.ss h (fun h => (Tr.gb h fun h => (Tr.ss h (fun h => (Tr.gb h fun h => rfl)) (fun h => rfl)))) (fun h => rfl))) (fun h => rfl))) (fun h => rfl))) (fun h => rfl))) (fun h => rfl))) (fun h => rfl))) (fun h => rfl))) (fun h => (Tr.ss h (fun h => (Tr.ss h (fun h => (Tr.ss h (fun h => (Tr.ss h (fun h => (Tr.ss h (fun h => (Tr.ss h (fun h => (Tr.ss h (fun h => (Tr.ss h (fun h => (Tr.gb h fun h => (Tr.ss h (fun h => (Tr.gb h fun h => rfl)) (fun h => rfl)))) (fun h => rfl))) (fun h => rfl))) (fun h => rfl))) (fun h => rfl))) (fun h => rfl))) (fun h => rfl))) (fun h => rfl))) (fun h => (Tr.ss h (fun h => (Tr.gb h fun h => (Tr.ss h (fun h => (Tr.gb h fun h => rfl)) (fun h => rfl)))) (fun h => rfl))))))) (fun h => (Tr.ss h (fun h => rfl) (fun h => (Tr.ss h (fun h => rfl) (fun h => rfl))))))))))))))))
noncomputable def spec_l02Ok_S : List Arg → Option (Bool × Res) := fun xs => match xs with
  | [(true, [(.int .i64, TC.i k), (.int .i64, TC.i s), (.bool, TC.b sg), (.bool, TC.b bg), (.slice 9, TC.l NA), (.slice 2, TC.l NU), (.slice 77, TC.l ME), (.slice 32, TC.l BA), (.int .i64, TC.i ct)])] => some ((spec_l02Ok_c k s sg bg NA NU ME BA ct), spec_l02Ok_mk (spec_l02Ok_v k s sg bg NA NU ME BA ct))
  | _ => .none
theorem spec_l02Ok_e (k s : Int) (sg bg : Bool) (NA NU ME BA : List (List TC)) (ct : Int) : runF tab FT D26 live 33 noLoops [(true, [(.int .i64, TC.i k), (.int .i64, TC.i s), (.bool, TC.b sg), (.bool, TC.b bg), (.slice 9, TC.l NA), (.slice 2, TC.l NU), (.slice 77, TC.l ME), (.slice 32, TC.l BA), (.int .i64, TC.i ct)])] = (spec_l02Ok_t k s sg bg NA NU ME BA ct).run fun p => some (spec_l02Ok_mk p) := by kernel_rfl
theorem spec_l02Ok_s : ∀ xs r, spec_l02Ok_S xs = some (true, r) → runF tab FT D26 live 33 noLoops xs = some r := by
  intro xs r h
  unfold spec_l02Ok_S at h
  split at h
  · simp only [Option.some.injEq, Prod.mk.injEq] at h
    obtain ⟨h1, rfl⟩ := h
    exact fun_told (spec_l02Ok_e _ _ _ _ _ _ _ _ _) (spec_l02Ok_l _ _ _ _ _ _ _ _ _) h1
  · cases h
theorem spec_l02Ok_nx (k s : Int) (sg bg : Bool) (NA NU ME BA : List (List TC)) (ct : Int) : is (max (rowsDep ME) (rowsDep BA) < spec_l02Ok_O.n + 1 ∧ max (rowsDep ME) (rowsDep BA) < spec_l02Size_O.n ∧ max (rowsDep ME) (rowsDep BA) < spec_l02Depth_O.n ∧ Typed tab (.slice 9) (.l NA) ∧ Typed tab (.slice 2) (.l NU) ∧ Typed tab (.slice 77) (.l ME) ∧ Typed tab (.slice 32) (.l BA)) = true → (spec_l02Ok_c k s sg bg NA NU ME BA ct) = true ∧ (spec_l02Ok_v k s sg bg NA NU ME BA ct) = okV k s sg bg NA NU ME BA ct := by
  intro h
  obtain ⟨hM, hZ, hY, t4, t5, t6, t7⟩ := is_iff.1 h
  have hS : sizeC k BA = true → spec_l02Size_rc k s sg bg NA NU ME BA ct = true := fun c => is_true ⟨by omega, c⟩
  have hD : depthC k ME BA = true → spec_l02Depth_rc k s sg bg NA NU ME BA ct = true := fun c => is_true ⟨by omega, c, t6, t7⟩
  have hmem : ∀ x, x ∈ ME → spec_l02Ok_rc (nth x 2).int (nth x 3).int (nth x 4).bool (nth x 5).bool (nth x 6).list (nth x 7).list (nth x 8).list (nth x 9).list (nth x 10).int = true := fun x hx => by
    have := dep_max (BA := BA) hx 8 9
    exact is_true ⟨by omega, by omega, by omega, typed_list ((typed_elem t6 hx).2 6 (by decide)), typed_list ((typed_elem t6 hx).2 7 (by decide)), typed_list ((typed_elem t6 hx).2 8 (by decide)), typed_list ((typed_elem t6 hx).2 9 (by decide))⟩
  have hmz : ∀ x, x ∈ ME → (!(spec_l02Ok_rv (nth x 2).int (nth x 3).int (nth x 4).bool (nth x 5).bool (nth x 6).list (nth x 7).list (nth x 8).list (nth x 9).list (nth x 10).int)) = false → spec_l02Size_rc (nth x 2).int (nth x 3).int (nth x 4).bool (nth x 5).bool (nth x 6).list (nth x 7).list (nth x 8).list (nth x 9).list (nth x 10).int = true := fun x hx hk => by
    have := dep_max (BA := BA) hx 8 9
    have hk : spec_l02Ok_rv (nth x 2).int (nth x 3).int (nth x 4).bool (nth x 5).bool (nth x 6).list (nth x 7).list (nth x 8).list (nth x 9).list (nth x 10).int = true := by simpa using hk
    have hk : okV (nth x 2).int (nth x 3).int (nth x 4).bool (nth x 5).bool (nth x 6).list (nth x 7).list (nth x 8).list (nth x 9).list (nth x 10).int = true := hk
    exact is_true ⟨by omega, okV_size hk⟩
  have hbase : 0 < BA.length → spec_l02Ok_rc (nth (row BA (0 : Int)) 0).int (nth (row BA (0 : Int)) 1).int (nth (row BA (0 : Int)) 2).bool (nth (row BA (0 : Int)) 3).bool (nth (row BA (0 : Int)) 4).list (nth (row BA (0 : Int)) 5).list (nth (row BA (0 : Int)) 6).list (nth (row BA (0 : Int)) 7).list (nth (row BA (0 : Int)) 8).int = true := fun hb => by
    have := dep_base (ME := ME) hb 6 7
    exact is_true ⟨by omega, by omega, by omega, typed_list ((typed_elem t7 (mem_getD (i := 0) hb)).2 4 (by decide)), typed_list ((typed_elem t7 (mem_getD (i := 0) hb)).2 5 (by decide)), typed_list ((typed_elem t7 (mem_getD (i := 0) hb)).2 6 (by decide)), typed_list ((typed_elem t7 (mem_getD (i := 0) hb)).2 7 (by decide))⟩
  rw [okV, attach_okV]
  unfold spec_l02Ok_c spec_l02Ok_v
  rw [spec_l02Enum_cc t4, spec_l02Compound_cc t6 hmem hmz, spec_l02Array_cc hbase, spec_l02Enum_vv, spec_l02Compound_vv, spec_l02Array_vv, show spec_l02Plain_v k s sg bg NA NU ME BA ct = plain sg bg from by unfold spec_l02Plain_v plain; cases sg <;> cases bg <;> rfl, show spec_l02Int_v k s sg bg NA NU ME BA ct = intV s sg bg NA NU ME BA ct from rfl, show spec_l00In_v s 1 16 = inB s 1 16 from rfl, show spec_l02Size_rv k s sg bg NA NU ME BA ct = sizeV k s BA ct from rfl, show spec_l02Depth_rv k s sg bg NA NU ME BA ct = depthV k ME BA from rfl]
  by_cases k1 : k = 1
  · subst k1
    rw [hS (by rw [sizeC]; rfl), hD (by rw [depthC]; rfl)]
    simp only [Int.reduceBEq, cond_true, cond_false, Bool.true_and, Bool.and_true, bif_same, bif_ft, Bool.and_assoc, and_self]
  by_cases k2 : k = 2
  · subst k2
    rw [hS (by rw [sizeC]; rfl), hD (by rw [depthC]; rfl)]
    simp only [Int.reduceBEq, cond_true, cond_false, Bool.true_and, Bool.and_true, bif_same, bif_ft, Bool.and_assoc, and_self, bareV, empt]
  by_cases k6 : k = 6
  · subst k6
    rw [hS (by rw [sizeC]; rfl), hD (by rw [depthC]; rfl)]
    simp only [Int.reduceBEq, cond_true, cond_false, Bool.true_and, Bool.and_true, bif_same, bif_ft, Bool.and_assoc, and_self, bareV, empt]
  by_cases k3 : k = 3
  · subst k3
    rw [hD (by rw [depthC]; rfl)]
    simp only [Int.reduceBEq, cond_true, cond_false, Bool.true_and, Bool.and_true, bif_same, bif_ft, Bool.and_assoc]
    cases hf : enumV s sg bg NA NU ME BA ct with
    | false => exact ⟨rfl, trivial⟩
    | true =>
      have h1 : (BA.length : Int) = 1 := by
        simp only [enumV, Bool.and_eq_true] at hf
        simpa using hf.2.2.2.2.1
      rw [hS (by rw [sizeC]; exact decide_eq_true (by omega))]
      exact ⟨rfl, trivial⟩
  by_cases k4 : k = 4
  · subst k4
    rw [hS (by rw [sizeC]; rfl)]
    simp only [Int.reduceBEq, cond_true, cond_false, Bool.true_and, Bool.and_true, bif_same, bif_ft]
    cases hf : (compS s sg bg NA NU ME BA ct && ((allI (memP ME) ME.length && ME.all fun x => okV (nth x 2).int (nth x 3).int (nth x 4).bool (nth x 5).bool (nth x 6).list (nth x 7).list (nth x 8).list (nth x 9).list (nth x 10).int) && decide (endAt ME ME.length ≤ s))) with
    | false => exact ⟨rfl, trivial⟩
    | true =>
      simp only [Bool.and_eq_true, List.all_eq_true] at hf
      rw [hD (by
        rw [depthC]
        show (ME.attach.all fun x => depthC (nth x.1 2).int (nth x.1 8).list (nth x.1 9).list) = true
        rw [List.all_eq_true]
        exact fun x _ => okV_depth (hf.2.1.2 x.1 x.2))]
      exact ⟨bif_same, trivial⟩
  by_cases k5 : k = 5
  · subst k5
    simp only [Int.reduceBEq, cond_true, cond_false, Bool.true_and, Bool.and_true, bif_same, bif_ft]
    cases hf : (arrS s sg bg NA NU ME BA ct && (if h : 0 < BA.length then okV (nth (row BA (0 : Int)) 0).int (nth (row BA (0 : Int)) 1).int (nth (row BA (0 : Int)) 2).bool (nth (row BA (0 : Int)) 3).bool (nth (row BA (0 : Int)) 4).list (nth (row BA (0 : Int)) 5).list (nth (row BA (0 : Int)) 6).list (nth (row BA (0 : Int)) 7).list (nth (row BA (0 : Int)) 8).int else false)) with
    | false => exact ⟨rfl, trivial⟩
    | true =>
      rw [Bool.and_eq_true] at hf
      have hf := hf.2
      split at hf
      · rename_i hb
        rw [hS (by
          rw [sizeC]
          show (if h : 0 < BA.length then sizeC (nth (row BA (0 : Int)) 0).int (nth (row BA (0 : Int)) 7).list else false) = true
          rw [dif_pos hb]; exact okV_size hf), hD (by
          rw [depthC]
          show (if h : 0 < BA.length then depthC (nth (row BA (0 : Int)) 0).int (nth (row BA (0 : Int)) 6).list (nth (row BA (0 : Int)) 7).list else false) = true
          rw [dif_pos hb]; exact okV_depth hf)]
        exact ⟨bif_same, trivial⟩
      · cases hf
  have e1 : (k == 1) = false := by simpa using k1
  have e2 : (k == 2) = false := by simpa using k2
  have e3 : (k == 3) = false := by simpa using k3
  have e4 : (k == 4) = false := by simpa using k4
  have e5 : (k == 5) = false := by simpa using k5
  have e6 : (k == 6) = false := by simpa using k6
  simp only [e1, e2, e3, e4, e5, e6, cond_false, Bool.false_and, and_self]
theorem spec_l02Ok_nxr (k s : Int) (sg bg : Bool) (NA NU ME BA : List (List TC)) (ct : Int) : spec_l02Ok_rc (i_spec_l02Ok := ⟨spec_l02Ok_O.n + 1⟩) k s sg bg NA NU ME BA ct = true → (spec_l02Ok_c k s sg bg NA NU ME BA ct) = true ∧ (spec_l02Ok_v k s sg bg NA NU ME BA ct) = (spec_l02Ok_rv k s sg bg NA NU ME BA ct) := fun h => spec_l02Ok_nx k s sg bg NA NU ME BA ct h
theorem spec_l02Ok_rs : ∀ xs r, spec_l02Ok_rS (i_spec_l02Ok := ⟨spec_l02Ok_O.n + 1⟩) xs = some (true, r) → runF tab FT D26 live 33 noLoops xs = some r := by
  intro xs r h
  unfold spec_l02Ok_rS at h
  split at h
  · simp only [Option.some.injEq, Prod.mk.injEq] at h
    obtain ⟨h1, rfl⟩ := h
    have hx := spec_l02Ok_nxr _ _ _ _ _ _ _ _ _ h1
    have ht := fun_told (spec_l02Ok_e _ _ _ _ _ _ _ _ _) (spec_l02Ok_l _ _ _ _ _ _ _ _ _) hx.1
    rw [hx.2] at ht
    exact ht
  · cases h
theorem spec_l02Ok_step : spec_l02Ok_G (i_spec_l02Ok := ⟨spec_l02Ok_O.n + 1⟩) := by
  have h := DOk.also2 (S := spec_l02Ok_rS (i_spec_l02Ok := ⟨spec_l02Ok_O.n + 1⟩)) mixed_ok tab_ok names_ok d23 d26 noLoops_ok spec_l02Ok_rs
  refine spec_l02Ok_G.mk (i_spec_l02Ok := ⟨spec_l02Ok_O.n + 1⟩) ?_
  exact h
/-! spec_l03Int -/
noncomputable def spec_l03Int_t (a0 a1 : Int) (a2 a3 : Bool) (a4 a5 a6 a7 : List (List TC)) (a8 : Int) : Tr (Int × Int × Bool × Bool × List (List TC) × List (List TC) × List (List TC) × List (List TC) × Int × Bool) := (.ite ((a0 == (1 : Int)) = true) (.ok (a0, a1, a2, a3, a4, a5, a6, a7, a8, true))
  (.ite ((a0 == (3 : Int)) = true) (.ite ((0 : Int) ≤ (0 : Int) ∧ (0 : Int) < (a7.length : Int)) (.ok ((nth (row a7 (0 : Int)) 0).int, (nth (row a7 (0 : Int)) 1).int, (nth (row a7 (0 : Int)) 2).bool, (nth (row a7 (0 : Int)) 3).bool, (nth (row a7 (0 : Int)) 4).list, (nth (row a7 (0 : Int)) 5).list, (nth (row a7 (0 : Int)) 6).list, (nth (row a7 (0 : Int)) 7).list, (nth (row a7 (0 : Int)) 8).int, true))
    .no)
   (.ite ((a0 == (6 : Int)) = true) (.ok ((1 : Int), (2 : Int), false, false, [], [], [], [], (0 : Int), true))
    (.ok ((0 : Int), (0 : Int), false, false, [], [], [], [], (0 : Int), false)))))
def spec_l03Int_mk (p : Int × Int × Bool × Bool × List (List TC) × List (List TC) × List (List TC) × List (List TC) × Int × Bool) : Res := [(true, [⟨.int .i64, .sh, TC.i (p.1)⟩, ⟨.int .i64, .sh, TC.i (p.2.1)⟩, ⟨.bool, .sh, TC.b (p.2.2.1)⟩, ⟨.bool, .sh, TC.b (p.2.2.2.1)⟩, ⟨.slice 9, .sh, TC.l (p.2.2.2.2.1)⟩, ⟨.slice 2, .sh, TC.l (p.2.2.2.2.2.1)⟩, ⟨.slice 77, .sh, TC.l (p.2.2.2.2.2.2.1)⟩, ⟨.slice 32, .sh, TC.l (p.2.2.2.2.2.2.2.1)⟩, ⟨.int .i64, .sh, TC.i (p.2.2.2.2.2.2.2.2.1)⟩]), (false, [⟨.bool, .sh, TC.b (p.2.2.2.2.2.2.2.2.2)⟩])]
noncomputable def spec_l03Int_c (a0 a1 : Int) (a2 a3 : Bool) (a4 a5 a6 a7 : List (List TC)) (a8 : Int) : Bool := (bif (a0 == (1 : Int)) then true else (bif (a0 == (3 : Int)) then (is ((0 : Int) ≤ (0 : Int) ∧ (0 : Int) < (a7.length : Int)) && true) else (bif (a0 == (6 : Int)) then true else true)))
noncomputable def spec_l03Int_v (a0 a1 : Int) (a2 a3 : Bool) (a4 a5 a6 a7 : List (List TC)) (a8 : Int) : Int × Int × Bool × Bool × List (List TC) × List (List TC) × List (List TC) × List (List TC) × Int × Bool := (bif (a0 == (1 : Int)) then (a0, a1, a2, a3, a4, a5, a6, a7, a8, true) else (bif (a0 == (3 : Int)) then ((nth (row a7 (0 : Int)) 0).int, (nth (row a7 (0 : Int)) 1).int, (nth (row a7 (0 : Int)) 2).bool, (nth (row a7 (0 : Int)) 3).bool, (nth (row a7 (0 : Int)) 4).list, (nth (row a7 (0 : Int)) 5).list, (nth (row a7 (0 : Int)) 6).list, (nth (row a7 (0 : Int)) 7).list, (nth (row a7 (0 : Int)) 8).int, true) else (bif (a0 == (6 : Int)) then ((1 : Int), (2 : Int), false, false, [], [], [], [], (0 : Int), true) else ((0 : Int), (0 : Int), false, false, [], [], [], [], (0 : Int), false))))
theorem spec_l03Int_l (a0 a1 : Int) (a2 a3 : Bool) (a4 a5 a6 a7 : List (List TC)) (a8 : Int) : (spec_l03Int_c a0 a1 a2 a3 a4 a5 a6 a7 a8) = true → (spec_l03Int_t a0 a1 a2 a3 a4 a5 a6 a7 a8).val = some (spec_l03Int_v a0 a1 a2 a3 a4 a5 a6 a7 a8) := by
  unfold spec_l03Int_t spec_l03Int_v spec_l03Int_c
  exact fun h => (Tr.ss h (fun h => rfl) (fun h => (Tr.ss h (fun h => (Tr.gs h fun h => rfl)) (fun h => (Tr.ss h (fun h => rfl) (fun h => rfl))))))
noncomputable def spec_l03Int_S : List Arg → Option (Bool × Res) := fun xs => match xs with
  | [(true, [(.int .i64, TC.i a0), (.int .i64, TC.i a1), (.bool, TC.b a2), (.bool, TC.b a3), (.slice 9, TC.l a4), (.slice 2, TC.l a5), (.slice 77, TC.l a6), (.slice 32, TC.l a7), (.int .i64, TC.i a8)])] => some ((spec_l03Int_c a0 a1 a2 a3 a4 a5 a6 a7 a8), spec_l03Int_mk (spec_l03Int_v a0 a1 a2 a3 a4 a5 a6 a7 a8))
  | _ => .none
theorem spec_l03Int_e (a0 a1 : Int) (a2 a3 : Bool) (a4 a5 a6 a7 : List (List TC)) (a8 : Int) : runF tab FT D26 live 55 noLoops [(true, [(.int .i64, TC.i a0), (.int .i64, TC.i a1), (.bool, TC.b a2), (.bool, TC.b a3), (.slice 9, TC.l a4), (.slice 2, TC.l a5), (.slice 77, TC.l a6), (.slice 32, TC.l a7), (.int .i64, TC.i a8)])] = (spec_l03Int_t a0 a1 a2 a3 a4 a5 a6 a7 a8).run fun p => some (spec_l03Int_mk p) := by kernel_rfl
theorem spec_l03Int_s : ∀ xs r, spec_l03Int_S xs = some (true, r) → runF tab FT D26 live 55 noLoops xs = some r := by
  intro xs r h
  unfold spec_l03Int_S at h
  split at h
  · simp only [Option.some.injEq, Prod.mk.injEq] at h
    obtain ⟨h1, rfl⟩ := h
    exact fun_told (spec_l03Int_e _ _ _ _ _ _ _ _ _) (spec_l03Int_l _ _ _ _ _ _ _ _ _) h1
  · cases h
noncomputable def D27 : Dt := also D26 55 spec_l03Int_S
theorem d27 : DOk Go.Proofs.Try.prog tab D27 := d26.also mixed_ok tab_ok names_ok noLoops_ok spec_l03Int_s
/-! spec_l03Holds -/
noncomputable def spec_l03Holds_t (k s : Int) (sg bg : Bool) (NA NU ME BA : List (List TC)) (ct n : Int) : Tr (Bool) := (.ite ((k == (3 : Int)) = true) (.ite ((spec_l00Has_c NU n) = true) (.ok (spec_l00Has_v NU n))
   .no)
  (.ite ((spec_l03Int_c k s sg bg NA NU ME BA ct) = true) (.ite ((spec_l02Range_c ((spec_l03Int_v k s sg bg NA NU ME BA ct).1) ((spec_l03Int_v k s sg bg NA NU ME BA ct).2.1) ((spec_l03Int_v k s sg bg NA NU ME BA ct).2.2.1) ((spec_l03Int_v k s sg bg NA NU ME BA ct).2.2.2.1) ((spec_l03Int_v k s sg bg NA NU ME BA ct).2.2.2.2.1) ((spec_l03Int_v k s sg bg NA NU ME BA ct).2.2.2.2.2.1) ((spec_l03Int_v k s sg bg NA NU ME BA ct).2.2.2.2.2.2.1) ((spec_l03Int_v k s sg bg NA NU ME BA ct).2.2.2.2.2.2.2.1) ((spec_l03Int_v k s sg bg NA NU ME BA ct).2.2.2.2.2.2.2.2.1)) = true) (.ok (spec_l00In_v n ((spec_l02Range_v ((spec_l03Int_v k s sg bg NA NU ME BA ct).1) ((spec_l03Int_v k s sg bg NA NU ME BA ct).2.1) ((spec_l03Int_v k s sg bg NA NU ME BA ct).2.2.1) ((spec_l03Int_v k s sg bg NA NU ME BA ct).2.2.2.1) ((spec_l03Int_v k s sg bg NA NU ME BA ct).2.2.2.2.1) ((spec_l03Int_v k s sg bg NA NU ME BA ct).2.2.2.2.2.1) ((spec_l03Int_v k s sg bg NA NU ME BA ct).2.2.2.2.2.2.1) ((spec_l03Int_v k s sg bg NA NU ME BA ct).2.2.2.2.2.2.2.1) ((spec_l03Int_v k s sg bg NA NU ME BA ct).2.2.2.2.2.2.2.2.1)).1) ((spec_l02Range_v ((spec_l03Int_v k s sg bg NA NU ME BA ct).1) ((spec_l03Int_v k s sg bg NA NU ME BA ct).2.1) ((spec_l03Int_v k s sg bg NA NU ME BA ct).2.2.1) ((spec_l03Int_v k s sg bg NA NU ME BA ct).2.2.2.1) ((spec_l03Int_v k s sg bg NA NU ME BA ct).2.2.2.2.1) ((spec_l03Int_v k s sg bg NA NU ME BA ct).2.2.2.2.2.1) ((spec_l03Int_v k s sg bg NA NU ME BA ct).2.2.2.2.2.2.1) ((spec_l03Int_v k s sg bg NA NU ME BA ct).2.2.2.2.2.2.2.1) ((spec_l03Int_v k s sg bg NA NU ME BA ct).2.2.2.2.2.2.2.2.1)).2)))
    .no)
   .no))
end
end
end
end
end
end Go.Proofs.Ytlggbfmpfhohjaa.V
