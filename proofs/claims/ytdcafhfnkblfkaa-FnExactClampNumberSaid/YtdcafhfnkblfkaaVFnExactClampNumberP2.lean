/- What the functions of FnExactClampNumber answer. No condition. -/
import Derived.Test.YtdcafhfnkblfkaaVFnExactClampNumberP1
namespace Go.Proofs.Ytdcafhfnkblfkaa.V
open Go
set_option maxRecDepth 100000
set_option linter.unusedVariables false
set_option linter.unusedSectionVars false
set_option linter.unusedSimpArgs false
set_option maxHeartbeats 2000000
section
variable [i_laws_szType : qba_O]
variable [g_laws_szType : qba_G]
section
variable [i_laws_toType : qj_O]
variable [g_laws_toType : qj_G]
section
variable [i_spec_l02Size : qn_O]
variable [g_spec_l02Size : qn_G]
section
variable [i_spec_l02Depth : qf_O]
variable [g_spec_l02Depth : qf_G]
noncomputable def qch_S : List Arg → Option (Bool × Res) := fun xs => match xs with
  | [(false, [(.int .u8, TC.i a0)])] => some (true, qch_mk (qch_v a0))
  | _ => .none
theorem qch_e (a0 : Int) : runF tab FT D20 live 130 noLoops [(false, [(.int .u8, TC.i a0)])] = (qch_t a0).run fun p => some (qch_mk p) := by kernel_rfl
theorem qch_s : ∀ xs r, qch_S xs = some (true, r) → runF tab FT D20 live 130 noLoops xs = some r := by
  intro xs r h
  unfold qch_S at h
  split at h
  · simp only [Option.some.injEq, Prod.mk.injEq] at h
    obtain ⟨h1, rfl⟩ := h
    exact fun_told (qch_e _) (qch_l _) rfl
  · cases h
noncomputable def D21 : Dt := also D20 130 qch_S
theorem d21 : DOk Go.Proofs.Try.prog tab D21 := d20.also mixed_ok tab_ok names_ok noLoops_ok qch_s
noncomputable def qq_f4 (s : BS) (i : Int) : (Unit) ⊕ ((Unit) ⊕ (Unit)) := (bif (!(qch_v ((s.getD (i).toNat 0).toNat : Int))) then (bif (decide (((s.getD (i).toNat 0).toNat : Int) ≥ (48 : Int))) then (bif (!(decide (((s.getD (i).toNat 0).toNat : Int) ≤ (57 : Int)))) then (bif (!(((s.getD (i).toNat 0).toNat : Int) == (95 : Int))) then (.inr (.inl ())) else (.inl ())) else (.inl ())) else (bif (!(((s.getD (i).toNat 0).toNat : Int) == (95 : Int))) then (.inr (.inl ())) else (.inl ()))) else (.inl ()))
noncomputable def qq_e4 (s : BS) : (Unit) ⊕ (Unit) := .inr ()
noncomputable def qq_R4 (s : BS) (i : Int) : (Unit) ⊕ (Unit) := iter (fun i a => (qq_f4 s ((i + 1 : Nat) : Int))) (fun a => (qq_e4 s)) (s.length - 1) 0 ()
abbrev qq_4_σ := BS × Int
abbrev qq_4_ω := (Unit) ⊕ (Unit)
noncomputable def qq_4_step (s : BS) (i : Int) : Tr (qq_4_σ ⊕ qq_4_ω) := (.ite ((decide (i < (s.length : Int))) = true) (.ite ((0 : Int) ≤ i ∧ i < (s.length : Int)) (.ite ((!(qch_v ((s.getD (i).toNat 0).toNat : Int))) = true) (.ite ((0 : Int) ≤ i ∧ i < (s.length : Int)) (.ite ((decide (((s.getD (i).toNat 0).toNat : Int) ≥ (48 : Int))) = true) (.ite ((0 : Int) ≤ i ∧ i < (s.length : Int)) (.ite ((!(decide (((s.getD (i).toNat 0).toNat : Int) ≤ (57 : Int)))) = true) (.ite ((0 : Int) ≤ i ∧ i < (s.length : Int)) (.ite ((!(((s.getD (i).toNat 0).toNat : Int) == (95 : Int))) = true) (.ok (.inr (.inl ())))
          (.ok (.inl (s, (IntKind.wrap .i64 (i + (1 : Int)))))))
         .no)
        (.ok (.inl (s, (IntKind.wrap .i64 (i + (1 : Int)))))))
       .no)
      (.ite ((0 : Int) ≤ i ∧ i < (s.length : Int)) (.ite ((!(((s.getD (i).toNat 0).toNat : Int) == (95 : Int))) = true) (.ok (.inr (.inl ())))
        (.ok (.inl (s, (IntKind.wrap .i64 (i + (1 : Int)))))))
       .no))
     .no)
    (.ok (.inl (s, (IntKind.wrap .i64 (i + (1 : Int)))))))
   .no)
  (.ok (.inr (.inr ()))))
noncomputable def qq_4_st : qq_4_σ → Tr (qq_4_σ ⊕ qq_4_ω) := fun x => (qq_4_step (x.1) (x.2))
noncomputable def qq_k4_1 (s : BS) (i : Int) : Bool := sumIs (qq_R4 s i)
noncomputable def qq_o4_2 (s : BS) (i : Int) : Bool := is (i = 1 ∧ s.length ≤ 140737488355328)
noncomputable def qq_o4_3 (s : BS) (i : Int) : Bool := is (i = 1 ∧ s.length ≤ 140737488355328)
noncomputable def qq_4_fin (s : BS) (i : Int) : Told qq_4_ω := (.br (qq_k4_1 s i) (.leaf (qq_o4_2 s i) (.inl ())) (.leaf (qq_o4_3 s i) (.inr ())))
def qq_4_sl (x : qq_4_σ) : List Slot := [⟨.val false [⟨.str, .sh, TC.s (x.1)⟩], ⟨0, 0⟩⟩, ⟨.val false [⟨.int .i64, .sh, TC.i (x.2)⟩], ⟨0, 0⟩⟩]
def qq_4_out : qq_4_ω → Ex × List Slot := (Sum.elim (fun x => (.ret, [⟨.val false [⟨.bool, .sh, TC.b false⟩], ⟨0, 0⟩⟩])) (fun x => (.exit 0, [Slot.none])))
noncomputable def qq_lo4 : List Slot → Option (Told (Ex × List Slot)) := fun s => match s with
  | [⟨.val false [⟨.str, .sh, TC.s s⟩], ⟨0, 0⟩⟩, ⟨.val false [⟨.int .i64, .sh, TC.i i⟩], ⟨0, 0⟩⟩] => some (((qq_4_fin s i)).map qq_4_out)
  | _ => .none
noncomputable def qq_lo : LoopTeller := fun r s => bif Nat.beq r 4 then qq_lo4 s else .none
theorem qq_4_r (s : BS) (i : Int) (fuel : Nat) : rounds (rnd tab FT D21 live 100 qq_lo 0 4) leave (fuel + 1) (qq_4_sl (s, i)) = ((qq_4_step s i)).run (goOn (fun s => rounds (rnd tab FT D21 live 100 qq_lo 0 4) leave fuel (qq_4_sl s)) fun w => some (qq_4_out w)) := by kernel_rfl
theorem qq_f4_eq (s : BS) (i : Int) : qq_f4 s i = bif (letterB ((s.getD (i).toNat 0).toNat : Int) || ((decide (((s.getD (i).toNat 0).toNat : Int) ≥ 48) && decide (((s.getD (i).toNat 0).toNat : Int) ≤ 57)) || ((s.getD (i).toNat 0).toNat : Int) == 95)) then Sum.inl () else Sum.inr (Sum.inl ()) := by
  unfold qq_f4 letterB
  simp only [qch_v, dlt, dgt]
  generalize ((s.getD i.toNat 0).toNat : Int) = c
  generalize decide (c ≥ 65) = p0, decide (c ≤ 90) = p1, decide (c ≥ 97) = p2, decide (c ≤ 122) = p3, decide (c ≥ 48) = p4, decide (c ≤ 57) = p5, (c == 95) = p6
  cases p0 <;> cases p1 <;> cases p2 <;> cases p3 <;> cases p4 <;> cases p5 <;> cases p6 <;> rfl
theorem qq_R4_eq (s : BS)  : qq_R4 s 1 = bif allI (fun i : Nat => (letterB ((s.getD (((i + 1 : Nat) : Int)).toNat 0).toNat : Int) || ((decide (((s.getD (((i + 1 : Nat) : Int)).toNat 0).toNat : Int) ≥ 48) && decide (((s.getD (((i + 1 : Nat) : Int)).toNat 0).toNat : Int) ≤ 57)) || ((s.getD (((i + 1 : Nat) : Int)).toNat 0).toNat : Int) == 95))) (s.length - 1) then Sum.inr () else (Sum.inl ()) := by
  unfold qq_R4
  exact (iter_all (P := (fun i : Nat => (letterB ((s.getD (((i + 1 : Nat) : Int)).toNat 0).toNat : Int) || ((decide (((s.getD (((i + 1 : Nat) : Int)).toNat 0).toNat : Int) ≥ 48) && decide (((s.getD (((i + 1 : Nat) : Int)).toNat 0).toNat : Int) ≤ 57)) || ((s.getD (((i + 1 : Nat) : Int)).toNat 0).toNat : Int) == 95)))) (g := fun _ a => a) (w := Sum.inl ()) fun j a _ => qq_f4_eq s _)
theorem qq_4_h (s : BS) (i : Int) (ow : qq_4_ω) : ((qq_4_fin s i)).val = some ow → ∃ fuel, loopN qq_4_st fuel (s, i) = some ow := by
  refine auto_const (R := (qq_R4 s i)) rfl (iter_onR (f := (fun i a => (qq_f4 s ((i + 1 : Nat) : Int)))) (fin := (fun a => (qq_e4 s))) (Q := endsAs () ()) (fun i a => by unfold qq_f4; exact (onR_bif (onR_bif (onR_bif (onR_bif rfl trivial) trivial) (onR_bif rfl trivial)) trivial)) (fun _ => rfl) _ _ _) ?_
  intro ho
  have ho : is (i = 1 ∧ s.length ≤ 140737488355328) = true := ho.elim id id
  obtain ⟨rfl, hs⟩ := is_iff.1 ho
  skip
  refine ⟨(s.length - 1) + 1, ?_⟩
  refine iter_loop (step := qq_4_st) (s.length - 1) (fun i a => (qq_f4 s ((i + 1 : Nat) : Int))) (fun a => (qq_e4 s)) (fun i a => (s, ((i + 1 : Nat) : Int))) (fun _ _ => True) trivial (fun i a hi hI => ⟨?_, fun _ _ => trivial⟩) (fun a hI => ?_)
  · show (qq_4_step s ((i + 1 : Nat) : Int)).val = _
    unfold qq_4_step qq_f4
    skip
    refine Tr.t (by simp; omega) ?_
    exact (Tr.t (by first | omega | (constructor <;> omega)) (Tr.bf (Tr.t (by first | omega | (constructor <;> omega)) (Tr.bf (Tr.t (by first | omega | (constructor <;> omega)) (Tr.bf (Tr.t (by first | omega | (constructor <;> omega)) (Tr.bf rfl (by rw [Tr.val_ok, wrap64 (i := ((i + 1 : Nat) : Int) + 1) (by omega) (by omega)]; rfl))) (by rw [Tr.val_ok, wrap64 (i := ((i + 1 : Nat) : Int) + 1) (by omega) (by omega)]; rfl))) (Tr.t (by first | omega | (constructor <;> omega)) (Tr.bf rfl (by rw [Tr.val_ok, wrap64 (i := ((i + 1 : Nat) : Int) + 1) (by omega) (by omega)]; rfl))))) (by rw [Tr.val_ok, wrap64 (i := ((i + 1 : Nat) : Int) + 1) (by omega) (by omega)]; rfl)))
  · show (qq_4_step s ((s.length - 1 + 1 : Nat) : Int)).val = _
    refine Tr.n (by first | (simp; done) | (simp; omega) | omega) ?_
    rfl
theorem qq_is4 : LoopIs tab FT D21 live 100 qq_lo 0 4 := by
  refine loop_told (sl := qq_4_sl) (step := qq_4_st) (out := qq_4_out) (lor := qq_lo4) (fin := fun x => (qq_4_fin (x.1) (x.2))) (fun _ => rfl) ?_ (fun x n => qq_4_r x.1 x.2 n) (fun x ow => qq_4_h x.1 x.2 ow)
  intro s t h
  unfold qq_lo4 at h
  split at h
  · cases h; exact ⟨(_, _), rfl, rfl⟩
  · cases h
noncomputable def qq_t (s : BS) : Tr (Bool) := (.ite (((s.length : Int) == (0 : Int)) = true) (.ok false)
  (.ite ((decide ((s.length : Int) > (12 : Int))) = true) (.ok false)
   (.ite ((0 : Int) ≤ (0 : Int) ∧ (0 : Int) < (s.length : Int)) (.ite ((!(qch_v ((s.getD ((0 : Int)).toNat 0).toNat : Int))) = true) (.ok false)
     (.ite ((qq_k4_1 s (1 : Int)) = true) (.ite ((qq_o4_2 s (1 : Int)) = true) (.ok false)
       .no)
      (.ite ((qq_o4_3 s (1 : Int)) = true) (.ok true)
       .no)))
    .no)))
def qq_mk (p : Bool) : Res := [(false, [⟨.bool, .sh, TC.b p⟩])]
noncomputable def qq_c (s : BS) : Bool := (bif ((s.length : Int) == (0 : Int)) then true else (bif (decide ((s.length : Int) > (12 : Int))) then true else (is ((0 : Int) ≤ (0 : Int) ∧ (0 : Int) < (s.length : Int)) && (bif (!(qch_v ((s.getD ((0 : Int)).toNat 0).toNat : Int))) then true else (bif (qq_k4_1 s (1 : Int)) then ((qq_o4_2 s (1 : Int)) && true) else ((qq_o4_3 s (1 : Int)) && true))))))
noncomputable def qq_v (s : BS) : Bool := (bif ((s.length : Int) == (0 : Int)) then false else (bif (decide ((s.length : Int) > (12 : Int))) then false else (bif (!(qch_v ((s.getD ((0 : Int)).toNat 0).toNat : Int))) then false else (bif (qq_k4_1 s (1 : Int)) then false else true))))
theorem qq_l (s : BS) : (qq_c s) = true → (qq_t s).val = some (qq_v s) := by
  unfold qq_t qq_v qq_c
  exact fun h => (Tr.ss h (fun h => rfl) (fun h => (Tr.ss h (fun h => rfl) (fun h => (Tr.gs h fun h => (Tr.ss h (fun h => rfl) (fun h => (Tr.ss h (fun h => (Tr.gb h fun h => rfl)) (fun h => (Tr.gb h fun h => rfl))))))))))
noncomputable def qq_S : List Arg → Option (Bool × Res) := fun xs => match xs with
  | [(false, [(.str, TC.s s)])] => some ((qq_c s), qq_mk (qq_v s))
  | _ => .none
theorem qq_e (s : BS) : runF tab FT D21 live 100 qq_lo [(false, [(.str, TC.s s)])] = (qq_t s).run fun p => some (qq_mk p) := by kernel_rfl
theorem qq_s : ∀ xs r, qq_S xs = some (true, r) → runF tab FT D21 live 100 qq_lo xs = some r := by
  intro xs r h
  unfold qq_S at h
  split at h
  · simp only [Option.some.injEq, Prod.mk.injEq] at h
    obtain ⟨h1, rfl⟩ := h
    exact fun_told (qq_e _) (qq_l _) h1
  · cases h
noncomputable def D22 : Dt := also D21 100 qq_S
theorem d22 : DOk Go.Proofs.Try.prog tab D22 := d21.also mixed_ok tab_ok names_ok (fnLoops_one (by kernel_rfl) qq_is4) qq_s
theorem qq_cc {s : BS} (hs : Typed tab (.str) (.s s)) : (qq_c s) = true := by
  unfold qq_c
  refine bifT (fun b1 => ?_) (fun b1 => ?_)
  · skip
    rfl
  · skip
    refine bifT (fun b2 => ?_) (fun b2 => ?_)
    · skip
      rfl
    · skip
      refine andT (is_true (by exact ⟨by omega, by have h2 := ne_of_beq_false b1; omega⟩)) ?_
      refine bifT (fun b3 => ?_) (fun b3 => ?_)
      · skip
        rfl
      · skip
        refine bifT (fun b4 => ?_) (fun b4 => ?_)
        · skip
          refine andT (by exact is_true ⟨rfl, by have := typed_str_len hs; omega⟩) ?_
          rfl
        · skip
          refine andT (by exact is_true ⟨rfl, by have := typed_str_len hs; omega⟩) ?_
          rfl
theorem qq_vv (s : BS) : qq_v s = nameOk s := by
  unfold qq_v qq_k4_1
  rw [qq_R4_eq]
  have e3 : qch_v ((s.getD ((0 : Int)).toNat 0).toNat : Int) = nameB ((0 : Nat) : Int) ((s.getD (((0 : Nat) : Int)).toNat 0).toNat : Int) := by
    unfold qch_v nameB letterB
    generalize ((s.getD ((0 : Int)).toNat 0).toNat : Int) = c
    generalize decide (c ≥ 65) = p1, decide (c ≤ 90) = p2, decide (c ≥ 97) = p3, decide (c ≤ 122) = p4
    cases p1 <;> cases p2 <;> cases p3 <;> cases p4 <;> rfl
  rw [e3]
  cases h0 : s.length with
  | zero =>
    have : s = [] := List.eq_nil_of_length_eq_zero h0
    subst this
    rfl
  | succ n =>
    have e2 : allI (fun i : Nat => nameB ((i + 1 : Nat) : Int) ((s.getD (((i + 1 : Nat) : Int)).toNat 0).toNat : Int)) n = allI (fun i : Nat => (letterB ((s.getD (((i + 1 : Nat) : Int)).toNat 0).toNat : Int) || ((decide (((s.getD (((i + 1 : Nat) : Int)).toNat 0).toNat : Int) ≥ 48) && decide (((s.getD (((i + 1 : Nat) : Int)).toNat 0).toNat : Int) ≤ 57)) || ((s.getD (((i + 1 : Nat) : Int)).toNat 0).toNat : Int) == 95))) n := allI_congr fun i _ => by
      unfold nameB
      rw [show (((i + 1 : Nat) : Int) == 0) = false from by simp; omega]
      rfl
    unfold nameOk
    rw [h0, allI_head, e2, Nat.add_sub_cancel]
    rw [show (((n + 1 : Nat) : Int) == 0) = false from by simp; omega, show decide (((n + 1 : Nat) : Int) ≥ 1) = true from by simp; omega, dgt]
    generalize nameB ((0 : Nat) : Int) ((s.getD (((0 : Nat) : Int)).toNat 0).toNat : Int) = q1
    generalize allI (fun i : Nat => (letterB ((s.getD (((i + 1 : Nat) : Int)).toNat 0).toNat : Int) || ((decide (((s.getD (((i + 1 : Nat) : Int)).toNat 0).toNat : Int) ≥ 48) && decide (((s.getD (((i + 1 : Nat) : Int)).toNat 0).toNat : Int) ≤ 57)) || ((s.getD (((i + 1 : Nat) : Int)).toNat 0).toNat : Int) == 95))) n = q2
    generalize decide (((n + 1 : Nat) : Int) ≤ 12) = q3
    cases q1 <;> cases q2 <;> cases q3 <;> rfl
noncomputable def qg_f12 (k s : Int) (sg bg : Bool) (NA NU ME BA : LL) (ct low high ix q : Int) : (Unit) ⊕ ((Int × Int × Bool × Bool × LL × LL × LL × LL × Int × Int × Int × Int) ⊕ (Int × Int × Bool × Bool × LL × LL × LL × LL × Int × Int × Int × Int)) := (bif ((nth (row NA q) 0).str == (nth (row NA ix) 0).str) then (.inr (.inl (k, s, sg, bg, NA, NU, ME, BA, ct, low, high, ix))) else (.inl ()))
noncomputable def qg_e12 (k s : Int) (sg bg : Bool) (NA NU ME BA : LL) (ct low high ix : Int) : (Int × Int × Bool × Bool × LL × LL × LL × LL × Int × Int × Int × Int) ⊕ (Int × Int × Bool × Bool × LL × LL × LL × LL × Int × Int × Int × Int) := .inr (k, s, sg, bg, NA, NU, ME, BA, ct, low, high, ix)
noncomputable def qg_R12 (k s : Int) (sg bg : Bool) (NA NU ME BA : LL) (ct low high ix q : Int) : (Int × Int × Bool × Bool × LL × LL × LL × LL × Int × Int × Int × Int) ⊕ (Int × Int × Bool × Bool × LL × LL × LL × LL × Int × Int × Int × Int) := iter (fun i a => (qg_f12 k s sg bg NA NU ME BA ct low high ix (i : Int))) (fun a => (qg_e12 k s sg bg NA NU ME BA ct low high ix)) (ix.toNat) 0 ()
abbrev qg_12_σ := Int × Int × Bool × Bool × LL × LL × LL × LL × Int × Int × Int × Int × Int
abbrev qg_12_ω := (Int × Int × Bool × Bool × LL × LL × LL × LL × Int × Int × Int × Int) ⊕ (Int × Int × Bool × Bool × LL × LL × LL × LL × Int × Int × Int × Int)
noncomputable def qg_12_step (k s : Int) (sg bg : Bool) (NA NU ME BA : LL) (ct low high ix q : Int) : Tr (qg_12_σ ⊕ qg_12_ω) := (.ite ((decide (q < ix)) = true) (.ite ((0 : Int) ≤ q ∧ q < (NA.length : Int)) (.ite ((0 : Int) ≤ ix ∧ ix < (NA.length : Int)) (.ite (((nth (row NA q) 0).str == (nth (row NA ix) 0).str) = true) (.ok (.inr (.inl (k, s, sg, bg, NA, NU, ME, BA, ct, low, high, ix))))
     (.ok (.inl (k, s, sg, bg, NA, NU, ME, BA, ct, low, high, ix, (IntKind.wrap .i64 (q + (1 : Int)))))))
    .no)
   .no)
  (.ok (.inr (.inr (k, s, sg, bg, NA, NU, ME, BA, ct, low, high, ix)))))
noncomputable def qg_12_st : qg_12_σ → Tr (qg_12_σ ⊕ qg_12_ω) := fun x => (qg_12_step (x.1) (x.2.1) (x.2.2.1) (x.2.2.2.1) (x.2.2.2.2.1) (x.2.2.2.2.2.1) (x.2.2.2.2.2.2.1) (x.2.2.2.2.2.2.2.1) (x.2.2.2.2.2.2.2.2.1) (x.2.2.2.2.2.2.2.2.2.1) (x.2.2.2.2.2.2.2.2.2.2.1) (x.2.2.2.2.2.2.2.2.2.2.2.1) (x.2.2.2.2.2.2.2.2.2.2.2.2))
noncomputable def qg_k12_1 (k s : Int) (sg bg : Bool) (NA NU ME BA : LL) (ct low high ix q : Int) : Bool := sumIs (qg_R12 k s sg bg NA NU ME BA ct low high ix q)
noncomputable def qg_o12_2 (k s : Int) (sg bg : Bool) (NA NU ME BA : LL) (ct low high ix q : Int) : Bool := is (q = 0 ∧ 0 ≤ ix ∧ ix < (NA.length : Int) ∧ NA.length ≤ 140737488355328)
noncomputable def qg_o12_3 (k s : Int) (sg bg : Bool) (NA NU ME BA : LL) (ct low high ix q : Int) : Bool := is (q = 0 ∧ 0 ≤ ix ∧ ix < (NA.length : Int) ∧ NA.length ≤ 140737488355328)
noncomputable def qg_12_fin (k s : Int) (sg bg : Bool) (NA NU ME BA : LL) (ct low high ix q : Int) : Told qg_12_ω := (.br (qg_k12_1 k s sg bg NA NU ME BA ct low high ix q) (.leaf (qg_o12_2 k s sg bg NA NU ME BA ct low high ix q) (.inl (k, s, sg, bg, NA, NU, ME, BA, ct, low, high, ix))) (.leaf (qg_o12_3 k s sg bg NA NU ME BA ct low high ix q) (.inr (k, s, sg, bg, NA, NU, ME, BA, ct, low, high, ix))))
def qg_12_sl (x : qg_12_σ) : List Slot := [⟨.bx 32 [⟨.int .i64, .sh, TC.i (x.1)⟩, ⟨.int .i64, .sh, TC.i (x.2.1)⟩, ⟨.bool, .sh, TC.b (x.2.2.1)⟩, ⟨.bool, .sh, TC.b (x.2.2.2.1)⟩, ⟨.slice 9, .sh, TC.l (x.2.2.2.2.1)⟩, ⟨.slice 2, .sh, TC.l (x.2.2.2.2.2.1)⟩, ⟨.slice 71, .sh, TC.l (x.2.2.2.2.2.2.1)⟩, ⟨.slice 32, .sh, TC.l (x.2.2.2.2.2.2.2.1)⟩, ⟨.int .i64, .sh, TC.i (x.2.2.2.2.2.2.2.2.1)⟩], ⟨0, 0⟩⟩, ⟨.val false [⟨.int .i64, .sh, TC.i (x.2.2.2.2.2.2.2.2.2.1)⟩], ⟨0, 0⟩⟩, ⟨.val false [⟨.int .i64, .sh, TC.i (x.2.2.2.2.2.2.2.2.2.2.1)⟩], ⟨0, 0⟩⟩, ⟨.val false [⟨.int .i64, .sh, TC.i (x.2.2.2.2.2.2.2.2.2.2.2.1)⟩], ⟨0, 0⟩⟩, ⟨.val false [⟨.int .i64, .sh, TC.i (x.2.2.2.2.2.2.2.2.2.2.2.2)⟩], ⟨0, 0⟩⟩]
def qg_12_out : qg_12_ω → Ex × List Slot := (Sum.elim (fun x => (.ret, [⟨.bx 32 [⟨.int .i64, .sh, TC.i (x.1)⟩, ⟨.int .i64, .sh, TC.i (x.2.1)⟩, ⟨.bool, .sh, TC.b (x.2.2.1)⟩, ⟨.bool, .sh, TC.b (x.2.2.2.1)⟩, ⟨.slice 9, .sh, TC.l (x.2.2.2.2.1)⟩, ⟨.slice 2, .sh, TC.l (x.2.2.2.2.2.1)⟩, ⟨.slice 71, .sh, TC.l (x.2.2.2.2.2.2.1)⟩, ⟨.slice 32, .sh, TC.l (x.2.2.2.2.2.2.2.1)⟩, ⟨.int .i64, .sh, TC.i (x.2.2.2.2.2.2.2.2.1)⟩], ⟨0, 0⟩⟩, ⟨.val false [⟨.bool, .sh, TC.b false⟩], ⟨0, 0⟩⟩, ⟨.val false [⟨.int .i64, .sh, TC.i (x.2.2.2.2.2.2.2.2.2.1)⟩], ⟨0, 0⟩⟩, ⟨.val false [⟨.int .i64, .sh, TC.i (x.2.2.2.2.2.2.2.2.2.2.1)⟩], ⟨0, 0⟩⟩, ⟨.val false [⟨.int .i64, .sh, TC.i (x.2.2.2.2.2.2.2.2.2.2.2)⟩], ⟨0, 0⟩⟩])) (fun x => (.exit 2, [⟨.bx 32 [⟨.int .i64, .sh, TC.i (x.1)⟩, ⟨.int .i64, .sh, TC.i (x.2.1)⟩, ⟨.bool, .sh, TC.b (x.2.2.1)⟩, ⟨.bool, .sh, TC.b (x.2.2.2.1)⟩, ⟨.slice 9, .sh, TC.l (x.2.2.2.2.1)⟩, ⟨.slice 2, .sh, TC.l (x.2.2.2.2.2.1)⟩, ⟨.slice 71, .sh, TC.l (x.2.2.2.2.2.2.1)⟩, ⟨.slice 32, .sh, TC.l (x.2.2.2.2.2.2.2.1)⟩, ⟨.int .i64, .sh, TC.i (x.2.2.2.2.2.2.2.2.1)⟩], ⟨0, 0⟩⟩, Slot.none, ⟨.val false [⟨.int .i64, .sh, TC.i (x.2.2.2.2.2.2.2.2.2.1)⟩], ⟨0, 0⟩⟩, ⟨.val false [⟨.int .i64, .sh, TC.i (x.2.2.2.2.2.2.2.2.2.2.1)⟩], ⟨0, 0⟩⟩, ⟨.val false [⟨.int .i64, .sh, TC.i (x.2.2.2.2.2.2.2.2.2.2.2)⟩], ⟨0, 0⟩⟩])))
noncomputable def qg_lo12 : List Slot → Option (Told (Ex × List Slot)) := fun s => match s with
  | [⟨.bx 32 [⟨.int .i64, .sh, TC.i k⟩, ⟨.int .i64, .sh, TC.i s⟩, ⟨.bool, .sh, TC.b sg⟩, ⟨.bool, .sh, TC.b bg⟩, ⟨.slice 9, .sh, TC.l NA⟩, ⟨.slice 2, .sh, TC.l NU⟩, ⟨.slice 71, .sh, TC.l ME⟩, ⟨.slice 32, .sh, TC.l BA⟩, ⟨.int .i64, .sh, TC.i ct⟩], ⟨0, 0⟩⟩, ⟨.val false [⟨.int .i64, .sh, TC.i low⟩], ⟨0, 0⟩⟩, ⟨.val false [⟨.int .i64, .sh, TC.i high⟩], ⟨0, 0⟩⟩, ⟨.val false [⟨.int .i64, .sh, TC.i ix⟩], ⟨0, 0⟩⟩, ⟨.val false [⟨.int .i64, .sh, TC.i q⟩], ⟨0, 0⟩⟩] => some (((qg_12_fin k s sg bg NA NU ME BA ct low high ix q)).map qg_12_out)
  | _ => .none
noncomputable def qg_f7 (k s : Int) (sg bg : Bool) (NA NU ME BA : LL) (ct low high i : Int) : (Unit) ⊕ ((Unit) ⊕ (Unit)) := (bif (!(qq_v ((nth (row NA i) 0).str))) then (.inr (.inl ())) else (bif (!(qcg_v ((nth (row NU i) 0).int) low high)) then (.inr (.inl ())) else (bif (decide (i > (0 : Int))) then (bif (decide ((nth (row NU (IntKind.wrap .i64 (i - (1 : Int)))) 0).int ≥ (nth (row NU i) 0).int)) then (.inr (.inl ())) else (bif (qg_k12_1 k s sg bg NA NU ME BA ct low high i (0 : Int)) then (.inr (.inl ())) else (.inl ()))) else (bif (qg_k12_1 k s sg bg NA NU ME BA ct low high i (0 : Int)) then (.inr (.inl ())) else (.inl ())))))
noncomputable def qg_e7 (k s : Int) (sg bg : Bool) (NA NU ME BA : LL) (ct low high : Int) : (Unit) ⊕ (Unit) := .inr ()
noncomputable def qg_R7 (k s : Int) (sg bg : Bool) (NA NU ME BA : LL) (ct low high i : Int) : (Unit) ⊕ (Unit) := iter (fun i a => (qg_f7 k s sg bg NA NU ME BA ct low high (i : Int))) (fun a => (qg_e7 k s sg bg NA NU ME BA ct low high)) (NA.length) 0 ()
abbrev qg_7_σ := Int × Int × Bool × Bool × LL × LL × LL × LL × Int × Int × Int × Int
abbrev qg_7_ω := (Unit) ⊕ (Unit)
noncomputable def qg_7_step (k s : Int) (sg bg : Bool) (NA NU ME BA : LL) (ct low high i : Int) : Tr (qg_7_σ ⊕ qg_7_ω) := (.ite ((decide (i < (NA.length : Int))) = true) (.ite ((0 : Int) ≤ i ∧ i < (NA.length : Int)) (.ite ((qq_c ((nth (row NA i) 0).str)) = true) (.ite ((!(qq_v ((nth (row NA i) 0).str))) = true) (.ok (.inr (.inl ())))
     (.ite ((0 : Int) ≤ i ∧ i < (NU.length : Int)) (.ite ((!(qcg_v ((nth (row NU i) 0).int) low high)) = true) (.ok (.inr (.inl ())))
       (.ite ((decide (i > (0 : Int))) = true) (.ite ((0 : Int) ≤ (IntKind.wrap .i64 (i - (1 : Int))) ∧ (IntKind.wrap .i64 (i - (1 : Int))) < (NU.length : Int)) (.ite ((0 : Int) ≤ i ∧ i < (NU.length : Int)) (.ite ((decide ((nth (row NU (IntKind.wrap .i64 (i - (1 : Int)))) 0).int ≥ (nth (row NU i) 0).int)) = true) (.ok (.inr (.inl ())))
           (.ite ((qg_k12_1 k s sg bg NA NU ME BA ct low high i (0 : Int)) = true) (.ite ((qg_o12_2 k s sg bg NA NU ME BA ct low high i (0 : Int)) = true) (.ok (.inr (.inl ())))
             .no)
            (.ite ((qg_o12_3 k s sg bg NA NU ME BA ct low high i (0 : Int)) = true) (.ok (.inl (k, s, sg, bg, NA, NU, ME, BA, ct, low, high, (IntKind.wrap .i64 (i + (1 : Int))))))
             .no)))
          .no)
         .no)
        (.ite ((qg_k12_1 k s sg bg NA NU ME BA ct low high i (0 : Int)) = true) (.ite ((qg_o12_2 k s sg bg NA NU ME BA ct low high i (0 : Int)) = true) (.ok (.inr (.inl ())))
          .no)
         (.ite ((qg_o12_3 k s sg bg NA NU ME BA ct low high i (0 : Int)) = true) (.ok (.inl (k, s, sg, bg, NA, NU, ME, BA, ct, low, high, (IntKind.wrap .i64 (i + (1 : Int))))))
          .no))))
      .no))
    .no)
   .no)
  (.ok (.inr (.inr ()))))
noncomputable def qg_7_st : qg_7_σ → Tr (qg_7_σ ⊕ qg_7_ω) := fun x => (qg_7_step (x.1) (x.2.1) (x.2.2.1) (x.2.2.2.1) (x.2.2.2.2.1) (x.2.2.2.2.2.1) (x.2.2.2.2.2.2.1) (x.2.2.2.2.2.2.2.1) (x.2.2.2.2.2.2.2.2.1) (x.2.2.2.2.2.2.2.2.2.1) (x.2.2.2.2.2.2.2.2.2.2.1) (x.2.2.2.2.2.2.2.2.2.2.2))
noncomputable def qg_k7_1 (k s : Int) (sg bg : Bool) (NA NU ME BA : LL) (ct low high i : Int) : Bool := sumIs (qg_R7 k s sg bg NA NU ME BA ct low high i)
noncomputable def qg_o7_2 (k s : Int) (sg bg : Bool) (NA NU ME BA : LL) (ct low high i : Int) : Bool := is (i = 0 ∧ Typed tab (.slice 9) (.l NA) ∧ NU.length = NA.length)
noncomputable def qg_o7_3 (k s : Int) (sg bg : Bool) (NA NU ME BA : LL) (ct low high i : Int) : Bool := is (i = 0 ∧ Typed tab (.slice 9) (.l NA) ∧ NU.length = NA.length)
noncomputable def qg_7_fin (k s : Int) (sg bg : Bool) (NA NU ME BA : LL) (ct low high i : Int) : Told qg_7_ω := (.br (qg_k7_1 k s sg bg NA NU ME BA ct low high i) (.leaf (qg_o7_2 k s sg bg NA NU ME BA ct low high i) (.inl ())) (.leaf (qg_o7_3 k s sg bg NA NU ME BA ct low high i) (.inr ())))
def qg_7_sl (x : qg_7_σ) : List Slot := [⟨.bx 32 [⟨.int .i64, .sh, TC.i (x.1)⟩, ⟨.int .i64, .sh, TC.i (x.2.1)⟩, ⟨.bool, .sh, TC.b (x.2.2.1)⟩, ⟨.bool, .sh, TC.b (x.2.2.2.1)⟩, ⟨.slice 9, .sh, TC.l (x.2.2.2.2.1)⟩, ⟨.slice 2, .sh, TC.l (x.2.2.2.2.2.1)⟩, ⟨.slice 71, .sh, TC.l (x.2.2.2.2.2.2.1)⟩, ⟨.slice 32, .sh, TC.l (x.2.2.2.2.2.2.2.1)⟩, ⟨.int .i64, .sh, TC.i (x.2.2.2.2.2.2.2.2.1)⟩], ⟨0, 0⟩⟩, ⟨.val false [⟨.int .i64, .sh, TC.i (x.2.2.2.2.2.2.2.2.2.1)⟩], ⟨0, 0⟩⟩, ⟨.val false [⟨.int .i64, .sh, TC.i (x.2.2.2.2.2.2.2.2.2.2.1)⟩], ⟨0, 0⟩⟩, ⟨.val false [⟨.int .i64, .sh, TC.i (x.2.2.2.2.2.2.2.2.2.2.2)⟩], ⟨0, 0⟩⟩]
def qg_7_out : qg_7_ω → Ex × List Slot := (Sum.elim (fun x => (.ret, [⟨.val false [⟨.bool, .sh, TC.b false⟩], ⟨0, 0⟩⟩])) (fun x => (.exit 0, [Slot.none])))
noncomputable def qg_lo7 : List Slot → Option (Told (Ex × List Slot)) := fun s => match s with
  | [⟨.bx 32 [⟨.int .i64, .sh, TC.i k⟩, ⟨.int .i64, .sh, TC.i s⟩, ⟨.bool, .sh, TC.b sg⟩, ⟨.bool, .sh, TC.b bg⟩, ⟨.slice 9, .sh, TC.l NA⟩, ⟨.slice 2, .sh, TC.l NU⟩, ⟨.slice 71, .sh, TC.l ME⟩, ⟨.slice 32, .sh, TC.l BA⟩, ⟨.int .i64, .sh, TC.i ct⟩], ⟨0, 0⟩⟩, ⟨.val false [⟨.int .i64, .sh, TC.i low⟩], ⟨0, 0⟩⟩, ⟨.val false [⟨.int .i64, .sh, TC.i high⟩], ⟨0, 0⟩⟩, ⟨.val false [⟨.int .i64, .sh, TC.i i⟩], ⟨0, 0⟩⟩] => some (((qg_7_fin k s sg bg NA NU ME BA ct low high i)).map qg_7_out)
  | _ => .none
noncomputable def qg_lo : LoopTeller := fun r s => bif Nat.beq r 7 then qg_lo7 s else bif Nat.beq r 12 then qg_lo12 s else .none
theorem qg_12_r (k s : Int) (sg bg : Bool) (NA NU ME BA : LL) (ct low high ix q : Int) (fuel : Nat) : rounds (rnd tab FT D22 live 65 qg_lo 1 12) leave (fuel + 1) (qg_12_sl (k, s, sg, bg, NA, NU, ME, BA, ct, low, high, ix, q)) = ((qg_12_step k s sg bg NA NU ME BA ct low high ix q)).run (goOn (fun s => rounds (rnd tab FT D22 live 65 qg_lo 1 12) leave fuel (qg_12_sl s)) fun w => some (qg_12_out w)) := by kernel_rfl
theorem qg_f12_eq (k s : Int) (sg bg : Bool) (NA NU ME BA : LL) (ct low high : Int) (ix i : Int) : qg_f12 k s sg bg NA NU ME BA ct low high ix i = bif !(strAt NA i == strAt NA ix) then Sum.inl () else Sum.inr (Sum.inl (k, s, sg, bg, NA, NU, ME, BA, ct, low, high, ix)) := by
  unfold qg_f12 strAt
  skip
  generalize ((nth (row NA i) 0).str == (nth (row NA ix) 0).str) = p0
  cases p0 <;> rfl
theorem qg_R12_eq (k s : Int) (sg bg : Bool) (NA NU ME BA : LL) (ct low high : Int) (ix : Int)  : qg_R12 k s sg bg NA NU ME BA ct low high ix 0 = bif allI (fun i : Nat => !(strAt NA (i : Int) == strAt NA ix)) (ix.toNat) then Sum.inr (k, s, sg, bg, NA, NU, ME, BA, ct, low, high, ix) else (Sum.inl (k, s, sg, bg, NA, NU, ME, BA, ct, low, high, ix)) := by
  unfold qg_R12
  exact (iter_all (P := (fun i : Nat => !(strAt NA (i : Int) == strAt NA ix))) (g := fun _ a => a) (w := Sum.inl (k, s, sg, bg, NA, NU, ME, BA, ct, low, high, ix)) fun j a _ => qg_f12_eq k s sg bg NA NU ME BA ct low high ix _)
theorem qg_12_h (k s : Int) (sg bg : Bool) (NA NU ME BA : LL) (ct low high ix q : Int) (ow : qg_12_ω) : ((qg_12_fin k s sg bg NA NU ME BA ct low high ix q)).val = some ow → ∃ fuel, loopN qg_12_st fuel (k, s, sg, bg, NA, NU, ME, BA, ct, low, high, ix, q) = some ow := by
  refine auto_const (R := (qg_R12 k s sg bg NA NU ME BA ct low high ix q)) rfl (iter_onR (f := (fun i a => (qg_f12 k s sg bg NA NU ME BA ct low high ix (i : Int)))) (fin := (fun a => (qg_e12 k s sg bg NA NU ME BA ct low high ix))) (Q := endsAs (k, s, sg, bg, NA, NU, ME, BA, ct, low, high, ix) (k, s, sg, bg, NA, NU, ME, BA, ct, low, high, ix)) (fun i a => by unfold qg_f12; exact (onR_bif rfl trivial)) (fun _ => rfl) _ _ _) ?_
  intro ho
  have ho : is (q = 0 ∧ 0 ≤ ix ∧ ix < (NA.length : Int) ∧ NA.length ≤ 140737488355328) = true := ho.elim id id
  obtain ⟨rfl, h0, h1, h2⟩ := is_iff.1 ho
  skip
  refine ⟨(ix.toNat) + 1, ?_⟩
  refine iter_loop (step := qg_12_st) (ix.toNat) (fun i a => (qg_f12 k s sg bg NA NU ME BA ct low high ix (i : Int))) (fun a => (qg_e12 k s sg bg NA NU ME BA ct low high ix)) (fun i a => (k, s, sg, bg, NA, NU, ME, BA, ct, low, high, ix, (i : Int))) (fun _ _ => True) trivial (fun i a hi hI => ⟨?_, fun _ _ => trivial⟩) (fun a hI => ?_)
  · show (qg_12_step k s sg bg NA NU ME BA ct low high ix (i : Int)).val = _
    unfold qg_12_step qg_f12
    skip
    refine Tr.t (by simp; omega) ?_
    exact (Tr.t (by first | omega | (constructor <;> omega)) (Tr.t (by first | omega | (constructor <;> omega)) (Tr.bf rfl (by rw [Tr.val_ok, wrap64 (i := (i : Int) + 1) (by omega) (by omega)]; rfl))))
  · show (qg_12_step k s sg bg NA NU ME BA ct low high ix (ix.toNat : Int)).val = _
    refine Tr.n (by first | (simp; done) | (simp; omega) | omega) ?_
    rfl
theorem qg_is12 : LoopIs tab FT D22 live 65 qg_lo 1 12 := by
  refine loop_told (sl := qg_12_sl) (step := qg_12_st) (out := qg_12_out) (lor := qg_lo12) (fin := fun x => (qg_12_fin (x.1) (x.2.1) (x.2.2.1) (x.2.2.2.1) (x.2.2.2.2.1) (x.2.2.2.2.2.1) (x.2.2.2.2.2.2.1) (x.2.2.2.2.2.2.2.1) (x.2.2.2.2.2.2.2.2.1) (x.2.2.2.2.2.2.2.2.2.1) (x.2.2.2.2.2.2.2.2.2.2.1) (x.2.2.2.2.2.2.2.2.2.2.2.1) (x.2.2.2.2.2.2.2.2.2.2.2.2))) (fun _ => rfl) ?_ (fun x n => qg_12_r x.1 x.2.1 x.2.2.1 x.2.2.2.1 x.2.2.2.2.1 x.2.2.2.2.2.1 x.2.2.2.2.2.2.1 x.2.2.2.2.2.2.2.1 x.2.2.2.2.2.2.2.2.1 x.2.2.2.2.2.2.2.2.2.1 x.2.2.2.2.2.2.2.2.2.2.1 x.2.2.2.2.2.2.2.2.2.2.2.1 x.2.2.2.2.2.2.2.2.2.2.2.2 n) (fun x ow => qg_12_h x.1 x.2.1 x.2.2.1 x.2.2.2.1 x.2.2.2.2.1 x.2.2.2.2.2.1 x.2.2.2.2.2.2.1 x.2.2.2.2.2.2.2.1 x.2.2.2.2.2.2.2.2.1 x.2.2.2.2.2.2.2.2.2.1 x.2.2.2.2.2.2.2.2.2.2.1 x.2.2.2.2.2.2.2.2.2.2.2.1 x.2.2.2.2.2.2.2.2.2.2.2.2 ow)
  intro s t h
  unfold qg_lo12 at h
  split at h
  · cases h; exact ⟨(_, _, _, _, _, _, _, _, _, _, _, _, _), rfl, rfl⟩
  · cases h
theorem qg_7_r (k s : Int) (sg bg : Bool) (NA NU ME BA : LL) (ct low high i : Int) (fuel : Nat) : rounds (rnd tab FT D22 live 65 qg_lo 0 7) leave (fuel + 1) (qg_7_sl (k, s, sg, bg, NA, NU, ME, BA, ct, low, high, i)) = ((qg_7_step k s sg bg NA NU ME BA ct low high i)).run (goOn (fun s => rounds (rnd tab FT D22 live 65 qg_lo 0 7) leave fuel (qg_7_sl s)) fun w => some (qg_7_out w)) := by kernel_rfl
theorem qg_f7_eq (k s : Int) (sg bg : Bool) (NA NU ME BA : LL) (ct low high : Int) (i : Int) : qg_f7 k s sg bg NA NU ME BA ct low high i = bif enumP NA NU low high i then Sum.inl () else Sum.inr (Sum.inl ()) := by
  unfold qg_f7 enumP ascB strAt intAt
  rw [show qg_k12_1 k s sg bg NA NU ME BA ct low high i 0 = !(noDupN NA i) from by unfold qg_k12_1 noDupN; rw [qg_R12_eq]; generalize allI _ _ = q; cases q <;> rfl]
  rw [show qcg_v (nth (row NU i) 0).int low high = inB (nth (row NU i) 0).int low high from rfl, qq_vv]
  generalize nameOk (nth (row NA i) 0).str = p0, inB (nth (row NU i) 0).int low high = p1, decide (i > 0) = p2, decide ((nth (row NU (IntKind.wrap .i64 (i - (1 : Int)))) 0).int ≥ (nth (row NU i) 0).int) = p3, noDupN NA i = p4
  cases p0 <;> cases p1 <;> cases p2 <;> cases p3 <;> cases p4 <;> rfl
theorem qg_R7_eq (k s : Int) (sg bg : Bool) (NA NU ME BA : LL) (ct low high : Int)  : qg_R7 k s sg bg NA NU ME BA ct low high 0 = bif allI (fun i : Nat => enumP NA NU low high (i : Int)) (NA.length) then Sum.inr () else (Sum.inl ()) := by
  unfold qg_R7
  exact (iter_all (P := (fun i : Nat => enumP NA NU low high (i : Int))) (g := fun _ a => a) (w := Sum.inl ()) fun j a _ => qg_f7_eq k s sg bg NA NU ME BA ct low high _)
theorem qg_7_h (k s : Int) (sg bg : Bool) (NA NU ME BA : LL) (ct low high i : Int) (ow : qg_7_ω) : ((qg_7_fin k s sg bg NA NU ME BA ct low high i)).val = some ow → ∃ fuel, loopN qg_7_st fuel (k, s, sg, bg, NA, NU, ME, BA, ct, low, high, i) = some ow := by
  refine auto_const (R := (qg_R7 k s sg bg NA NU ME BA ct low high i)) rfl (iter_onR (f := (fun i a => (qg_f7 k s sg bg NA NU ME BA ct low high (i : Int)))) (fin := (fun a => (qg_e7 k s sg bg NA NU ME BA ct low high))) (Q := endsAs () ()) (fun i a => by unfold qg_f7; exact (onR_bif rfl (onR_bif rfl (onR_bif (onR_bif rfl (onR_bif rfl trivial)) (onR_bif rfl trivial))))) (fun _ => rfl) _ _ _) ?_
  intro ho
  have ho : is (i = 0 ∧ Typed tab (.slice 9) (.l NA) ∧ NU.length = NA.length) = true := ho.elim id id
  obtain ⟨rfl, ht, hU⟩ := is_iff.1 ho
  have hlen : NA.length ≤ 140737488351232 := by have := typed_room ht; simp only [show (tab 9).bytes = 16 from rfl] at this; omega
  refine ⟨(NA.length) + 1, ?_⟩
  refine iter_loop (step := qg_7_st) (NA.length) (fun i a => (qg_f7 k s sg bg NA NU ME BA ct low high (i : Int))) (fun a => (qg_e7 k s sg bg NA NU ME BA ct low high)) (fun i a => (k, s, sg, bg, NA, NU, ME, BA, ct, low, high, (i : Int))) (fun _ _ => True) trivial (fun i a hi hI => ⟨?_, fun _ _ => trivial⟩) (fun a hI => ?_)
  · show (qg_7_step k s sg bg NA NU ME BA ct low high (i : Int)).val = _
    unfold qg_7_step qg_f7
    have c0 : Typed tab (.str) (.s (nth (NA.getD i []) 0).str) := typed_s (typed_cell ht (NA.getD i []) (mem_getD hi) 0 (by decide))
    refine Tr.t (by simp; omega) ?_
    exact (Tr.t (by first | omega | (constructor <;> omega) | (exact is_true ⟨rfl, by omega, by omega, by omega⟩) | (simp only [decide_eq_true_eq] at *; rw [wrap64 (by omega) (by omega)]; constructor <;> omega)) (Tr.t (by first | (exact is_true ⟨rfl, by omega, by omega, by omega⟩) | (simp only [decide_eq_true_eq] at *; rw [wrap64 (by omega) (by omega)]; constructor <;> omega) | (first | (apply qq_cc <;> assumption) | (first | (apply is_true; and_intros <;> (first | rfl | assumption | (apply qk_cc <;> assumption) | (apply qbd_cc <;> assumption) | (apply qo_cc <;> assumption) | (apply qr_cc <;> assumption) | (apply qv_cc <;> assumption) | (apply qw_cc <;> assumption) | (apply qq_cc <;> assumption) | (first | (apply is_true; and_intros <;> (first | rfl | assumption | (apply qk_cc <;> assumption) | (apply qbd_cc <;> assumption) | (apply qo_cc <;> assumption) | (apply qr_cc <;> assumption) | (apply qv_cc <;> assumption) | (apply qw_cc <;> assumption) | (apply qq_cc <;> assumption))) | (apply qk_cc <;> assumption) | (apply qbd_cc <;> assumption) | (apply qo_cc <;> assumption) | (apply qr_cc <;> assumption) | (apply qv_cc <;> assumption) | (apply qw_cc <;> assumption) | (apply qq_cc <;> assumption)))) | (apply qk_cc <;> assumption) | (apply qbd_cc <;> assumption) | (apply qo_cc <;> assumption) | (apply qr_cc <;> assumption) | (apply qv_cc <;> assumption) | (apply qw_cc <;> assumption) | (apply qq_cc <;> assumption)))) (Tr.bh (fun _ => rfl) (fun _ => (Tr.t (by first | omega | (constructor <;> omega) | (exact is_true ⟨rfl, by omega, by omega, by omega⟩) | (simp only [decide_eq_true_eq] at *; rw [wrap64 (by omega) (by omega)]; constructor <;> omega)) (Tr.bh (fun _ => rfl) (fun _ => (Tr.bh (fun _ => (Tr.t (by first | omega | (constructor <;> omega) | (exact is_true ⟨rfl, by omega, by omega, by omega⟩) | (simp only [decide_eq_true_eq] at *; rw [wrap64 (by omega) (by omega)]; constructor <;> omega)) (Tr.t (by first | omega | (constructor <;> omega) | (exact is_true ⟨rfl, by omega, by omega, by omega⟩) | (simp only [decide_eq_true_eq] at *; rw [wrap64 (by omega) (by omega)]; constructor <;> omega)) (Tr.bh (fun _ => rfl) (fun _ => (Tr.bh (fun _ => (Tr.t (by first | (exact is_true ⟨rfl, by omega, by omega, by omega⟩) | (simp only [decide_eq_true_eq] at *; rw [wrap64 (by omega) (by omega)]; constructor <;> omega) | (first | (apply is_true; and_intros <;> (first | rfl | assumption | (apply qk_cc <;> assumption) | (apply qbd_cc <;> assumption) | (apply qo_cc <;> assumption) | (apply qr_cc <;> assumption) | (apply qv_cc <;> assumption) | (apply qw_cc <;> assumption) | (apply qq_cc <;> assumption) | (first | (apply is_true; and_intros <;> (first | rfl | assumption | (apply qk_cc <;> assumption) | (apply qbd_cc <;> assumption) | (apply qo_cc <;> assumption) | (apply qr_cc <;> assumption) | (apply qv_cc <;> assumption) | (apply qw_cc <;> assumption) | (apply qq_cc <;> assumption) | (first | (apply is_true; and_intros <;> (first | rfl | assumption | (apply qk_cc <;> assumption) | (apply qbd_cc <;> assumption) | (apply qo_cc <;> assumption) | (apply qr_cc <;> assumption) | (apply qv_cc <;> assumption) | (apply qw_cc <;> assumption) | (apply qq_cc <;> assumption))) | (apply qk_cc <;> assumption) | (apply qbd_cc <;> assumption) | (apply qo_cc <;> assumption) | (apply qr_cc <;> assumption) | (apply qv_cc <;> assumption) | (apply qw_cc <;> assumption) | (apply qq_cc <;> assumption)))) | (apply qk_cc <;> assumption) | (apply qbd_cc <;> assumption) | (apply qo_cc <;> assumption) | (apply qr_cc <;> assumption) | (apply qv_cc <;> assumption) | (apply qw_cc <;> assumption) | (apply qq_cc <;> assumption)))) | (apply qk_cc <;> assumption) | (apply qbd_cc <;> assumption) | (apply qo_cc <;> assumption) | (apply qr_cc <;> assumption) | (apply qv_cc <;> assumption) | (apply qw_cc <;> assumption) | (apply qq_cc <;> assumption))) rfl)) (fun _ => (Tr.t (by first | (exact is_true ⟨rfl, by omega, by omega, by omega⟩) | (simp only [decide_eq_true_eq] at *; rw [wrap64 (by omega) (by omega)]; constructor <;> omega) | (first | (apply is_true; and_intros <;> (first | rfl | assumption | (apply qk_cc <;> assumption) | (apply qbd_cc <;> assumption) | (apply qo_cc <;> assumption) | (apply qr_cc <;> assumption) | (apply qv_cc <;> assumption) | (apply qw_cc <;> assumption) | (apply qq_cc <;> assumption) | (first | (apply is_true; and_intros <;> (first | rfl | assumption | (apply qk_cc <;> assumption) | (apply qbd_cc <;> assumption) | (apply qo_cc <;> assumption) | (apply qr_cc <;> assumption) | (apply qv_cc <;> assumption) | (apply qw_cc <;> assumption) | (apply qq_cc <;> assumption) | (first | (apply is_true; and_intros <;> (first | rfl | assumption | (apply qk_cc <;> assumption) | (apply qbd_cc <;> assumption) | (apply qo_cc <;> assumption) | (apply qr_cc <;> assumption) | (apply qv_cc <;> assumption) | (apply qw_cc <;> assumption) | (apply qq_cc <;> assumption))) | (apply qk_cc <;> assumption) | (apply qbd_cc <;> assumption) | (apply qo_cc <;> assumption) | (apply qr_cc <;> assumption) | (apply qv_cc <;> assumption) | (apply qw_cc <;> assumption) | (apply qq_cc <;> assumption)))) | (apply qk_cc <;> assumption) | (apply qbd_cc <;> assumption) | (apply qo_cc <;> assumption) | (apply qr_cc <;> assumption) | (apply qv_cc <;> assumption) | (apply qw_cc <;> assumption) | (apply qq_cc <;> assumption)))) | (apply qk_cc <;> assumption) | (apply qbd_cc <;> assumption) | (apply qo_cc <;> assumption) | (apply qr_cc <;> assumption) | (apply qv_cc <;> assumption) | (apply qw_cc <;> assumption) | (apply qq_cc <;> assumption))) (by rw [Tr.val_ok, wrap64 (i := (i : Int) + 1) (by omega) (by omega)]; rfl))))))))) (fun _ => (Tr.bh (fun _ => (Tr.t (by first | (exact is_true ⟨rfl, by omega, by omega, by omega⟩) | (simp only [decide_eq_true_eq] at *; rw [wrap64 (by omega) (by omega)]; constructor <;> omega) | (first | (apply is_true; and_intros <;> (first | rfl | assumption | (apply qk_cc <;> assumption) | (apply qbd_cc <;> assumption) | (apply qo_cc <;> assumption) | (apply qr_cc <;> assumption) | (apply qv_cc <;> assumption) | (apply qw_cc <;> assumption) | (apply qq_cc <;> assumption) | (first | (apply is_true; and_intros <;> (first | rfl | assumption | (apply qk_cc <;> assumption) | (apply qbd_cc <;> assumption) | (apply qo_cc <;> assumption) | (apply qr_cc <;> assumption) | (apply qv_cc <;> assumption) | (apply qw_cc <;> assumption) | (apply qq_cc <;> assumption) | (first | (apply is_true; and_intros <;> (first | rfl | assumption | (apply qk_cc <;> assumption) | (apply qbd_cc <;> assumption) | (apply qo_cc <;> assumption) | (apply qr_cc <;> assumption) | (apply qv_cc <;> assumption) | (apply qw_cc <;> assumption) | (apply qq_cc <;> assumption))) | (apply qk_cc <;> assumption) | (apply qbd_cc <;> assumption) | (apply qo_cc <;> assumption) | (apply qr_cc <;> assumption) | (apply qv_cc <;> assumption) | (apply qw_cc <;> assumption) | (apply qq_cc <;> assumption)))) | (apply qk_cc <;> assumption) | (apply qbd_cc <;> assumption) | (apply qo_cc <;> assumption) | (apply qr_cc <;> assumption) | (apply qv_cc <;> assumption) | (apply qw_cc <;> assumption) | (apply qq_cc <;> assumption)))) | (apply qk_cc <;> assumption) | (apply qbd_cc <;> assumption) | (apply qo_cc <;> assumption) | (apply qr_cc <;> assumption) | (apply qv_cc <;> assumption) | (apply qw_cc <;> assumption) | (apply qq_cc <;> assumption))) rfl)) (fun _ => (Tr.t (by first | (exact is_true ⟨rfl, by omega, by omega, by omega⟩) | (simp only [decide_eq_true_eq] at *; rw [wrap64 (by omega) (by omega)]; constructor <;> omega) | (first | (apply is_true; and_intros <;> (first | rfl | assumption | (apply qk_cc <;> assumption) | (apply qbd_cc <;> assumption) | (apply qo_cc <;> assumption) | (apply qr_cc <;> assumption) | (apply qv_cc <;> assumption) | (apply qw_cc <;> assumption) | (apply qq_cc <;> assumption) | (first | (apply is_true; and_intros <;> (first | rfl | assumption | (apply qk_cc <;> assumption) | (apply qbd_cc <;> assumption) | (apply qo_cc <;> assumption) | (apply qr_cc <;> assumption) | (apply qv_cc <;> assumption) | (apply qw_cc <;> assumption) | (apply qq_cc <;> assumption) | (first | (apply is_true; and_intros <;> (first | rfl | assumption | (apply qk_cc <;> assumption) | (apply qbd_cc <;> assumption) | (apply qo_cc <;> assumption) | (apply qr_cc <;> assumption) | (apply qv_cc <;> assumption) | (apply qw_cc <;> assumption) | (apply qq_cc <;> assumption))) | (apply qk_cc <;> assumption) | (apply qbd_cc <;> assumption) | (apply qo_cc <;> assumption) | (apply qr_cc <;> assumption) | (apply qv_cc <;> assumption) | (apply qw_cc <;> assumption) | (apply qq_cc <;> assumption)))) | (apply qk_cc <;> assumption) | (apply qbd_cc <;> assumption) | (apply qo_cc <;> assumption) | (apply qr_cc <;> assumption) | (apply qv_cc <;> assumption) | (apply qw_cc <;> assumption) | (apply qq_cc <;> assumption)))) | (apply qk_cc <;> assumption) | (apply qbd_cc <;> assumption) | (apply qo_cc <;> assumption) | (apply qr_cc <;> assumption) | (apply qv_cc <;> assumption) | (apply qw_cc <;> assumption) | (apply qq_cc <;> assumption))) (by rw [Tr.val_ok, wrap64 (i := (i : Int) + 1) (by omega) (by omega)]; rfl)))))))))))))
  · show (qg_7_step k s sg bg NA NU ME BA ct low high (NA.length : Int)).val = _
    refine Tr.n (by first | (simp; done) | (simp; omega) | omega) ?_
    rfl
theorem qg_is7 : LoopIs tab FT D22 live 65 qg_lo 0 7 := by
  refine loop_told (sl := qg_7_sl) (step := qg_7_st) (out := qg_7_out) (lor := qg_lo7) (fin := fun x => (qg_7_fin (x.1) (x.2.1) (x.2.2.1) (x.2.2.2.1) (x.2.2.2.2.1) (x.2.2.2.2.2.1) (x.2.2.2.2.2.2.1) (x.2.2.2.2.2.2.2.1) (x.2.2.2.2.2.2.2.2.1) (x.2.2.2.2.2.2.2.2.2.1) (x.2.2.2.2.2.2.2.2.2.2.1) (x.2.2.2.2.2.2.2.2.2.2.2))) (fun _ => rfl) ?_ (fun x n => qg_7_r x.1 x.2.1 x.2.2.1 x.2.2.2.1 x.2.2.2.2.1 x.2.2.2.2.2.1 x.2.2.2.2.2.2.1 x.2.2.2.2.2.2.2.1 x.2.2.2.2.2.2.2.2.1 x.2.2.2.2.2.2.2.2.2.1 x.2.2.2.2.2.2.2.2.2.2.1 x.2.2.2.2.2.2.2.2.2.2.2 n) (fun x ow => qg_7_h x.1 x.2.1 x.2.2.1 x.2.2.2.1 x.2.2.2.2.1 x.2.2.2.2.2.1 x.2.2.2.2.2.2.1 x.2.2.2.2.2.2.2.1 x.2.2.2.2.2.2.2.2.1 x.2.2.2.2.2.2.2.2.2.1 x.2.2.2.2.2.2.2.2.2.2.1 x.2.2.2.2.2.2.2.2.2.2.2 ow)
  intro s t h
  unfold qg_lo7 at h
  split at h
  · cases h; exact ⟨(_, _, _, _, _, _, _, _, _, _, _, _), rfl, rfl⟩
  · cases h
noncomputable def qg_t (k s : Int) (sg bg : Bool) (NA NU ME BA : LL) (ct : Int) : Tr (Bool) := (.ite ((!(s == (0 : Int))) = true) (.ok false)
  (.ite ((!(qbo_v k s sg bg NA NU ME BA ct)) = true) (.ok false)
   (.ite ((decide ((ME.length : Int) > (0 : Int))) = true) (.ok false)
    (.ite ((!(ct == (0 : Int))) = true) (.ok false)
     (.ite ((!((BA.length : Int) == (1 : Int))) = true) (.ok false)
      (.ite ((0 : Int) ≤ (0 : Int) ∧ (0 : Int) < (BA.length : Int)) (.ite ((!((nth (row BA (0 : Int)) 0).int == (1 : Int))) = true) (.ok false)
        (.ite ((0 : Int) ≤ (0 : Int) ∧ (0 : Int) < (BA.length : Int)) (.ite ((!(qcj_v ((nth (row BA (0 : Int)) 0).int) ((nth (row BA (0 : Int)) 1).int) ((nth (row BA (0 : Int)) 2).bool) ((nth (row BA (0 : Int)) 3).bool) ((nth (row BA (0 : Int)) 4).list) ((nth (row BA (0 : Int)) 5).list) ((nth (row BA (0 : Int)) 6).list) ((nth (row BA (0 : Int)) 7).list) ((nth (row BA (0 : Int)) 8).int))) = true) (.ok false)
          (.ite ((decide ((NA.length : Int) < (1 : Int))) = true) (.ok false)
           (.ite ((decide ((NA.length : Int) > (6 : Int))) = true) (.ok false)
            (.ite ((!((NU.length : Int) == (NA.length : Int))) = true) (.ok false)
             (.ite ((0 : Int) ≤ (0 : Int) ∧ (0 : Int) < (BA.length : Int)) (.ite ((qw_c ((nth (row BA (0 : Int)) 0).int) ((nth (row BA (0 : Int)) 1).int) ((nth (row BA (0 : Int)) 2).bool) ((nth (row BA (0 : Int)) 3).bool) ((nth (row BA (0 : Int)) 4).list) ((nth (row BA (0 : Int)) 5).list) ((nth (row BA (0 : Int)) 6).list) ((nth (row BA (0 : Int)) 7).list) ((nth (row BA (0 : Int)) 8).int)) = true) (.ite ((qg_k7_1 k s sg bg NA NU ME BA ct ((qw_v ((nth (row BA (0 : Int)) 0).int) ((nth (row BA (0 : Int)) 1).int) ((nth (row BA (0 : Int)) 2).bool) ((nth (row BA (0 : Int)) 3).bool) ((nth (row BA (0 : Int)) 4).list) ((nth (row BA (0 : Int)) 5).list) ((nth (row BA (0 : Int)) 6).list) ((nth (row BA (0 : Int)) 7).list) ((nth (row BA (0 : Int)) 8).int)).1) ((qw_v ((nth (row BA (0 : Int)) 0).int) ((nth (row BA (0 : Int)) 1).int) ((nth (row BA (0 : Int)) 2).bool) ((nth (row BA (0 : Int)) 3).bool) ((nth (row BA (0 : Int)) 4).list) ((nth (row BA (0 : Int)) 5).list) ((nth (row BA (0 : Int)) 6).list) ((nth (row BA (0 : Int)) 7).list) ((nth (row BA (0 : Int)) 8).int)).2) (0 : Int)) = true) (.ite ((qg_o7_2 k s sg bg NA NU ME BA ct ((qw_v ((nth (row BA (0 : Int)) 0).int) ((nth (row BA (0 : Int)) 1).int) ((nth (row BA (0 : Int)) 2).bool) ((nth (row BA (0 : Int)) 3).bool) ((nth (row BA (0 : Int)) 4).list) ((nth (row BA (0 : Int)) 5).list) ((nth (row BA (0 : Int)) 6).list) ((nth (row BA (0 : Int)) 7).list) ((nth (row BA (0 : Int)) 8).int)).1) ((qw_v ((nth (row BA (0 : Int)) 0).int) ((nth (row BA (0 : Int)) 1).int) ((nth (row BA (0 : Int)) 2).bool) ((nth (row BA (0 : Int)) 3).bool) ((nth (row BA (0 : Int)) 4).list) ((nth (row BA (0 : Int)) 5).list) ((nth (row BA (0 : Int)) 6).list) ((nth (row BA (0 : Int)) 7).list) ((nth (row BA (0 : Int)) 8).int)).2) (0 : Int)) = true) (.ok false)
                 .no)
                (.ite ((qg_o7_3 k s sg bg NA NU ME BA ct ((qw_v ((nth (row BA (0 : Int)) 0).int) ((nth (row BA (0 : Int)) 1).int) ((nth (row BA (0 : Int)) 2).bool) ((nth (row BA (0 : Int)) 3).bool) ((nth (row BA (0 : Int)) 4).list) ((nth (row BA (0 : Int)) 5).list) ((nth (row BA (0 : Int)) 6).list) ((nth (row BA (0 : Int)) 7).list) ((nth (row BA (0 : Int)) 8).int)).1) ((qw_v ((nth (row BA (0 : Int)) 0).int) ((nth (row BA (0 : Int)) 1).int) ((nth (row BA (0 : Int)) 2).bool) ((nth (row BA (0 : Int)) 3).bool) ((nth (row BA (0 : Int)) 4).list) ((nth (row BA (0 : Int)) 5).list) ((nth (row BA (0 : Int)) 6).list) ((nth (row BA (0 : Int)) 7).list) ((nth (row BA (0 : Int)) 8).int)).2) (0 : Int)) = true) (.ok true)
                 .no))
               .no)
              .no)))))
         .no))
       .no))))))
def qg_mk (p : Bool) : Res := [(false, [⟨.bool, .sh, TC.b p⟩])]
noncomputable def qg_c (k s : Int) (sg bg : Bool) (NA NU ME BA : LL) (ct : Int) : Bool := (bif (!(s == (0 : Int))) then true else (bif (!(qbo_v k s sg bg NA NU ME BA ct)) then true else (bif (decide ((ME.length : Int) > (0 : Int))) then true else (bif (!(ct == (0 : Int))) then true else (bif (!((BA.length : Int) == (1 : Int))) then true else (is ((0 : Int) ≤ (0 : Int) ∧ (0 : Int) < (BA.length : Int)) && (bif (!((nth (row BA (0 : Int)) 0).int == (1 : Int))) then true else (is ((0 : Int) ≤ (0 : Int) ∧ (0 : Int) < (BA.length : Int)) && (bif (!(qcj_v ((nth (row BA (0 : Int)) 0).int) ((nth (row BA (0 : Int)) 1).int) ((nth (row BA (0 : Int)) 2).bool) ((nth (row BA (0 : Int)) 3).bool) ((nth (row BA (0 : Int)) 4).list) ((nth (row BA (0 : Int)) 5).list) ((nth (row BA (0 : Int)) 6).list) ((nth (row BA (0 : Int)) 7).list) ((nth (row BA (0 : Int)) 8).int))) then true else (bif (decide ((NA.length : Int) < (1 : Int))) then true else (bif (decide ((NA.length : Int) > (6 : Int))) then true else (bif (!((NU.length : Int) == (NA.length : Int))) then true else (is ((0 : Int) ≤ (0 : Int) ∧ (0 : Int) < (BA.length : Int)) && ((qw_c ((nth (row BA (0 : Int)) 0).int) ((nth (row BA (0 : Int)) 1).int) ((nth (row BA (0 : Int)) 2).bool) ((nth (row BA (0 : Int)) 3).bool) ((nth (row BA (0 : Int)) 4).list) ((nth (row BA (0 : Int)) 5).list) ((nth (row BA (0 : Int)) 6).list) ((nth (row BA (0 : Int)) 7).list) ((nth (row BA (0 : Int)) 8).int)) && (bif (qg_k7_1 k s sg bg NA NU ME BA ct ((qw_v ((nth (row BA (0 : Int)) 0).int) ((nth (row BA (0 : Int)) 1).int) ((nth (row BA (0 : Int)) 2).bool) ((nth (row BA (0 : Int)) 3).bool) ((nth (row BA (0 : Int)) 4).list) ((nth (row BA (0 : Int)) 5).list) ((nth (row BA (0 : Int)) 6).list) ((nth (row BA (0 : Int)) 7).list) ((nth (row BA (0 : Int)) 8).int)).1) ((qw_v ((nth (row BA (0 : Int)) 0).int) ((nth (row BA (0 : Int)) 1).int) ((nth (row BA (0 : Int)) 2).bool) ((nth (row BA (0 : Int)) 3).bool) ((nth (row BA (0 : Int)) 4).list) ((nth (row BA (0 : Int)) 5).list) ((nth (row BA (0 : Int)) 6).list) ((nth (row BA (0 : Int)) 7).list) ((nth (row BA (0 : Int)) 8).int)).2) (0 : Int)) then ((qg_o7_2 k s sg bg NA NU ME BA ct ((qw_v ((nth (row BA (0 : Int)) 0).int) ((nth (row BA (0 : Int)) 1).int) ((nth (row BA (0 : Int)) 2).bool) ((nth (row BA (0 : Int)) 3).bool) ((nth (row BA (0 : Int)) 4).list) ((nth (row BA (0 : Int)) 5).list) ((nth (row BA (0 : Int)) 6).list) ((nth (row BA (0 : Int)) 7).list) ((nth (row BA (0 : Int)) 8).int)).1) ((qw_v ((nth (row BA (0 : Int)) 0).int) ((nth (row BA (0 : Int)) 1).int) ((nth (row BA (0 : Int)) 2).bool) ((nth (row BA (0 : Int)) 3).bool) ((nth (row BA (0 : Int)) 4).list) ((nth (row BA (0 : Int)) 5).list) ((nth (row BA (0 : Int)) 6).list) ((nth (row BA (0 : Int)) 7).list) ((nth (row BA (0 : Int)) 8).int)).2) (0 : Int)) && true) else ((qg_o7_3 k s sg bg NA NU ME BA ct ((qw_v ((nth (row BA (0 : Int)) 0).int) ((nth (row BA (0 : Int)) 1).int) ((nth (row BA (0 : Int)) 2).bool) ((nth (row BA (0 : Int)) 3).bool) ((nth (row BA (0 : Int)) 4).list) ((nth (row BA (0 : Int)) 5).list) ((nth (row BA (0 : Int)) 6).list) ((nth (row BA (0 : Int)) 7).list) ((nth (row BA (0 : Int)) 8).int)).1) ((qw_v ((nth (row BA (0 : Int)) 0).int) ((nth (row BA (0 : Int)) 1).int) ((nth (row BA (0 : Int)) 2).bool) ((nth (row BA (0 : Int)) 3).bool) ((nth (row BA (0 : Int)) 4).list) ((nth (row BA (0 : Int)) 5).list) ((nth (row BA (0 : Int)) 6).list) ((nth (row BA (0 : Int)) 7).list) ((nth (row BA (0 : Int)) 8).int)).2) (0 : Int)) && true))))))))))))))))
noncomputable def qg_v (k s : Int) (sg bg : Bool) (NA NU ME BA : LL) (ct : Int) : Bool := (bif (!(s == (0 : Int))) then false else (bif (!(qbo_v k s sg bg NA NU ME BA ct)) then false else (bif (decide ((ME.length : Int) > (0 : Int))) then false else (bif (!(ct == (0 : Int))) then false else (bif (!((BA.length : Int) == (1 : Int))) then false else (bif (!((nth (row BA (0 : Int)) 0).int == (1 : Int))) then false else (bif (!(qcj_v ((nth (row BA (0 : Int)) 0).int) ((nth (row BA (0 : Int)) 1).int) ((nth (row BA (0 : Int)) 2).bool) ((nth (row BA (0 : Int)) 3).bool) ((nth (row BA (0 : Int)) 4).list) ((nth (row BA (0 : Int)) 5).list) ((nth (row BA (0 : Int)) 6).list) ((nth (row BA (0 : Int)) 7).list) ((nth (row BA (0 : Int)) 8).int))) then false else (bif (decide ((NA.length : Int) < (1 : Int))) then false else (bif (decide ((NA.length : Int) > (6 : Int))) then false else (bif (!((NU.length : Int) == (NA.length : Int))) then false else (bif (qg_k7_1 k s sg bg NA NU ME BA ct ((qw_v ((nth (row BA (0 : Int)) 0).int) ((nth (row BA (0 : Int)) 1).int) ((nth (row BA (0 : Int)) 2).bool) ((nth (row BA (0 : Int)) 3).bool) ((nth (row BA (0 : Int)) 4).list) ((nth (row BA (0 : Int)) 5).list) ((nth (row BA (0 : Int)) 6).list) ((nth (row BA (0 : Int)) 7).list) ((nth (row BA (0 : Int)) 8).int)).1) ((qw_v ((nth (row BA (0 : Int)) 0).int) ((nth (row BA (0 : Int)) 1).int) ((nth (row BA (0 : Int)) 2).bool) ((nth (row BA (0 : Int)) 3).bool) ((nth (row BA (0 : Int)) 4).list) ((nth (row BA (0 : Int)) 5).list) ((nth (row BA (0 : Int)) 6).list) ((nth (row BA (0 : Int)) 7).list) ((nth (row BA (0 : Int)) 8).int)).2) (0 : Int)) then false else true)))))))))))
theorem qg_l (k s : Int) (sg bg : Bool) (NA NU ME BA : LL) (ct : Int) : (qg_c k s sg bg NA NU ME BA ct) = true → (qg_t k s sg bg NA NU ME BA ct).val = some (qg_v k s sg bg NA NU ME BA ct) := by
  unfold qg_t qg_v qg_c
  exact fun h => (Tr.ss h (fun h => rfl) (fun h => (Tr.ss h (fun h => rfl) (fun h => (Tr.ss h (fun h => rfl) (fun h => (Tr.ss h (fun h => rfl) (fun h => (Tr.ss h (fun h => rfl) (fun h => (Tr.gs h fun h => (Tr.ss h (fun h => rfl) (fun h => (Tr.gs h fun h => (Tr.ss h (fun h => rfl) (fun h => (Tr.ss h (fun h => rfl) (fun h => (Tr.ss h (fun h => rfl) (fun h => (Tr.ss h (fun h => rfl) (fun h => (Tr.gs h fun h => (Tr.gb h fun h => (Tr.ss h (fun h => (Tr.gb h fun h => rfl)) (fun h => (Tr.gb h fun h => rfl)))))))))))))))))))))))))))
noncomputable def qg_S : List Arg → Option (Bool × Res) := fun xs => match xs with
  | [(true, [(.int .i64, TC.i k), (.int .i64, TC.i s), (.bool, TC.b sg), (.bool, TC.b bg), (.slice 9, TC.l NA), (.slice 2, TC.l NU), (.slice 71, TC.l ME), (.slice 32, TC.l BA), (.int .i64, TC.i ct)])] => some ((qg_c k s sg bg NA NU ME BA ct), qg_mk (qg_v k s sg bg NA NU ME BA ct))
  | _ => .none
theorem qg_e (k s : Int) (sg bg : Bool) (NA NU ME BA : LL) (ct : Int) : runF tab FT D22 live 65 qg_lo [(true, [(.int .i64, TC.i k), (.int .i64, TC.i s), (.bool, TC.b sg), (.bool, TC.b bg), (.slice 9, TC.l NA), (.slice 2, TC.l NU), (.slice 71, TC.l ME), (.slice 32, TC.l BA), (.int .i64, TC.i ct)])] = (qg_t k s sg bg NA NU ME BA ct).run fun p => some (qg_mk p) := by kernel_rfl
theorem qg_s : ∀ xs r, qg_S xs = some (true, r) → runF tab FT D22 live 65 qg_lo xs = some r := by
  intro xs r h
  unfold qg_S at h
  split at h
  · simp only [Option.some.injEq, Prod.mk.injEq] at h
    obtain ⟨h1, rfl⟩ := h
    exact fun_told (qg_e _ _ _ _ _ _ _ _ _) (qg_l _ _ _ _ _ _ _ _ _) h1
  · cases h
noncomputable def D23 : Dt := also D22 65 qg_S
theorem d23 : DOk Go.Proofs.Try.prog tab D23 := d22.also mixed_ok tab_ok names_ok (fnLoops_two (by kernel_rfl) qg_is7 qg_is12) qg_s
theorem qg_cc {k : Int} {s : Int} {sg : Bool} {bg : Bool} {NA : LL} {NU : LL} {ME : LL} {BA : LL} {ct : Int} (t4 : Typed tab (.slice 9) (.l NA)) : (qg_c k s sg bg NA NU ME BA ct) = true := by
  unfold qg_c
  refine bifT (fun b1 => ?_) (fun b1 => ?_)
  · skip
    rfl
  · skip
    refine bifT (fun b2 => ?_) (fun b2 => ?_)
    · skip
      rfl
    · skip
      refine bifT (fun b3 => ?_) (fun b3 => ?_)
      · skip
        rfl
      · skip
        refine bifT (fun b4 => ?_) (fun b4 => ?_)
        · skip
          rfl
        · skip
          refine bifT (fun b5 => ?_) (fun b5 => ?_)
          · skip
            rfl
          · skip
            refine andT (is_true (by have e5 := bneF b5; omega)) ?_
            refine bifT (fun b6 => ?_) (fun b6 => ?_)
            · skip
              rfl
            · skip
              refine andT (is_true (by have e5 := bneF b5; omega)) ?_
              refine bifT (fun b7 => ?_) (fun b7 => ?_)
              · skip
                rfl
              · skip
                refine bifT (fun b8 => ?_) (fun b8 => ?_)
                · skip
                  rfl
                · skip
                  refine bifT (fun b9 => ?_) (fun b9 => ?_)
                  · skip
                    rfl
                  · skip
                    refine bifT (fun b10 => ?_) (fun b10 => ?_)
                    · skip
                      rfl
                    · skip
                      refine andT (is_true (by have e5 := bneF b5; omega)) ?_
                      refine andT (by exact qw_cc) ?_
                      refine bifT (fun b11 => ?_) (fun b11 => ?_)
                      · skip
                        refine andT (by have e5 := bneF b5; have e10 := bneF b10; exact is_true ⟨rfl, t4, by omega⟩) ?_
                        rfl
                      · skip
                        refine andT (by have e5 := bneF b5; have e10 := bneF b10; exact is_true ⟨rfl, t4, by omega⟩) ?_
                        rfl
theorem range_lo {k s : Int} {sg bg : Bool} {NA NU ME BA : LL} {ct : Int} (h : intV s sg bg NA NU ME BA ct = true) : (qw_v k s sg bg NA NU ME BA ct).1 = loV s sg ∧ (qw_v k s sg bg NA NU ME BA ct).2 = hiV s sg := by
  unfold intV has4 at h
  simp only [Bool.and_eq_true, Bool.or_eq_true, beq_iff_eq] at h
  have hs := h.1.1.1
  have h8 := h.1.1.2
  rcases hs with ((rfl | rfl) | rfl) | rfl <;> cases sg <;> first | (exact ⟨by unfold qw_v loV; decide, by unfold qw_v hiV; decide⟩) | (exact absurd h8 (by decide))
theorem qg_vv (k s : Int) (sg bg : Bool) (NA NU ME BA : LL) (ct : Int) : qg_v k s sg bg NA NU ME BA ct = enumV s sg bg NA NU ME BA ct := by
  unfold qg_v enumV
  rw [show qbo_v k s sg bg NA NU ME BA ct = plain sg bg from by unfold qbo_v plain; cases sg <;> cases bg <;> rfl, show qcj_v (nth (row BA (0 : Int)) 0).int (nth (row BA (0 : Int)) 1).int (nth (row BA (0 : Int)) 2).bool (nth (row BA (0 : Int)) 3).bool (nth (row BA (0 : Int)) 4).list (nth (row BA (0 : Int)) 5).list (nth (row BA (0 : Int)) 6).list (nth (row BA (0 : Int)) 7).list (nth (row BA (0 : Int)) 8).int = intV (nth (row BA (0 : Int)) 1).int (nth (row BA (0 : Int)) 2).bool (nth (row BA (0 : Int)) 3).bool (nth (row BA (0 : Int)) 4).list (nth (row BA (0 : Int)) 5).list (nth (row BA (0 : Int)) 6).list (nth (row BA (0 : Int)) 7).list (nth (row BA (0 : Int)) 8).int from rfl]
  cases hI : intV (nth (row BA (0 : Int)) 1).int (nth (row BA (0 : Int)) 2).bool (nth (row BA (0 : Int)) 3).bool (nth (row BA (0 : Int)) 4).list (nth (row BA (0 : Int)) 5).list (nth (row BA (0 : Int)) 6).list (nth (row BA (0 : Int)) 7).list (nth (row BA (0 : Int)) 8).int with
  | false => simp only [bif_nf, bif_tf, bif_ft, Bool.not_not, Bool.false_and, Bool.and_false]
  | true =>
    rw [show ∀ lo hi, qg_k7_1 k s sg bg NA NU ME BA ct lo hi 0 = !(allI (fun i : Nat => enumP NA NU lo hi (i : Int)) NA.length) from fun lo hi => by unfold qg_k7_1; rw [qg_R7_eq]; generalize allI _ _ = q; cases q <;> rfl]
    rw [(range_lo (k := (nth (row BA (0 : Int)) 0).int) hI).1, (range_lo (k := (nth (row BA (0 : Int)) 0).int) hI).2]
    simp only [bif_nf, bif_tf, bif_ft, Bool.not_not, Bool.and_true]
section
class qbf_O where n : Nat
variable [i_spec_l02Ok : qbf_O]
noncomputable def qbf_rc (k s : Int) (sg bg : Bool) (NA NU ME BA : LL) (ct : Int) : Bool := is (max (rowsDep ME) (rowsDep BA) < qbf_O.n ∧ max (rowsDep ME) (rowsDep BA) < qn_O.n ∧ max (rowsDep ME) (rowsDep BA) < qf_O.n ∧ Typed tab (.slice 9) (.l NA) ∧ Typed tab (.slice 2) (.l NU) ∧ Typed tab (.slice 71) (.l ME) ∧ Typed tab (.slice 32) (.l BA))
noncomputable def qbf_rv (k s : Int) (sg bg : Bool) (NA NU ME BA : LL) (ct : Int) : Bool := okV k s sg bg NA NU ME BA ct
def qbf_rmk (p : Bool) : Res := [(false, [⟨.bool, .sh, TC.b p⟩])]
noncomputable def qbf_rS : List Arg → Option (Bool × Res) := fun xs => match xs with
  | [(true, [(.int .i64, TC.i k), (.int .i64, TC.i s), (.bool, TC.b sg), (.bool, TC.b bg), (.slice 9, TC.l NA), (.slice 2, TC.l NU), (.slice 71, TC.l ME), (.slice 32, TC.l BA), (.int .i64, TC.i ct)])] => some ((qbf_rc k s sg bg NA NU ME BA ct), qbf_rmk (qbf_rv k s sg bg NA NU ME BA ct))
  | _ => .none
noncomputable def D24 : Dt := also D23 30 qbf_rS
class qbf_G : Prop where ok : DOk Go.Proofs.Try.prog tab D24
variable [g_spec_l02Ok : qbf_G]
theorem d24 : DOk Go.Proofs.Try.prog tab D24 := qbf_G.ok
noncomputable def qc_f13 (k s : Int) (sg bg : Bool) (NA NU ME BA : LL) (ct en ix : Int) (mn : BS) (mo mk ms : Int) (msg mbg : Bool) (mNA mNU mME mBA : LL) (mct q : Int) : (Unit) ⊕ ((Int × Int × Bool × Bool × LL × LL × LL × LL × Int × Int × Int × BS × Int × Int × Int × Bool × Bool × LL × LL × LL × LL × Int) ⊕ (Int × Int × Bool × Bool × LL × LL × LL × LL × Int × Int × Int × BS × Int × Int × Int × Bool × Bool × LL × LL × LL × LL × Int)) := (bif ((nth (row ME q) 0).str == mn) then (.inr (.inl (k, s, sg, bg, NA, NU, ME, BA, ct, en, ix, mn, mo, mk, ms, msg, mbg, mNA, mNU, mME, mBA, mct))) else (.inl ()))
noncomputable def qc_e13 (k s : Int) (sg bg : Bool) (NA NU ME BA : LL) (ct en ix : Int) (mn : BS) (mo mk ms : Int) (msg mbg : Bool) (mNA mNU mME mBA : LL) (mct : Int) : (Int × Int × Bool × Bool × LL × LL × LL × LL × Int × Int × Int × BS × Int × Int × Int × Bool × Bool × LL × LL × LL × LL × Int) ⊕ (Int × Int × Bool × Bool × LL × LL × LL × LL × Int × Int × Int × BS × Int × Int × Int × Bool × Bool × LL × LL × LL × LL × Int) := .inr (k, s, sg, bg, NA, NU, ME, BA, ct, en, ix, mn, mo, mk, ms, msg, mbg, mNA, mNU, mME, mBA, mct)
noncomputable def qc_R13 (k s : Int) (sg bg : Bool) (NA NU ME BA : LL) (ct en ix : Int) (mn : BS) (mo mk ms : Int) (msg mbg : Bool) (mNA mNU mME mBA : LL) (mct q : Int) : (Int × Int × Bool × Bool × LL × LL × LL × LL × Int × Int × Int × BS × Int × Int × Int × Bool × Bool × LL × LL × LL × LL × Int) ⊕ (Int × Int × Bool × Bool × LL × LL × LL × LL × Int × Int × Int × BS × Int × Int × Int × Bool × Bool × LL × LL × LL × LL × Int) := iter (fun i a => (qc_f13 k s sg bg NA NU ME BA ct en ix mn mo mk ms msg mbg mNA mNU mME mBA mct (i : Int))) (fun a => (qc_e13 k s sg bg NA NU ME BA ct en ix mn mo mk ms msg mbg mNA mNU mME mBA mct)) (ix.toNat) 0 ()
abbrev qc_13_σ := Int × Int × Bool × Bool × LL × LL × LL × LL × Int × Int × Int × BS × Int × Int × Int × Bool × Bool × LL × LL × LL × LL × Int × Int
abbrev qc_13_ω := (Int × Int × Bool × Bool × LL × LL × LL × LL × Int × Int × Int × BS × Int × Int × Int × Bool × Bool × LL × LL × LL × LL × Int) ⊕ (Int × Int × Bool × Bool × LL × LL × LL × LL × Int × Int × Int × BS × Int × Int × Int × Bool × Bool × LL × LL × LL × LL × Int)
noncomputable def qc_13_step (k s : Int) (sg bg : Bool) (NA NU ME BA : LL) (ct en ix : Int) (mn : BS) (mo mk ms : Int) (msg mbg : Bool) (mNA mNU mME mBA : LL) (mct q : Int) : Tr (qc_13_σ ⊕ qc_13_ω) := (.ite ((decide (q < ix)) = true) (.ite ((0 : Int) ≤ q ∧ q < (ME.length : Int)) (.ite (((nth (row ME q) 0).str == mn) = true) (.ok (.inr (.inl (k, s, sg, bg, NA, NU, ME, BA, ct, en, ix, mn, mo, mk, ms, msg, mbg, mNA, mNU, mME, mBA, mct))))
    (.ok (.inl (k, s, sg, bg, NA, NU, ME, BA, ct, en, ix, mn, mo, mk, ms, msg, mbg, mNA, mNU, mME, mBA, mct, (IntKind.wrap .i64 (q + (1 : Int)))))))
   .no)
  (.ok (.inr (.inr (k, s, sg, bg, NA, NU, ME, BA, ct, en, ix, mn, mo, mk, ms, msg, mbg, mNA, mNU, mME, mBA, mct)))))
noncomputable def qc_13_st : qc_13_σ → Tr (qc_13_σ ⊕ qc_13_ω) := fun x => (qc_13_step (x.1) (x.2.1) (x.2.2.1) (x.2.2.2.1) (x.2.2.2.2.1) (x.2.2.2.2.2.1) (x.2.2.2.2.2.2.1) (x.2.2.2.2.2.2.2.1) (x.2.2.2.2.2.2.2.2.1) (x.2.2.2.2.2.2.2.2.2.1) (x.2.2.2.2.2.2.2.2.2.2.1) (x.2.2.2.2.2.2.2.2.2.2.2.1) (x.2.2.2.2.2.2.2.2.2.2.2.2.1) (x.2.2.2.2.2.2.2.2.2.2.2.2.2.1) (x.2.2.2.2.2.2.2.2.2.2.2.2.2.2.1) (x.2.2.2.2.2.2.2.2.2.2.2.2.2.2.2.1) (x.2.2.2.2.2.2.2.2.2.2.2.2.2.2.2.2.1) (x.2.2.2.2.2.2.2.2.2.2.2.2.2.2.2.2.2.1) (x.2.2.2.2.2.2.2.2.2.2.2.2.2.2.2.2.2.2.1) (x.2.2.2.2.2.2.2.2.2.2.2.2.2.2.2.2.2.2.2.1) (x.2.2.2.2.2.2.2.2.2.2.2.2.2.2.2.2.2.2.2.2.1) (x.2.2.2.2.2.2.2.2.2.2.2.2.2.2.2.2.2.2.2.2.2.1) (x.2.2.2.2.2.2.2.2.2.2.2.2.2.2.2.2.2.2.2.2.2.2))
noncomputable def qc_k13_1 (k s : Int) (sg bg : Bool) (NA NU ME BA : LL) (ct en ix : Int) (mn : BS) (mo mk ms : Int) (msg mbg : Bool) (mNA mNU mME mBA : LL) (mct q : Int) : Bool := sumIs (qc_R13 k s sg bg NA NU ME BA ct en ix mn mo mk ms msg mbg mNA mNU mME mBA mct q)
noncomputable def qc_o13_2 (k s : Int) (sg bg : Bool) (NA NU ME BA : LL) (ct en ix : Int) (mn : BS) (mo mk ms : Int) (msg mbg : Bool) (mNA mNU mME mBA : LL) (mct q : Int) : Bool := is (q = 0 ∧ 0 ≤ ix ∧ ix < (ME.length : Int) ∧ ME.length ≤ 140737488355328)
noncomputable def qc_o13_3 (k s : Int) (sg bg : Bool) (NA NU ME BA : LL) (ct en ix : Int) (mn : BS) (mo mk ms : Int) (msg mbg : Bool) (mNA mNU mME mBA : LL) (mct q : Int) : Bool := is (q = 0 ∧ 0 ≤ ix ∧ ix < (ME.length : Int) ∧ ME.length ≤ 140737488355328)
noncomputable def qc_13_fin (k s : Int) (sg bg : Bool) (NA NU ME BA : LL) (ct en ix : Int) (mn : BS) (mo mk ms : Int) (msg mbg : Bool) (mNA mNU mME mBA : LL) (mct q : Int) : Told qc_13_ω := (.br (qc_k13_1 k s sg bg NA NU ME BA ct en ix mn mo mk ms msg mbg mNA mNU mME mBA mct q) (.leaf (qc_o13_2 k s sg bg NA NU ME BA ct en ix mn mo mk ms msg mbg mNA mNU mME mBA mct q) (.inl (k, s, sg, bg, NA, NU, ME, BA, ct, en, ix, mn, mo, mk, ms, msg, mbg, mNA, mNU, mME, mBA, mct))) (.leaf (qc_o13_3 k s sg bg NA NU ME BA ct en ix mn mo mk ms msg mbg mNA mNU mME mBA mct q) (.inr (k, s, sg, bg, NA, NU, ME, BA, ct, en, ix, mn, mo, mk, ms, msg, mbg, mNA, mNU, mME, mBA, mct))))
def qc_13_sl : qc_13_σ → List Slot := fun x => match x with | (k, s, sg, bg, NA, NU, ME, BA, ct, en, ix, mn, mo, mk, ms, msg, mbg, mNA, mNU, mME, mBA, mct, q) => [⟨.bx 32 [⟨.int .i64, .sh, TC.i k⟩, ⟨.int .i64, .sh, TC.i s⟩, ⟨.bool, .sh, TC.b sg⟩, ⟨.bool, .sh, TC.b bg⟩, ⟨.slice 9, .sh, TC.l NA⟩, ⟨.slice 2, .sh, TC.l NU⟩, ⟨.slice 71, .sh, TC.l ME⟩, ⟨.slice 32, .sh, TC.l BA⟩, ⟨.int .i64, .sh, TC.i ct⟩], ⟨0, 0⟩⟩, ⟨.val false [⟨.int .i64, .sh, TC.i en⟩], ⟨0, 0⟩⟩, ⟨.val false [⟨.int .i64, .sh, TC.i ix⟩], ⟨0, 0⟩⟩, ⟨.bx 71 [⟨.str, .sh, TC.s mn⟩, ⟨.int .i64, .sh, TC.i mo⟩, ⟨.int .i64, .sh, TC.i mk⟩, ⟨.int .i64, .sh, TC.i ms⟩, ⟨.bool, .sh, TC.b msg⟩, ⟨.bool, .sh, TC.b mbg⟩, ⟨.slice 9, .sh, TC.l mNA⟩, ⟨.slice 2, .sh, TC.l mNU⟩, ⟨.slice 71, .sh, TC.l mME⟩, ⟨.slice 32, .sh, TC.l mBA⟩, ⟨.int .i64, .sh, TC.i mct⟩], ⟨0, 0⟩⟩, ⟨.val false [⟨.int .i64, .sh, TC.i q⟩], ⟨0, 0⟩⟩]
def qc_13_out : qc_13_ω → Ex × List Slot := (Sum.elim (fun x => (.ret, [⟨.bx 32 [⟨.int .i64, .sh, TC.i (x.1)⟩, ⟨.int .i64, .sh, TC.i (x.2.1)⟩, ⟨.bool, .sh, TC.b (x.2.2.1)⟩, ⟨.bool, .sh, TC.b (x.2.2.2.1)⟩, ⟨.slice 9, .sh, TC.l (x.2.2.2.2.1)⟩, ⟨.slice 2, .sh, TC.l (x.2.2.2.2.2.1)⟩, ⟨.slice 71, .sh, TC.l (x.2.2.2.2.2.2.1)⟩, ⟨.slice 32, .sh, TC.l (x.2.2.2.2.2.2.2.1)⟩, ⟨.int .i64, .sh, TC.i (x.2.2.2.2.2.2.2.2.1)⟩], ⟨0, 0⟩⟩, ⟨.val false [⟨.bool, .sh, TC.b false⟩], ⟨0, 0⟩⟩, ⟨.val false [⟨.int .i64, .sh, TC.i (x.2.2.2.2.2.2.2.2.2.1)⟩], ⟨0, 0⟩⟩, ⟨.val false [⟨.int .i64, .sh, TC.i (x.2.2.2.2.2.2.2.2.2.2.1)⟩], ⟨0, 0⟩⟩, ⟨.bx 71 [⟨.str, .sh, TC.s (x.2.2.2.2.2.2.2.2.2.2.2.1)⟩, ⟨.int .i64, .sh, TC.i (x.2.2.2.2.2.2.2.2.2.2.2.2.1)⟩, ⟨.int .i64, .sh, TC.i (x.2.2.2.2.2.2.2.2.2.2.2.2.2.1)⟩, ⟨.int .i64, .sh, TC.i (x.2.2.2.2.2.2.2.2.2.2.2.2.2.2.1)⟩, ⟨.bool, .sh, TC.b (x.2.2.2.2.2.2.2.2.2.2.2.2.2.2.2.1)⟩, ⟨.bool, .sh, TC.b (x.2.2.2.2.2.2.2.2.2.2.2.2.2.2.2.2.1)⟩, ⟨.slice 9, .sh, TC.l (x.2.2.2.2.2.2.2.2.2.2.2.2.2.2.2.2.2.1)⟩, ⟨.slice 2, .sh, TC.l (x.2.2.2.2.2.2.2.2.2.2.2.2.2.2.2.2.2.2.1)⟩, ⟨.slice 71, .sh, TC.l (x.2.2.2.2.2.2.2.2.2.2.2.2.2.2.2.2.2.2.2.1)⟩, ⟨.slice 32, .sh, TC.l (x.2.2.2.2.2.2.2.2.2.2.2.2.2.2.2.2.2.2.2.2.1)⟩, ⟨.int .i64, .sh, TC.i (x.2.2.2.2.2.2.2.2.2.2.2.2.2.2.2.2.2.2.2.2.2)⟩], ⟨0, 0⟩⟩])) (fun x => (.exit 2, [⟨.bx 32 [⟨.int .i64, .sh, TC.i (x.1)⟩, ⟨.int .i64, .sh, TC.i (x.2.1)⟩, ⟨.bool, .sh, TC.b (x.2.2.1)⟩, ⟨.bool, .sh, TC.b (x.2.2.2.1)⟩, ⟨.slice 9, .sh, TC.l (x.2.2.2.2.1)⟩, ⟨.slice 2, .sh, TC.l (x.2.2.2.2.2.1)⟩, ⟨.slice 71, .sh, TC.l (x.2.2.2.2.2.2.1)⟩, ⟨.slice 32, .sh, TC.l (x.2.2.2.2.2.2.2.1)⟩, ⟨.int .i64, .sh, TC.i (x.2.2.2.2.2.2.2.2.1)⟩], ⟨0, 0⟩⟩, Slot.none, ⟨.val false [⟨.int .i64, .sh, TC.i (x.2.2.2.2.2.2.2.2.2.1)⟩], ⟨0, 0⟩⟩, ⟨.val false [⟨.int .i64, .sh, TC.i (x.2.2.2.2.2.2.2.2.2.2.1)⟩], ⟨0, 0⟩⟩, ⟨.bx 71 [⟨.str, .sh, TC.s (x.2.2.2.2.2.2.2.2.2.2.2.1)⟩, ⟨.int .i64, .sh, TC.i (x.2.2.2.2.2.2.2.2.2.2.2.2.1)⟩, ⟨.int .i64, .sh, TC.i (x.2.2.2.2.2.2.2.2.2.2.2.2.2.1)⟩, ⟨.int .i64, .sh, TC.i (x.2.2.2.2.2.2.2.2.2.2.2.2.2.2.1)⟩, ⟨.bool, .sh, TC.b (x.2.2.2.2.2.2.2.2.2.2.2.2.2.2.2.1)⟩, ⟨.bool, .sh, TC.b (x.2.2.2.2.2.2.2.2.2.2.2.2.2.2.2.2.1)⟩, ⟨.slice 9, .sh, TC.l (x.2.2.2.2.2.2.2.2.2.2.2.2.2.2.2.2.2.1)⟩, ⟨.slice 2, .sh, TC.l (x.2.2.2.2.2.2.2.2.2.2.2.2.2.2.2.2.2.2.1)⟩, ⟨.slice 71, .sh, TC.l (x.2.2.2.2.2.2.2.2.2.2.2.2.2.2.2.2.2.2.2.1)⟩, ⟨.slice 32, .sh, TC.l (x.2.2.2.2.2.2.2.2.2.2.2.2.2.2.2.2.2.2.2.2.1)⟩, ⟨.int .i64, .sh, TC.i (x.2.2.2.2.2.2.2.2.2.2.2.2.2.2.2.2.2.2.2.2.2)⟩], ⟨0, 0⟩⟩])))
noncomputable def qc_lo13 : List Slot → Option (Told (Ex × List Slot)) := fun s => match s with
  | [⟨.bx 32 [⟨.int .i64, .sh, TC.i k⟩, ⟨.int .i64, .sh, TC.i s⟩, ⟨.bool, .sh, TC.b sg⟩, ⟨.bool, .sh, TC.b bg⟩, ⟨.slice 9, .sh, TC.l NA⟩, ⟨.slice 2, .sh, TC.l NU⟩, ⟨.slice 71, .sh, TC.l ME⟩, ⟨.slice 32, .sh, TC.l BA⟩, ⟨.int .i64, .sh, TC.i ct⟩], ⟨0, 0⟩⟩, ⟨.val false [⟨.int .i64, .sh, TC.i en⟩], ⟨0, 0⟩⟩, ⟨.val false [⟨.int .i64, .sh, TC.i ix⟩], ⟨0, 0⟩⟩, ⟨.bx 71 [⟨.str, .sh, TC.s mn⟩, ⟨.int .i64, .sh, TC.i mo⟩, ⟨.int .i64, .sh, TC.i mk⟩, ⟨.int .i64, .sh, TC.i ms⟩, ⟨.bool, .sh, TC.b msg⟩, ⟨.bool, .sh, TC.b mbg⟩, ⟨.slice 9, .sh, TC.l mNA⟩, ⟨.slice 2, .sh, TC.l mNU⟩, ⟨.slice 71, .sh, TC.l mME⟩, ⟨.slice 32, .sh, TC.l mBA⟩, ⟨.int .i64, .sh, TC.i mct⟩], ⟨0, 0⟩⟩, ⟨.val false [⟨.int .i64, .sh, TC.i q⟩], ⟨0, 0⟩⟩] => some (((qc_13_fin k s sg bg NA NU ME BA ct en ix mn mo mk ms msg mbg mNA mNU mME mBA mct q)).map qc_13_out)
  | _ => .none
noncomputable def qc_f7 (k s : Int) (sg bg : Bool) (NA NU ME BA : LL) (ct i en : Int) : (Int) ⊕ ((Int × Int × Bool × Bool × LL × LL × LL × LL × Int × Int) ⊕ (Int × Int × Bool × Bool × LL × LL × LL × LL × Int × Int)) := (bif (!(qq_v ((nth (row ME i) 0).str))) then (.inr (.inl (k, s, sg, bg, NA, NU, ME, BA, ct, en))) else (bif (decide ((nth (row ME i) 1).int < en)) then (.inr (.inl (k, s, sg, bg, NA, NU, ME, BA, ct, en))) else (bif (decide ((nth (row ME i) 1).int > (24 : Int))) then (.inr (.inl (k, s, sg, bg, NA, NU, ME, BA, ct, en))) else (bif (!(qbf_rv ((nth (row ME i) 2).int) ((nth (row ME i) 3).int) ((nth (row ME i) 4).bool) ((nth (row ME i) 5).bool) ((nth (row ME i) 6).list) ((nth (row ME i) 7).list) ((nth (row ME i) 8).list) ((nth (row ME i) 9).list) ((nth (row ME i) 10).int))) then (.inr (.inl (k, s, sg, bg, NA, NU, ME, BA, ct, en))) else (bif (qc_k13_1 k s sg bg NA NU ME BA ct en i ((nth (row ME i) 0).str) ((nth (row ME i) 1).int) ((nth (row ME i) 2).int) ((nth (row ME i) 3).int) ((nth (row ME i) 4).bool) ((nth (row ME i) 5).bool) ((nth (row ME i) 6).list) ((nth (row ME i) 7).list) ((nth (row ME i) 8).list) ((nth (row ME i) 9).list) ((nth (row ME i) 10).int) (0 : Int)) then (.inr (.inl (k, s, sg, bg, NA, NU, ME, BA, ct, en))) else (.inl (IntKind.wrap .i64 ((nth (row ME i) 1).int + (qn_rv ((nth (row ME i) 2).int) ((nth (row ME i) 3).int) ((nth (row ME i) 4).bool) ((nth (row ME i) 5).bool) ((nth (row ME i) 6).list) ((nth (row ME i) 7).list) ((nth (row ME i) 8).list) ((nth (row ME i) 9).list) ((nth (row ME i) 10).int))))))))))
noncomputable def qc_e7 (k s : Int) (sg bg : Bool) (NA NU ME BA : LL) (ct en : Int) : (Int × Int × Bool × Bool × LL × LL × LL × LL × Int × Int) ⊕ (Int × Int × Bool × Bool × LL × LL × LL × LL × Int × Int) := .inr (k, s, sg, bg, NA, NU, ME, BA, ct, en)
noncomputable def qc_R7 (k s : Int) (sg bg : Bool) (NA NU ME BA : LL) (ct en i : Int) : (Int × Int × Bool × Bool × LL × LL × LL × LL × Int × Int) ⊕ (Int × Int × Bool × Bool × LL × LL × LL × LL × Int × Int) := iter (fun i a => (qc_f7 k s sg bg NA NU ME BA ct (i : Int) a)) (fun a => (qc_e7 k s sg bg NA NU ME BA ct a)) (ME.length) 0 en
abbrev qc_7_σ := Int × Int × Bool × Bool × LL × LL × LL × LL × Int × Int × Int
abbrev qc_7_ω := (Int × Int × Bool × Bool × LL × LL × LL × LL × Int × Int) ⊕ (Int × Int × Bool × Bool × LL × LL × LL × LL × Int × Int)
noncomputable def qc_7_step (k s : Int) (sg bg : Bool) (NA NU ME BA : LL) (ct en i : Int) : Tr (qc_7_σ ⊕ qc_7_ω) := (.ite ((decide (i < (ME.length : Int))) = true) (.ite ((0 : Int) ≤ i ∧ i < (ME.length : Int)) (.ite ((qq_c ((nth (row ME i) 0).str)) = true) (.ite ((!(qq_v ((nth (row ME i) 0).str))) = true) (.ok (.inr (.inl (k, s, sg, bg, NA, NU, ME, BA, ct, en))))
     (.ite ((decide ((nth (row ME i) 1).int < en)) = true) (.ok (.inr (.inl (k, s, sg, bg, NA, NU, ME, BA, ct, en))))
      (.ite ((decide ((nth (row ME i) 1).int > (24 : Int))) = true) (.ok (.inr (.inl (k, s, sg, bg, NA, NU, ME, BA, ct, en))))
       (.ite ((qbf_rc ((nth (row ME i) 2).int) ((nth (row ME i) 3).int) ((nth (row ME i) 4).bool) ((nth (row ME i) 5).bool) ((nth (row ME i) 6).list) ((nth (row ME i) 7).list) ((nth (row ME i) 8).list) ((nth (row ME i) 9).list) ((nth (row ME i) 10).int)) = true) (.ite ((!(qbf_rv ((nth (row ME i) 2).int) ((nth (row ME i) 3).int) ((nth (row ME i) 4).bool) ((nth (row ME i) 5).bool) ((nth (row ME i) 6).list) ((nth (row ME i) 7).list) ((nth (row ME i) 8).list) ((nth (row ME i) 9).list) ((nth (row ME i) 10).int))) = true) (.ok (.inr (.inl (k, s, sg, bg, NA, NU, ME, BA, ct, en))))
         (.ite ((qc_k13_1 k s sg bg NA NU ME BA ct en i ((nth (row ME i) 0).str) ((nth (row ME i) 1).int) ((nth (row ME i) 2).int) ((nth (row ME i) 3).int) ((nth (row ME i) 4).bool) ((nth (row ME i) 5).bool) ((nth (row ME i) 6).list) ((nth (row ME i) 7).list) ((nth (row ME i) 8).list) ((nth (row ME i) 9).list) ((nth (row ME i) 10).int) (0 : Int)) = true) (.ite ((qc_o13_2 k s sg bg NA NU ME BA ct en i ((nth (row ME i) 0).str) ((nth (row ME i) 1).int) ((nth (row ME i) 2).int) ((nth (row ME i) 3).int) ((nth (row ME i) 4).bool) ((nth (row ME i) 5).bool) ((nth (row ME i) 6).list) ((nth (row ME i) 7).list) ((nth (row ME i) 8).list) ((nth (row ME i) 9).list) ((nth (row ME i) 10).int) (0 : Int)) = true) (.ok (.inr (.inl (k, s, sg, bg, NA, NU, ME, BA, ct, en))))
           .no)
          (.ite ((qc_o13_3 k s sg bg NA NU ME BA ct en i ((nth (row ME i) 0).str) ((nth (row ME i) 1).int) ((nth (row ME i) 2).int) ((nth (row ME i) 3).int) ((nth (row ME i) 4).bool) ((nth (row ME i) 5).bool) ((nth (row ME i) 6).list) ((nth (row ME i) 7).list) ((nth (row ME i) 8).list) ((nth (row ME i) 9).list) ((nth (row ME i) 10).int) (0 : Int)) = true) (.ite ((qn_rc ((nth (row ME i) 2).int) ((nth (row ME i) 3).int) ((nth (row ME i) 4).bool) ((nth (row ME i) 5).bool) ((nth (row ME i) 6).list) ((nth (row ME i) 7).list) ((nth (row ME i) 8).list) ((nth (row ME i) 9).list) ((nth (row ME i) 10).int)) = true) (.ok (.inl (k, s, sg, bg, NA, NU, ME, BA, ct, (IntKind.wrap .i64 ((nth (row ME i) 1).int + (qn_rv ((nth (row ME i) 2).int) ((nth (row ME i) 3).int) ((nth (row ME i) 4).bool) ((nth (row ME i) 5).bool) ((nth (row ME i) 6).list) ((nth (row ME i) 7).list) ((nth (row ME i) 8).list) ((nth (row ME i) 9).list) ((nth (row ME i) 10).int)))), (IntKind.wrap .i64 (i + (1 : Int))))))
            .no)
           .no)))
        .no))))
    .no)
   .no)
  (.ok (.inr (.inr (k, s, sg, bg, NA, NU, ME, BA, ct, en)))))
noncomputable def qc_7_st : qc_7_σ → Tr (qc_7_σ ⊕ qc_7_ω) := fun x => (qc_7_step (x.1) (x.2.1) (x.2.2.1) (x.2.2.2.1) (x.2.2.2.2.1) (x.2.2.2.2.2.1) (x.2.2.2.2.2.2.1) (x.2.2.2.2.2.2.2.1) (x.2.2.2.2.2.2.2.2.1) (x.2.2.2.2.2.2.2.2.2.1) (x.2.2.2.2.2.2.2.2.2.2))
noncomputable def qc_k7_1 (k s : Int) (sg bg : Bool) (NA NU ME BA : LL) (ct en i : Int) : Bool := sumIs (qc_R7 k s sg bg NA NU ME BA ct en i)
noncomputable def qc_o7_2 (k s : Int) (sg bg : Bool) (NA NU ME BA : LL) (ct en i : Int) : Bool := is (i = 0 ∧ Typed tab (.slice 71) (.l ME) ∧ (∀ x : List TC, x ∈ ME → qbf_rc (nth x 2).int (nth x 3).int (nth x 4).bool (nth x 5).bool (nth x 6).list (nth x 7).list (nth x 8).list (nth x 9).list (nth x 10).int = true) ∧ (∀ x : List TC, x ∈ ME → (!(qbf_rv (nth x 2).int (nth x 3).int (nth x 4).bool (nth x 5).bool (nth x 6).list (nth x 7).list (nth x 8).list (nth x 9).list (nth x 10).int)) = false → qn_rc (nth x 2).int (nth x 3).int (nth x 4).bool (nth x 5).bool (nth x 6).list (nth x 7).list (nth x 8).list (nth x 9).list (nth x 10).int = true))
noncomputable def qc_u7_2_0 (k s : Int) (sg bg : Bool) (NA NU ME BA : LL) (ct en i : Int) : Int := (sumL (qc_R7 k s sg bg NA NU ME BA ct en i)).1
noncomputable def qc_u7_2_1 (k s : Int) (sg bg : Bool) (NA NU ME BA : LL) (ct en i : Int) : Int := (sumL (qc_R7 k s sg bg NA NU ME BA ct en i)).2.1
noncomputable def qc_u7_2_2 (k s : Int) (sg bg : Bool) (NA NU ME BA : LL) (ct en i : Int) : Bool := (sumL (qc_R7 k s sg bg NA NU ME BA ct en i)).2.2.1
noncomputable def qc_u7_2_3 (k s : Int) (sg bg : Bool) (NA NU ME BA : LL) (ct en i : Int) : Bool := (sumL (qc_R7 k s sg bg NA NU ME BA ct en i)).2.2.2.1
noncomputable def qc_u7_2_4 (k s : Int) (sg bg : Bool) (NA NU ME BA : LL) (ct en i : Int) : LL := (sumL (qc_R7 k s sg bg NA NU ME BA ct en i)).2.2.2.2.1
noncomputable def qc_u7_2_5 (k s : Int) (sg bg : Bool) (NA NU ME BA : LL) (ct en i : Int) : LL := (sumL (qc_R7 k s sg bg NA NU ME BA ct en i)).2.2.2.2.2.1
noncomputable def qc_u7_2_6 (k s : Int) (sg bg : Bool) (NA NU ME BA : LL) (ct en i : Int) : LL := (sumL (qc_R7 k s sg bg NA NU ME BA ct en i)).2.2.2.2.2.2.1
noncomputable def qc_u7_2_7 (k s : Int) (sg bg : Bool) (NA NU ME BA : LL) (ct en i : Int) : LL := (sumL (qc_R7 k s sg bg NA NU ME BA ct en i)).2.2.2.2.2.2.2.1
noncomputable def qc_u7_2_8 (k s : Int) (sg bg : Bool) (NA NU ME BA : LL) (ct en i : Int) : Int := (sumL (qc_R7 k s sg bg NA NU ME BA ct en i)).2.2.2.2.2.2.2.2.1
noncomputable def qc_u7_2_9 (k s : Int) (sg bg : Bool) (NA NU ME BA : LL) (ct en i : Int) : Int := (sumL (qc_R7 k s sg bg NA NU ME BA ct en i)).2.2.2.2.2.2.2.2.2
noncomputable def qc_o7_3 (k s : Int) (sg bg : Bool) (NA NU ME BA : LL) (ct en i : Int) : Bool := is (i = 0 ∧ Typed tab (.slice 71) (.l ME) ∧ (∀ x : List TC, x ∈ ME → qbf_rc (nth x 2).int (nth x 3).int (nth x 4).bool (nth x 5).bool (nth x 6).list (nth x 7).list (nth x 8).list (nth x 9).list (nth x 10).int = true) ∧ (∀ x : List TC, x ∈ ME → (!(qbf_rv (nth x 2).int (nth x 3).int (nth x 4).bool (nth x 5).bool (nth x 6).list (nth x 7).list (nth x 8).list (nth x 9).list (nth x 10).int)) = false → qn_rc (nth x 2).int (nth x 3).int (nth x 4).bool (nth x 5).bool (nth x 6).list (nth x 7).list (nth x 8).list (nth x 9).list (nth x 10).int = true))
noncomputable def qc_u7_3_0 (k s : Int) (sg bg : Bool) (NA NU ME BA : LL) (ct en i : Int) : Int := (sumR (qc_R7 k s sg bg NA NU ME BA ct en i)).1
noncomputable def qc_u7_3_1 (k s : Int) (sg bg : Bool) (NA NU ME BA : LL) (ct en i : Int) : Int := (sumR (qc_R7 k s sg bg NA NU ME BA ct en i)).2.1
noncomputable def qc_u7_3_2 (k s : Int) (sg bg : Bool) (NA NU ME BA : LL) (ct en i : Int) : Bool := (sumR (qc_R7 k s sg bg NA NU ME BA ct en i)).2.2.1
noncomputable def qc_u7_3_3 (k s : Int) (sg bg : Bool) (NA NU ME BA : LL) (ct en i : Int) : Bool := (sumR (qc_R7 k s sg bg NA NU ME BA ct en i)).2.2.2.1
noncomputable def qc_u7_3_4 (k s : Int) (sg bg : Bool) (NA NU ME BA : LL) (ct en i : Int) : LL := (sumR (qc_R7 k s sg bg NA NU ME BA ct en i)).2.2.2.2.1
noncomputable def qc_u7_3_5 (k s : Int) (sg bg : Bool) (NA NU ME BA : LL) (ct en i : Int) : LL := (sumR (qc_R7 k s sg bg NA NU ME BA ct en i)).2.2.2.2.2.1
noncomputable def qc_u7_3_6 (k s : Int) (sg bg : Bool) (NA NU ME BA : LL) (ct en i : Int) : LL := (sumR (qc_R7 k s sg bg NA NU ME BA ct en i)).2.2.2.2.2.2.1
noncomputable def qc_u7_3_7 (k s : Int) (sg bg : Bool) (NA NU ME BA : LL) (ct en i : Int) : LL := (sumR (qc_R7 k s sg bg NA NU ME BA ct en i)).2.2.2.2.2.2.2.1
noncomputable def qc_u7_3_8 (k s : Int) (sg bg : Bool) (NA NU ME BA : LL) (ct en i : Int) : Int := (sumR (qc_R7 k s sg bg NA NU ME BA ct en i)).2.2.2.2.2.2.2.2.1
noncomputable def qc_u7_3_9 (k s : Int) (sg bg : Bool) (NA NU ME BA : LL) (ct en i : Int) : Int := (sumR (qc_R7 k s sg bg NA NU ME BA ct en i)).2.2.2.2.2.2.2.2.2
noncomputable def qc_7_fin (k s : Int) (sg bg : Bool) (NA NU ME BA : LL) (ct en i : Int) : Told qc_7_ω := (.br (qc_k7_1 k s sg bg NA NU ME BA ct en i) (.leaf (qc_o7_2 k s sg bg NA NU ME BA ct en i) (.inl ((qc_u7_2_0 k s sg bg NA NU ME BA ct en i), (qc_u7_2_1 k s sg bg NA NU ME BA ct en i), (qc_u7_2_2 k s sg bg NA NU ME BA ct en i), (qc_u7_2_3 k s sg bg NA NU ME BA ct en i), (qc_u7_2_4 k s sg bg NA NU ME BA ct en i), (qc_u7_2_5 k s sg bg NA NU ME BA ct en i), (qc_u7_2_6 k s sg bg NA NU ME BA ct en i), (qc_u7_2_7 k s sg bg NA NU ME BA ct en i), (qc_u7_2_8 k s sg bg NA NU ME BA ct en i), (qc_u7_2_9 k s sg bg NA NU ME BA ct en i)))) (.leaf (qc_o7_3 k s sg bg NA NU ME BA ct en i) (.inr ((qc_u7_3_0 k s sg bg NA NU ME BA ct en i), (qc_u7_3_1 k s sg bg NA NU ME BA ct en i), (qc_u7_3_2 k s sg bg NA NU ME BA ct en i), (qc_u7_3_3 k s sg bg NA NU ME BA ct en i), (qc_u7_3_4 k s sg bg NA NU ME BA ct en i), (qc_u7_3_5 k s sg bg NA NU ME BA ct en i), (qc_u7_3_6 k s sg bg NA NU ME BA ct en i), (qc_u7_3_7 k s sg bg NA NU ME BA ct en i), (qc_u7_3_8 k s sg bg NA NU ME BA ct en i), (qc_u7_3_9 k s sg bg NA NU ME BA ct en i)))))
def qc_7_sl (x : qc_7_σ) : List Slot := [⟨.bx 32 [⟨.int .i64, .sh, TC.i (x.1)⟩, ⟨.int .i64, .sh, TC.i (x.2.1)⟩, ⟨.bool, .sh, TC.b (x.2.2.1)⟩, ⟨.bool, .sh, TC.b (x.2.2.2.1)⟩, ⟨.slice 9, .sh, TC.l (x.2.2.2.2.1)⟩, ⟨.slice 2, .sh, TC.l (x.2.2.2.2.2.1)⟩, ⟨.slice 71, .sh, TC.l (x.2.2.2.2.2.2.1)⟩, ⟨.slice 32, .sh, TC.l (x.2.2.2.2.2.2.2.1)⟩, ⟨.int .i64, .sh, TC.i (x.2.2.2.2.2.2.2.2.1)⟩], ⟨0, 0⟩⟩, ⟨.val false [⟨.int .i64, .sh, TC.i (x.2.2.2.2.2.2.2.2.2.1)⟩], ⟨0, 0⟩⟩, ⟨.val false [⟨.int .i64, .sh, TC.i (x.2.2.2.2.2.2.2.2.2.2)⟩], ⟨0, 0⟩⟩]
def qc_7_out : qc_7_ω → Ex × List Slot := (Sum.elim (fun x => (.ret, [⟨.bx 32 [⟨.int .i64, .sh, TC.i (x.1)⟩, ⟨.int .i64, .sh, TC.i (x.2.1)⟩, ⟨.bool, .sh, TC.b (x.2.2.1)⟩, ⟨.bool, .sh, TC.b (x.2.2.2.1)⟩, ⟨.slice 9, .sh, TC.l (x.2.2.2.2.1)⟩, ⟨.slice 2, .sh, TC.l (x.2.2.2.2.2.1)⟩, ⟨.slice 71, .sh, TC.l (x.2.2.2.2.2.2.1)⟩, ⟨.slice 32, .sh, TC.l (x.2.2.2.2.2.2.2.1)⟩, ⟨.int .i64, .sh, TC.i (x.2.2.2.2.2.2.2.2.1)⟩], ⟨0, 0⟩⟩, ⟨.val false [⟨.bool, .sh, TC.b false⟩], ⟨0, 0⟩⟩, ⟨.val false [⟨.int .i64, .sh, TC.i (x.2.2.2.2.2.2.2.2.2)⟩], ⟨0, 0⟩⟩])) (fun x => (.exit 0, [⟨.bx 32 [⟨.int .i64, .sh, TC.i (x.1)⟩, ⟨.int .i64, .sh, TC.i (x.2.1)⟩, ⟨.bool, .sh, TC.b (x.2.2.1)⟩, ⟨.bool, .sh, TC.b (x.2.2.2.1)⟩, ⟨.slice 9, .sh, TC.l (x.2.2.2.2.1)⟩, ⟨.slice 2, .sh, TC.l (x.2.2.2.2.2.1)⟩, ⟨.slice 71, .sh, TC.l (x.2.2.2.2.2.2.1)⟩, ⟨.slice 32, .sh, TC.l (x.2.2.2.2.2.2.2.1)⟩, ⟨.int .i64, .sh, TC.i (x.2.2.2.2.2.2.2.2.1)⟩], ⟨0, 0⟩⟩, Slot.none, ⟨.val false [⟨.int .i64, .sh, TC.i (x.2.2.2.2.2.2.2.2.2)⟩], ⟨0, 0⟩⟩])))
noncomputable def qc_lo7 : List Slot → Option (Told (Ex × List Slot)) := fun s => match s with
  | [⟨.bx 32 [⟨.int .i64, .sh, TC.i k⟩, ⟨.int .i64, .sh, TC.i s⟩, ⟨.bool, .sh, TC.b sg⟩, ⟨.bool, .sh, TC.b bg⟩, ⟨.slice 9, .sh, TC.l NA⟩, ⟨.slice 2, .sh, TC.l NU⟩, ⟨.slice 71, .sh, TC.l ME⟩, ⟨.slice 32, .sh, TC.l BA⟩, ⟨.int .i64, .sh, TC.i ct⟩], ⟨0, 0⟩⟩, ⟨.val false [⟨.int .i64, .sh, TC.i en⟩], ⟨0, 0⟩⟩, ⟨.val false [⟨.int .i64, .sh, TC.i i⟩], ⟨0, 0⟩⟩] => some (((qc_7_fin k s sg bg NA NU ME BA ct en i)).map qc_7_out)
  | _ => .none
noncomputable def qc_lo : LoopTeller := fun r s => bif Nat.beq r 7 then qc_lo7 s else bif Nat.beq r 13 then qc_lo13 s else .none
theorem qc_13_r (k s : Int) (sg bg : Bool) (NA NU ME BA : LL) (ct en ix : Int) (mn : BS) (mo mk ms : Int) (msg mbg : Bool) (mNA mNU mME mBA : LL) (mct q : Int) (fuel : Nat) : rounds (rnd tab FT D24 live 66 qc_lo 1 13) leave (fuel + 1) (qc_13_sl (k, s, sg, bg, NA, NU, ME, BA, ct, en, ix, mn, mo, mk, ms, msg, mbg, mNA, mNU, mME, mBA, mct, q)) = ((qc_13_step k s sg bg NA NU ME BA ct en ix mn mo mk ms msg mbg mNA mNU mME mBA mct q)).run (goOn (fun s => rounds (rnd tab FT D24 live 66 qc_lo 1 13) leave fuel (qc_13_sl s)) fun w => some (qc_13_out w)) := by kernel_rfl
theorem qc_f13_eq (k s : Int) (sg bg : Bool) (NA NU ME BA : LL) (ct : Int) (en ix : Int) (mn : BS) (mo mk ms : Int) (msg mbg : Bool) (mNA mNU mME mBA : LL) (mct i : Int) : qc_f13 k s sg bg NA NU ME BA ct en ix mn mo mk ms msg mbg mNA mNU mME mBA mct i = bif !(strAt ME i == mn) then Sum.inl () else Sum.inr (Sum.inl (k, s, sg, bg, NA, NU, ME, BA, ct, en, ix, mn, mo, mk, ms, msg, mbg, mNA, mNU, mME, mBA, mct)) := by
  unfold qc_f13 strAt
  skip
  generalize ((nth (row ME i) 0).str == mn) = p0
  cases p0 <;> rfl
theorem qc_R13_eq (k s : Int) (sg bg : Bool) (NA NU ME BA : LL) (ct : Int) (en ix : Int) (mn : BS) (mo mk ms : Int) (msg mbg : Bool) (mNA mNU mME mBA : LL) (mct : Int)  : qc_R13 k s sg bg NA NU ME BA ct en ix mn mo mk ms msg mbg mNA mNU mME mBA mct 0 = bif allI (fun i : Nat => !(strAt ME (i : Int) == mn)) (ix.toNat) then Sum.inr (k, s, sg, bg, NA, NU, ME, BA, ct, en, ix, mn, mo, mk, ms, msg, mbg, mNA, mNU, mME, mBA, mct) else (Sum.inl (k, s, sg, bg, NA, NU, ME, BA, ct, en, ix, mn, mo, mk, ms, msg, mbg, mNA, mNU, mME, mBA, mct)) := by
  unfold qc_R13
  exact (iter_all (P := (fun i : Nat => !(strAt ME (i : Int) == mn))) (g := fun _ a => a) (w := Sum.inl (k, s, sg, bg, NA, NU, ME, BA, ct, en, ix, mn, mo, mk, ms, msg, mbg, mNA, mNU, mME, mBA, mct)) fun j a _ => qc_f13_eq k s sg bg NA NU ME BA ct en ix mn mo mk ms msg mbg mNA mNU mME mBA mct _)
theorem qc_13_h (k s : Int) (sg bg : Bool) (NA NU ME BA : LL) (ct en ix : Int) (mn : BS) (mo mk ms : Int) (msg mbg : Bool) (mNA mNU mME mBA : LL) (mct q : Int) (ow : qc_13_ω) : ((qc_13_fin k s sg bg NA NU ME BA ct en ix mn mo mk ms msg mbg mNA mNU mME mBA mct q)).val = some ow → ∃ fuel, loopN qc_13_st fuel (k, s, sg, bg, NA, NU, ME, BA, ct, en, ix, mn, mo, mk, ms, msg, mbg, mNA, mNU, mME, mBA, mct, q) = some ow := by
  refine auto_const (R := (qc_R13 k s sg bg NA NU ME BA ct en ix mn mo mk ms msg mbg mNA mNU mME mBA mct q)) rfl (iter_onR (f := (fun i a => (qc_f13 k s sg bg NA NU ME BA ct en ix mn mo mk ms msg mbg mNA mNU mME mBA mct (i : Int)))) (fin := (fun a => (qc_e13 k s sg bg NA NU ME BA ct en ix mn mo mk ms msg mbg mNA mNU mME mBA mct))) (Q := endsAs (k, s, sg, bg, NA, NU, ME, BA, ct, en, ix, mn, mo, mk, ms, msg, mbg, mNA, mNU, mME, mBA, mct) (k, s, sg, bg, NA, NU, ME, BA, ct, en, ix, mn, mo, mk, ms, msg, mbg, mNA, mNU, mME, mBA, mct)) (fun i a => by unfold qc_f13; exact (onR_bif rfl trivial)) (fun _ => rfl) _ _ _) ?_
  intro ho
  have ho : is (q = 0 ∧ 0 ≤ ix ∧ ix < (ME.length : Int) ∧ ME.length ≤ 140737488355328) = true := ho.elim id id
  obtain ⟨rfl, h0, h1, h2⟩ := is_iff.1 ho
  skip
  refine ⟨(ix.toNat) + 1, ?_⟩
  refine iter_loop (step := qc_13_st) (ix.toNat) (fun i a => (qc_f13 k s sg bg NA NU ME BA ct en ix mn mo mk ms msg mbg mNA mNU mME mBA mct (i : Int))) (fun a => (qc_e13 k s sg bg NA NU ME BA ct en ix mn mo mk ms msg mbg mNA mNU mME mBA mct)) (fun i a => (k, s, sg, bg, NA, NU, ME, BA, ct, en, ix, mn, mo, mk, ms, msg, mbg, mNA, mNU, mME, mBA, mct, (i : Int))) (fun _ _ => True) trivial (fun i a hi hI => ⟨?_, fun _ _ => trivial⟩) (fun a hI => ?_)
  · show (qc_13_step k s sg bg NA NU ME BA ct en ix mn mo mk ms msg mbg mNA mNU mME mBA mct (i : Int)).val = _
    unfold qc_13_step qc_f13
    skip
    refine Tr.t (by simp; omega) ?_
    exact (Tr.t (by first | omega | (constructor <;> omega)) (Tr.bf rfl (by rw [Tr.val_ok, wrap64 (i := (i : Int) + 1) (by omega) (by omega)]; rfl)))
  · show (qc_13_step k s sg bg NA NU ME BA ct en ix mn mo mk ms msg mbg mNA mNU mME mBA mct (ix.toNat : Int)).val = _
    refine Tr.n (by first | (simp; done) | (simp; omega) | omega) ?_
    rfl
theorem qc_is13 : LoopIs tab FT D24 live 66 qc_lo 1 13 := by
  refine loop_told (sl := qc_13_sl) (step := qc_13_st) (out := qc_13_out) (lor := qc_lo13) (fin := fun x => (qc_13_fin (x.1) (x.2.1) (x.2.2.1) (x.2.2.2.1) (x.2.2.2.2.1) (x.2.2.2.2.2.1) (x.2.2.2.2.2.2.1) (x.2.2.2.2.2.2.2.1) (x.2.2.2.2.2.2.2.2.1) (x.2.2.2.2.2.2.2.2.2.1) (x.2.2.2.2.2.2.2.2.2.2.1) (x.2.2.2.2.2.2.2.2.2.2.2.1) (x.2.2.2.2.2.2.2.2.2.2.2.2.1) (x.2.2.2.2.2.2.2.2.2.2.2.2.2.1) (x.2.2.2.2.2.2.2.2.2.2.2.2.2.2.1) (x.2.2.2.2.2.2.2.2.2.2.2.2.2.2.2.1) (x.2.2.2.2.2.2.2.2.2.2.2.2.2.2.2.2.1) (x.2.2.2.2.2.2.2.2.2.2.2.2.2.2.2.2.2.1) (x.2.2.2.2.2.2.2.2.2.2.2.2.2.2.2.2.2.2.1) (x.2.2.2.2.2.2.2.2.2.2.2.2.2.2.2.2.2.2.2.1) (x.2.2.2.2.2.2.2.2.2.2.2.2.2.2.2.2.2.2.2.2.1) (x.2.2.2.2.2.2.2.2.2.2.2.2.2.2.2.2.2.2.2.2.2.1) (x.2.2.2.2.2.2.2.2.2.2.2.2.2.2.2.2.2.2.2.2.2.2))) (fun _ => rfl) ?_ (fun x n => qc_13_r x.1 x.2.1 x.2.2.1 x.2.2.2.1 x.2.2.2.2.1 x.2.2.2.2.2.1 x.2.2.2.2.2.2.1 x.2.2.2.2.2.2.2.1 x.2.2.2.2.2.2.2.2.1 x.2.2.2.2.2.2.2.2.2.1 x.2.2.2.2.2.2.2.2.2.2.1 x.2.2.2.2.2.2.2.2.2.2.2.1 x.2.2.2.2.2.2.2.2.2.2.2.2.1 x.2.2.2.2.2.2.2.2.2.2.2.2.2.1 x.2.2.2.2.2.2.2.2.2.2.2.2.2.2.1 x.2.2.2.2.2.2.2.2.2.2.2.2.2.2.2.1 x.2.2.2.2.2.2.2.2.2.2.2.2.2.2.2.2.1 x.2.2.2.2.2.2.2.2.2.2.2.2.2.2.2.2.2.1 x.2.2.2.2.2.2.2.2.2.2.2.2.2.2.2.2.2.2.1 x.2.2.2.2.2.2.2.2.2.2.2.2.2.2.2.2.2.2.2.1 x.2.2.2.2.2.2.2.2.2.2.2.2.2.2.2.2.2.2.2.2.1 x.2.2.2.2.2.2.2.2.2.2.2.2.2.2.2.2.2.2.2.2.2.1 x.2.2.2.2.2.2.2.2.2.2.2.2.2.2.2.2.2.2.2.2.2.2 n) (fun x ow => qc_13_h x.1 x.2.1 x.2.2.1 x.2.2.2.1 x.2.2.2.2.1 x.2.2.2.2.2.1 x.2.2.2.2.2.2.1 x.2.2.2.2.2.2.2.1 x.2.2.2.2.2.2.2.2.1 x.2.2.2.2.2.2.2.2.2.1 x.2.2.2.2.2.2.2.2.2.2.1 x.2.2.2.2.2.2.2.2.2.2.2.1 x.2.2.2.2.2.2.2.2.2.2.2.2.1 x.2.2.2.2.2.2.2.2.2.2.2.2.2.1 x.2.2.2.2.2.2.2.2.2.2.2.2.2.2.1 x.2.2.2.2.2.2.2.2.2.2.2.2.2.2.2.1 x.2.2.2.2.2.2.2.2.2.2.2.2.2.2.2.2.1 x.2.2.2.2.2.2.2.2.2.2.2.2.2.2.2.2.2.1 x.2.2.2.2.2.2.2.2.2.2.2.2.2.2.2.2.2.2.1 x.2.2.2.2.2.2.2.2.2.2.2.2.2.2.2.2.2.2.2.1 x.2.2.2.2.2.2.2.2.2.2.2.2.2.2.2.2.2.2.2.2.1 x.2.2.2.2.2.2.2.2.2.2.2.2.2.2.2.2.2.2.2.2.2.1 x.2.2.2.2.2.2.2.2.2.2.2.2.2.2.2.2.2.2.2.2.2.2 ow)
  intro s t h
  unfold qc_lo13 at h
  split at h
  · cases h; exact ⟨(_, _, _, _, _, _, _, _, _, _, _, _, _, _, _, _, _, _, _, _, _, _, _), rfl, rfl⟩
  · cases h
theorem qc_7_r (k s : Int) (sg bg : Bool) (NA NU ME BA : LL) (ct en i : Int) (fuel : Nat) : rounds (rnd tab FT D24 live 66 qc_lo 0 7) leave (fuel + 1) (qc_7_sl (k, s, sg, bg, NA, NU, ME, BA, ct, en, i)) = ((qc_7_step k s sg bg NA NU ME BA ct en i)).run (goOn (fun s => rounds (rnd tab FT D24 live 66 qc_lo 0 7) leave fuel (qc_7_sl s)) fun w => some (qc_7_out w)) := by kernel_rfl
theorem qc_f7_eq (k s : Int) (sg bg : Bool) (NA NU ME BA : LL) (ct : Int) (i e : Int) : qc_f7 k s sg bg NA NU ME BA ct i e = bif (nameOk (strAt ME i) && (!decide ((nth (row ME i) 1).int < e) && (!decide ((nth (row ME i) 1).int > 24) && (okV (nth (row ME i) 2).int (nth (row ME i) 3).int (nth (row ME i) 4).bool (nth (row ME i) 5).bool (nth (row ME i) 6).list (nth (row ME i) 7).list (nth (row ME i) 8).list (nth (row ME i) 9).list (nth (row ME i) 10).int && noDupN ME i)))) then Sum.inl (IntKind.wrap .i64 ((nth (row ME i) 1).int + sizeV (nth (row ME i) 2).int (nth (row ME i) 3).int (nth (row ME i) 9).list (nth (row ME i) 10).int)) else Sum.inr (Sum.inl (k, s, sg, bg, NA, NU, ME, BA, ct, e)) := by
  unfold qc_f7
  rw [show ∀ e, qc_k13_1 k s sg bg NA NU ME BA ct e i (nth (row ME i) 0).str (nth (row ME i) 1).int (nth (row ME i) 2).int (nth (row ME i) 3).int (nth (row ME i) 4).bool (nth (row ME i) 5).bool (nth (row ME i) 6).list (nth (row ME i) 7).list (nth (row ME i) 8).list (nth (row ME i) 9).list (nth (row ME i) 10).int 0 = !(noDupN ME i) from fun e => by unfold qc_k13_1 noDupN; rw [qc_R13_eq]; unfold strAt; generalize allI _ _ = q; cases q <;> rfl]
  rw [qq_vv, show qbf_rv (nth (row ME i) 2).int (nth (row ME i) 3).int (nth (row ME i) 4).bool (nth (row ME i) 5).bool (nth (row ME i) 6).list (nth (row ME i) 7).list (nth (row ME i) 8).list (nth (row ME i) 9).list (nth (row ME i) 10).int = okV (nth (row ME i) 2).int (nth (row ME i) 3).int (nth (row ME i) 4).bool (nth (row ME i) 5).bool (nth (row ME i) 6).list (nth (row ME i) 7).list (nth (row ME i) 8).list (nth (row ME i) 9).list (nth (row ME i) 10).int from rfl, show strAt ME i = (nth (row ME i) 0).str from rfl]
  generalize nameOk _ = p0, decide ((nth (row ME i) 1).int < e) = p1, decide ((nth (row ME i) 1).int > 24) = p2, okV (nth (row ME i) 2).int (nth (row ME i) 3).int (nth (row ME i) 4).bool (nth (row ME i) 5).bool (nth (row ME i) 6).list (nth (row ME i) 7).list (nth (row ME i) 8).list (nth (row ME i) 9).list (nth (row ME i) 10).int = p3, noDupN ME i = p4
  cases p0 <;> cases p1 <;> cases p2 <;> cases p3 <;> cases p4 <;> rfl
theorem qc_R7_eq (k s : Int) (sg bg : Bool) (NA NU ME BA : LL) (ct : Int) : ∃ e, qc_R7 k s sg bg NA NU ME BA ct 0 0 = bif (allI (memP ME) ME.length && ME.all fun x => okV (nth x 2).int (nth x 3).int (nth x 4).bool (nth x 5).bool (nth x 6).list (nth x 7).list (nth x 8).list (nth x 9).list (nth x 10).int) then Sum.inr (k, s, sg, bg, NA, NU, ME, BA, ct, endAt ME ME.length) else Sum.inl (k, s, sg, bg, NA, NU, ME, BA, ct, e) := by
  unfold qc_R7
  obtain ⟨a, ha⟩ := iter_along (f := fun i a => qc_f7 k s sg bg NA NU ME BA ct (i : Int) a) (fin := fun a => qc_e7 k s sg bg NA NU ME BA ct a) (P := fun i : Nat => nameOk (strAt ME (i : Int)) && (!decide ((nth (row ME (i : Int)) 1).int < endAt ME i) && (!decide ((nth (row ME (i : Int)) 1).int > 24) && (okV (nth (row ME (i : Int)) 2).int (nth (row ME (i : Int)) 3).int (nth (row ME (i : Int)) 4).bool (nth (row ME (i : Int)) 5).bool (nth (row ME (i : Int)) 6).list (nth (row ME (i : Int)) 7).list (nth (row ME (i : Int)) 8).list (nth (row ME (i : Int)) 9).list (nth (row ME (i : Int)) 10).int && noDupN ME (i : Int))))) (A := endAt ME) (w := fun e => Sum.inl (k, s, sg, bg, NA, NU, ME, BA, ct, e)) (N := ME.length) (fun j _ => qc_f7_eq k s sg bg NA NU ME BA ct (j : Int) (endAt ME j))
  refine ⟨a, ha.trans ?_⟩
  rw [show allI (fun i : Nat => nameOk (strAt ME (i : Int)) && (!decide ((nth (row ME (i : Int)) 1).int < endAt ME i) && (!decide ((nth (row ME (i : Int)) 1).int > 24) && (okV (nth (row ME (i : Int)) 2).int (nth (row ME (i : Int)) 3).int (nth (row ME (i : Int)) 4).bool (nth (row ME (i : Int)) 5).bool (nth (row ME (i : Int)) 6).list (nth (row ME (i : Int)) 7).list (nth (row ME (i : Int)) 8).list (nth (row ME (i : Int)) 9).list (nth (row ME (i : Int)) 10).int && noDupN ME (i : Int))))) ME.length = (allI (memP ME) ME.length && ME.all fun x => okV (nth x 2).int (nth x 3).int (nth x 4).bool (nth x 5).bool (nth x 6).list (nth x 7).list (nth x 8).list (nth x 9).list (nth x 10).int) from by
    rw [← allI_rows, ← allI_and]
    refine allI_congr fun i _ => ?_
    unfold memP
    generalize nameOk _ = p0, decide ((nth (row ME (i : Int)) 1).int < endAt ME i) = p1, decide ((nth (row ME (i : Int)) 1).int > 24) = p2, okV (nth (row ME (i : Int)) 2).int (nth (row ME (i : Int)) 3).int (nth (row ME (i : Int)) 4).bool (nth (row ME (i : Int)) 5).bool (nth (row ME (i : Int)) 6).list (nth (row ME (i : Int)) 7).list (nth (row ME (i : Int)) 8).list (nth (row ME (i : Int)) 9).list (nth (row ME (i : Int)) 10).int = p3, noDupN ME _ = p4
    cases p0 <;> cases p1 <;> cases p2 <;> cases p3 <;> cases p4 <;> rfl]
  rfl
theorem qc_7_h (k s : Int) (sg bg : Bool) (NA NU ME BA : LL) (ct en i : Int) (ow : qc_7_ω) : ((qc_7_fin k s sg bg NA NU ME BA ct en i)).val = some ow → ∃ fuel, loopN qc_7_st fuel (k, s, sg, bg, NA, NU, ME, BA, ct, en, i) = some ow := by
  refine auto_sum (R := (qc_R7 k s sg bg NA NU ME BA ct en i)) rfl rfl rfl ?_
  intro ho
  have ho : is (i = 0 ∧ Typed tab (.slice 71) (.l ME) ∧ (∀ x : List TC, x ∈ ME → qbf_rc (nth x 2).int (nth x 3).int (nth x 4).bool (nth x 5).bool (nth x 6).list (nth x 7).list (nth x 8).list (nth x 9).list (nth x 10).int = true) ∧ (∀ x : List TC, x ∈ ME → (!(qbf_rv (nth x 2).int (nth x 3).int (nth x 4).bool (nth x 5).bool (nth x 6).list (nth x 7).list (nth x 8).list (nth x 9).list (nth x 10).int)) = false → qn_rc (nth x 2).int (nth x 3).int (nth x 4).bool (nth x 5).bool (nth x 6).list (nth x 7).list (nth x 8).list (nth x 9).list (nth x 10).int = true)) = true := ho.elim id id
  obtain ⟨rfl, ht, hr, hz⟩ := is_iff.1 ho
  have hlen : ME.length ≤ 140737488351232 := by have := typed_room ht; simp only [show (tab 71).bytes = 152 from rfl] at this; omega
  refine ⟨(ME.length) + 1, ?_⟩
  refine iter_loop (step := qc_7_st) (ME.length) (fun i a => (qc_f7 k s sg bg NA NU ME BA ct (i : Int) a)) (fun a => (qc_e7 k s sg bg NA NU ME BA ct a)) (fun i a => (k, s, sg, bg, NA, NU, ME, BA, ct, a, (i : Int))) (fun _ _ => True) trivial (fun i a hi hI => ⟨?_, fun _ _ => trivial⟩) (fun a hI => ?_)
  · show (qc_7_step k s sg bg NA NU ME BA ct a (i : Int)).val = _
    unfold qc_7_step qc_f7
    have c0 : Typed tab (.str) (.s (nth (ME.getD i []) 0).str) := typed_s (typed_cell ht (ME.getD i []) (mem_getD hi) 0 (by decide))
    have c6 : Typed tab (.slice 9) (.l (nth (ME.getD i []) 6).list) := typed_list (typed_cell ht (ME.getD i []) (mem_getD hi) 6 (by decide))
    have c7 : Typed tab (.slice 2) (.l (nth (ME.getD i []) 7).list) := typed_list (typed_cell ht (ME.getD i []) (mem_getD hi) 7 (by decide))
    have c8 : Typed tab (.slice 71) (.l (nth (ME.getD i []) 8).list) := typed_list (typed_cell ht (ME.getD i []) (mem_getD hi) 8 (by decide))
    have c9 : Typed tab (.slice 32) (.l (nth (ME.getD i []) 9).list) := typed_list (typed_cell ht (ME.getD i []) (mem_getD hi) 9 (by decide))
    refine Tr.t (by simp; omega) ?_
    exact (Tr.t (by first | omega | (constructor <;> omega) | (exact is_true ⟨rfl, by omega, by omega, by omega⟩) | (exact hr _ (mem_getD (by omega))) | (exact hz _ (mem_getD (by omega)) (by assumption))) (Tr.t (by first | (exact is_true ⟨rfl, by omega, by omega, by omega⟩) | (exact hr _ (mem_getD (by omega))) | (exact hz _ (mem_getD (by omega)) (by assumption)) | (first | (apply qq_cc <;> assumption) | (first | (apply is_true; and_intros <;> (first | rfl | assumption | (apply qk_cc <;> assumption) | (apply qbd_cc <;> assumption) | (apply qo_cc <;> assumption) | (apply qr_cc <;> assumption) | (apply qv_cc <;> assumption) | (apply qw_cc <;> assumption) | (apply qq_cc <;> assumption) | (apply qg_cc <;> assumption) | (first | (apply is_true; and_intros <;> (first | rfl | assumption | (apply qk_cc <;> assumption) | (apply qbd_cc <;> assumption) | (apply qo_cc <;> assumption) | (apply qr_cc <;> assumption) | (apply qv_cc <;> assumption) | (apply qw_cc <;> assumption) | (apply qq_cc <;> assumption) | (apply qg_cc <;> assumption))) | (apply qk_cc <;> assumption) | (apply qbd_cc <;> assumption) | (apply qo_cc <;> assumption) | (apply qr_cc <;> assumption) | (apply qv_cc <;> assumption) | (apply qw_cc <;> assumption) | (apply qq_cc <;> assumption) | (apply qg_cc <;> assumption)))) | (apply qk_cc <;> assumption) | (apply qbd_cc <;> assumption) | (apply qo_cc <;> assumption) | (apply qr_cc <;> assumption) | (apply qv_cc <;> assumption) | (apply qw_cc <;> assumption) | (apply qq_cc <;> assumption) | (apply qg_cc <;> assumption)))) (Tr.bh (fun _ => rfl) (fun _ => (Tr.bh (fun _ => rfl) (fun _ => (Tr.bh (fun _ => rfl) (fun _ => (Tr.t (by first | omega | (constructor <;> omega) | (exact is_true ⟨rfl, by omega, by omega, by omega⟩) | (exact hr _ (mem_getD (by omega))) | (exact hz _ (mem_getD (by omega)) (by assumption))) (Tr.bh (fun _ => rfl) (fun _ => (Tr.bh (fun _ => (Tr.t (by first | (exact is_true ⟨rfl, by omega, by omega, by omega⟩) | (exact hr _ (mem_getD (by omega))) | (exact hz _ (mem_getD (by omega)) (by assumption)) | (first | (apply is_true; and_intros <;> (first | rfl | assumption | (apply qk_cc <;> assumption) | (apply qbd_cc <;> assumption) | (apply qo_cc <;> assumption) | (apply qr_cc <;> assumption) | (apply qv_cc <;> assumption) | (apply qw_cc <;> assumption) | (apply qq_cc <;> assumption) | (apply qg_cc <;> assumption) | (first | (apply is_true; and_intros <;> (first | rfl | assumption | (apply qk_cc <;> assumption) | (apply qbd_cc <;> assumption) | (apply qo_cc <;> assumption) | (apply qr_cc <;> assumption) | (apply qv_cc <;> assumption) | (apply qw_cc <;> assumption) | (apply qq_cc <;> assumption) | (apply qg_cc <;> assumption) | (first | (apply is_true; and_intros <;> (first | rfl | assumption | (apply qk_cc <;> assumption) | (apply qbd_cc <;> assumption) | (apply qo_cc <;> assumption) | (apply qr_cc <;> assumption) | (apply qv_cc <;> assumption) | (apply qw_cc <;> assumption) | (apply qq_cc <;> assumption) | (apply qg_cc <;> assumption))) | (apply qk_cc <;> assumption) | (apply qbd_cc <;> assumption) | (apply qo_cc <;> assumption) | (apply qr_cc <;> assumption) | (apply qv_cc <;> assumption) | (apply qw_cc <;> assumption) | (apply qq_cc <;> assumption) | (apply qg_cc <;> assumption)))) | (apply qk_cc <;> assumption) | (apply qbd_cc <;> assumption) | (apply qo_cc <;> assumption) | (apply qr_cc <;> assumption) | (apply qv_cc <;> assumption) | (apply qw_cc <;> assumption) | (apply qq_cc <;> assumption) | (apply qg_cc <;> assumption)))) | (apply qk_cc <;> assumption) | (apply qbd_cc <;> assumption) | (apply qo_cc <;> assumption) | (apply qr_cc <;> assumption) | (apply qv_cc <;> assumption) | (apply qw_cc <;> assumption) | (apply qq_cc <;> assumption) | (apply qg_cc <;> assumption))) rfl)) (fun _ => (Tr.t (by first | (exact is_true ⟨rfl, by omega, by omega, by omega⟩) | (exact hr _ (mem_getD (by omega))) | (exact hz _ (mem_getD (by omega)) (by assumption)) | (first | (apply is_true; and_intros <;> (first | rfl | assumption | (apply qk_cc <;> assumption) | (apply qbd_cc <;> assumption) | (apply qo_cc <;> assumption) | (apply qr_cc <;> assumption) | (apply qv_cc <;> assumption) | (apply qw_cc <;> assumption) | (apply qq_cc <;> assumption) | (apply qg_cc <;> assumption) | (first | (apply is_true; and_intros <;> (first | rfl | assumption | (apply qk_cc <;> assumption) | (apply qbd_cc <;> assumption) | (apply qo_cc <;> assumption) | (apply qr_cc <;> assumption) | (apply qv_cc <;> assumption) | (apply qw_cc <;> assumption) | (apply qq_cc <;> assumption) | (apply qg_cc <;> assumption) | (first | (apply is_true; and_intros <;> (first | rfl | assumption | (apply qk_cc <;> assumption) | (apply qbd_cc <;> assumption) | (apply qo_cc <;> assumption) | (apply qr_cc <;> assumption) | (apply qv_cc <;> assumption) | (apply qw_cc <;> assumption) | (apply qq_cc <;> assumption) | (apply qg_cc <;> assumption))) | (apply qk_cc <;> assumption) | (apply qbd_cc <;> assumption) | (apply qo_cc <;> assumption) | (apply qr_cc <;> assumption) | (apply qv_cc <;> assumption) | (apply qw_cc <;> assumption) | (apply qq_cc <;> assumption) | (apply qg_cc <;> assumption)))) | (apply qk_cc <;> assumption) | (apply qbd_cc <;> assumption) | (apply qo_cc <;> assumption) | (apply qr_cc <;> assumption) | (apply qv_cc <;> assumption) | (apply qw_cc <;> assumption) | (apply qq_cc <;> assumption) | (apply qg_cc <;> assumption)))) | (apply qk_cc <;> assumption) | (apply qbd_cc <;> assumption) | (apply qo_cc <;> assumption) | (apply qr_cc <;> assumption) | (apply qv_cc <;> assumption) | (apply qw_cc <;> assumption) | (apply qq_cc <;> assumption) | (apply qg_cc <;> assumption))) (Tr.t (by first | omega | (constructor <;> omega) | (exact is_true ⟨rfl, by omega, by omega, by omega⟩) | (exact hr _ (mem_getD (by omega))) | (exact hz _ (mem_getD (by omega)) (by assumption))) (by rw [Tr.val_ok, wrap64 (i := (i : Int) + 1) (by omega) (by omega)]; rfl))))))))))))))))
  · show (qc_7_step k s sg bg NA NU ME BA ct a (ME.length : Int)).val = _
    refine Tr.n (by first | (simp; done) | (simp; omega) | omega) ?_
    rfl
theorem qc_is7 : LoopIs tab FT D24 live 66 qc_lo 0 7 := by
  refine loop_told (sl := qc_7_sl) (step := qc_7_st) (out := qc_7_out) (lor := qc_lo7) (fin := fun x => (qc_7_fin (x.1) (x.2.1) (x.2.2.1) (x.2.2.2.1) (x.2.2.2.2.1) (x.2.2.2.2.2.1) (x.2.2.2.2.2.2.1) (x.2.2.2.2.2.2.2.1) (x.2.2.2.2.2.2.2.2.1) (x.2.2.2.2.2.2.2.2.2.1) (x.2.2.2.2.2.2.2.2.2.2))) (fun _ => rfl) ?_ (fun x n => qc_7_r x.1 x.2.1 x.2.2.1 x.2.2.2.1 x.2.2.2.2.1 x.2.2.2.2.2.1 x.2.2.2.2.2.2.1 x.2.2.2.2.2.2.2.1 x.2.2.2.2.2.2.2.2.1 x.2.2.2.2.2.2.2.2.2.1 x.2.2.2.2.2.2.2.2.2.2 n) (fun x ow => qc_7_h x.1 x.2.1 x.2.2.1 x.2.2.2.1 x.2.2.2.2.1 x.2.2.2.2.2.1 x.2.2.2.2.2.2.1 x.2.2.2.2.2.2.2.1 x.2.2.2.2.2.2.2.2.1 x.2.2.2.2.2.2.2.2.2.1 x.2.2.2.2.2.2.2.2.2.2 ow)
  intro s t h
  unfold qc_lo7 at h
  split at h
  · cases h; exact ⟨(_, _, _, _, _, _, _, _, _, _, _), rfl, rfl⟩
  · cases h
noncomputable def qc_t (k s : Int) (sg bg : Bool) (NA NU ME BA : LL) (ct : Int) : Tr (Bool) := (.ite ((!(qcg_v s (1 : Int) (24 : Int))) = true) (.ok false)
  (.ite ((!(qbo_v k s sg bg NA NU ME BA ct)) = true) (.ok false)
   (.ite ((decide ((NA.length : Int) > (0 : Int))) = true) (.ok false)
    (.ite ((decide ((NU.length : Int) > (0 : Int))) = true) (.ok false)
     (.ite ((decide ((BA.length : Int) > (0 : Int))) = true) (.ok false)
      (.ite ((!(ct == (0 : Int))) = true) (.ok false)
       (.ite ((decide ((ME.length : Int) < (1 : Int))) = true) (.ok false)
        (.ite ((decide ((ME.length : Int) > (4 : Int))) = true) (.ok false)
         (.ite ((qc_k7_1 k s sg bg NA NU ME BA ct (0 : Int) (0 : Int)) = true) (.ite ((qc_o7_2 k s sg bg NA NU ME BA ct (0 : Int) (0 : Int)) = true) (.ok false)
           .no)
          (.ite ((qc_o7_3 k s sg bg NA NU ME BA ct (0 : Int) (0 : Int)) = true) (.ok (decide ((qc_u7_3_9 k s sg bg NA NU ME BA ct (0 : Int) (0 : Int)) ≤ (qc_u7_3_1 k s sg bg NA NU ME BA ct (0 : Int) (0 : Int)))))
           .no))))))))))
def qc_mk (p : Bool) : Res := [(false, [⟨.bool, .sh, TC.b p⟩])]
noncomputable def qc_c (k s : Int) (sg bg : Bool) (NA NU ME BA : LL) (ct : Int) : Bool := (bif (!(qcg_v s (1 : Int) (24 : Int))) then true else (bif (!(qbo_v k s sg bg NA NU ME BA ct)) then true else (bif (decide ((NA.length : Int) > (0 : Int))) then true else (bif (decide ((NU.length : Int) > (0 : Int))) then true else (bif (decide ((BA.length : Int) > (0 : Int))) then true else (bif (!(ct == (0 : Int))) then true else (bif (decide ((ME.length : Int) < (1 : Int))) then true else (bif (decide ((ME.length : Int) > (4 : Int))) then true else (bif (qc_k7_1 k s sg bg NA NU ME BA ct (0 : Int) (0 : Int)) then ((qc_o7_2 k s sg bg NA NU ME BA ct (0 : Int) (0 : Int)) && true) else ((qc_o7_3 k s sg bg NA NU ME BA ct (0 : Int) (0 : Int)) && true))))))))))
noncomputable def qc_v (k s : Int) (sg bg : Bool) (NA NU ME BA : LL) (ct : Int) : Bool := (bif (!(qcg_v s (1 : Int) (24 : Int))) then false else (bif (!(qbo_v k s sg bg NA NU ME BA ct)) then false else (bif (decide ((NA.length : Int) > (0 : Int))) then false else (bif (decide ((NU.length : Int) > (0 : Int))) then false else (bif (decide ((BA.length : Int) > (0 : Int))) then false else (bif (!(ct == (0 : Int))) then false else (bif (decide ((ME.length : Int) < (1 : Int))) then false else (bif (decide ((ME.length : Int) > (4 : Int))) then false else (bif (qc_k7_1 k s sg bg NA NU ME BA ct (0 : Int) (0 : Int)) then false else (decide ((qc_u7_3_9 k s sg bg NA NU ME BA ct (0 : Int) (0 : Int)) ≤ (qc_u7_3_1 k s sg bg NA NU ME BA ct (0 : Int) (0 : Int)))))))))))))
theorem qc_l (k s : Int) (sg bg : Bool) (NA NU ME BA : LL) (ct : Int) : (qc_c k s sg bg NA NU ME BA ct) = true → (qc_t k s sg bg NA NU ME BA ct).val = some (qc_v k s sg bg NA NU ME BA ct) := by
  unfold qc_t qc_v qc_c
  exact fun h => (Tr.ss h (fun h => rfl) (fun h => (Tr.ss h (fun h => rfl) (fun h => (Tr.ss h (fun h => rfl) (fun h => (Tr.ss h (fun h => rfl) (fun h => (Tr.ss h (fun h => rfl) (fun h => (Tr.ss h (fun h => rfl) (fun h => (Tr.ss h (fun h => rfl) (fun h => (Tr.ss h (fun h => rfl) (fun h => (Tr.ss h (fun h => (Tr.gb h fun h => rfl)) (fun h => (Tr.gb h fun h => rfl)))))))))))))))))))
noncomputable def qc_S : List Arg → Option (Bool × Res) := fun xs => match xs with
  | [(true, [(.int .i64, TC.i k), (.int .i64, TC.i s), (.bool, TC.b sg), (.bool, TC.b bg), (.slice 9, TC.l NA), (.slice 2, TC.l NU), (.slice 71, TC.l ME), (.slice 32, TC.l BA), (.int .i64, TC.i ct)])] => some ((qc_c k s sg bg NA NU ME BA ct), qc_mk (qc_v k s sg bg NA NU ME BA ct))
  | _ => .none
theorem qc_e (k s : Int) (sg bg : Bool) (NA NU ME BA : LL) (ct : Int) : runF tab FT D24 live 66 qc_lo [(true, [(.int .i64, TC.i k), (.int .i64, TC.i s), (.bool, TC.b sg), (.bool, TC.b bg), (.slice 9, TC.l NA), (.slice 2, TC.l NU), (.slice 71, TC.l ME), (.slice 32, TC.l BA), (.int .i64, TC.i ct)])] = (qc_t k s sg bg NA NU ME BA ct).run fun p => some (qc_mk p) := by kernel_rfl
theorem qc_s : ∀ xs r, qc_S xs = some (true, r) → runF tab FT D24 live 66 qc_lo xs = some r := by
  intro xs r h
  unfold qc_S at h
  split at h
  · simp only [Option.some.injEq, Prod.mk.injEq] at h
    obtain ⟨h1, rfl⟩ := h
    exact fun_told (qc_e _ _ _ _ _ _ _ _ _) (qc_l _ _ _ _ _ _ _ _ _) h1
  · cases h
noncomputable def D25 : Dt := also D24 66 qc_S
theorem d25 : DOk Go.Proofs.Try.prog tab D25 := d24.also mixed_ok tab_ok names_ok (fnLoops_two (by kernel_rfl) qc_is7 qc_is13) qc_s
theorem qc_cc {k : Int} {s : Int} {sg : Bool} {bg : Bool} {NA : LL} {NU : LL} {ME : LL} {BA : LL} {ct : Int} (ht : Typed tab (.slice 71) (.l ME)) (hr : (∀ x : List TC, x ∈ ME → qbf_rc (nth x 2).int (nth x 3).int (nth x 4).bool (nth x 5).bool (nth x 6).list (nth x 7).list (nth x 8).list (nth x 9).list (nth x 10).int = true)) (hz : (∀ x : List TC, x ∈ ME → (!(qbf_rv (nth x 2).int (nth x 3).int (nth x 4).bool (nth x 5).bool (nth x 6).list (nth x 7).list (nth x 8).list (nth x 9).list (nth x 10).int)) = false → qn_rc (nth x 2).int (nth x 3).int (nth x 4).bool (nth x 5).bool (nth x 6).list (nth x 7).list (nth x 8).list (nth x 9).list (nth x 10).int = true)) : (qc_c k s sg bg NA NU ME BA ct) = true := by
  unfold qc_c
  refine bifT (fun b1 => ?_) (fun b1 => ?_)
  · skip
    rfl
  · skip
    refine bifT (fun b2 => ?_) (fun b2 => ?_)
    · skip
      rfl
    · skip
      refine bifT (fun b3 => ?_) (fun b3 => ?_)
      · skip
        rfl
      · skip
        refine bifT (fun b4 => ?_) (fun b4 => ?_)
        · skip
          rfl
        · skip
          refine bifT (fun b5 => ?_) (fun b5 => ?_)
          · skip
            rfl
          · skip
            refine bifT (fun b6 => ?_) (fun b6 => ?_)
            · skip
              rfl
            · skip
              refine bifT (fun b7 => ?_) (fun b7 => ?_)
              · skip
                rfl
              · skip
                refine bifT (fun b8 => ?_) (fun b8 => ?_)
                · skip
                  rfl
                · skip
                  refine bifT (fun b9 => ?_) (fun b9 => ?_)
                  · skip
                    refine andT (by exact is_true ⟨rfl, ht, hr, hz⟩) ?_
                    rfl
                  · skip
                    refine andT (by exact is_true ⟨rfl, ht, hr, hz⟩) ?_
                    rfl
theorem qc_vv (k s : Int) (sg bg : Bool) (NA NU ME BA : LL) (ct : Int) : qc_v k s sg bg NA NU ME BA ct = (compS s sg bg NA NU ME BA ct && ((allI (memP ME) ME.length && ME.all fun x => okV (nth x 2).int (nth x 3).int (nth x 4).bool (nth x 5).bool (nth x 6).list (nth x 7).list (nth x 8).list (nth x 9).list (nth x 10).int) && decide (endAt ME ME.length ≤ s))) := by
  unfold qc_v compS
  rw [show qbo_v k s sg bg NA NU ME BA ct = plain sg bg from by unfold qbo_v plain; cases sg <;> cases bg <;> rfl, show qcg_v s 1 24 = inB s 1 24 from rfl]
  obtain ⟨e, he⟩ := qc_R7_eq k s sg bg NA NU ME BA ct
  have hv : (bif qc_k7_1 k s sg bg NA NU ME BA ct 0 0 then false else decide (qc_u7_3_9 k s sg bg NA NU ME BA ct 0 0 ≤ qc_u7_3_1 k s sg bg NA NU ME BA ct 0 0)) = ((allI (memP ME) ME.length && ME.all fun x => okV (nth x 2).int (nth x 3).int (nth x 4).bool (nth x 5).bool (nth x 6).list (nth x 7).list (nth x 8).list (nth x 9).list (nth x 10).int) && decide (endAt ME ME.length ≤ s)) := by
    unfold qc_k7_1 qc_u7_3_9 qc_u7_3_1
    rw [he]
    generalize (allI (memP ME) ME.length && ME.all fun x => okV (nth x 2).int (nth x 3).int (nth x 4).bool (nth x 5).bool (nth x 6).list (nth x 7).list (nth x 8).list (nth x 9).list (nth x 10).int) = q
    cases q <;> rfl
  rw [hv]
  simp only [bif_nf, bif_tf, bif_ft, Bool.not_not, Bool.and_assoc]
noncomputable def qbu_t (k s : Int) (sg bg : Bool) (NA NU ME BA : LL) (ct : Int) : Tr (Bool) := (.ite ((!(s == (0 : Int))) = true) (.ok false)
  (.ite ((!(qbo_v k s sg bg NA NU ME BA ct)) = true) (.ok false)
   (.ite ((decide ((NA.length : Int) > (0 : Int))) = true) (.ok false)
    (.ite ((decide ((NU.length : Int) > (0 : Int))) = true) (.ok false)
     (.ite ((decide ((ME.length : Int) > (0 : Int))) = true) (.ok false)
      (.ite ((!((BA.length : Int) == (1 : Int))) = true) (.ok false)
       (.ite ((qcg_v ct (1 : Int) (4 : Int)) = true) (.ite ((0 : Int) ≤ (0 : Int) ∧ (0 : Int) < (BA.length : Int)) (.ite ((qbf_rc ((nth (row BA (0 : Int)) 0).int) ((nth (row BA (0 : Int)) 1).int) ((nth (row BA (0 : Int)) 2).bool) ((nth (row BA (0 : Int)) 3).bool) ((nth (row BA (0 : Int)) 4).list) ((nth (row BA (0 : Int)) 5).list) ((nth (row BA (0 : Int)) 6).list) ((nth (row BA (0 : Int)) 7).list) ((nth (row BA (0 : Int)) 8).int)) = true) (.ok (qbf_rv ((nth (row BA (0 : Int)) 0).int) ((nth (row BA (0 : Int)) 1).int) ((nth (row BA (0 : Int)) 2).bool) ((nth (row BA (0 : Int)) 3).bool) ((nth (row BA (0 : Int)) 4).list) ((nth (row BA (0 : Int)) 5).list) ((nth (row BA (0 : Int)) 6).list) ((nth (row BA (0 : Int)) 7).list) ((nth (row BA (0 : Int)) 8).int)))
          .no)
         .no)
        (.ok false))))))))
def qbu_mk (p : Bool) : Res := [(false, [⟨.bool, .sh, TC.b p⟩])]
noncomputable def qbu_c (k s : Int) (sg bg : Bool) (NA NU ME BA : LL) (ct : Int) : Bool := (bif (!(s == (0 : Int))) then true else (bif (!(qbo_v k s sg bg NA NU ME BA ct)) then true else (bif (decide ((NA.length : Int) > (0 : Int))) then true else (bif (decide ((NU.length : Int) > (0 : Int))) then true else (bif (decide ((ME.length : Int) > (0 : Int))) then true else (bif (!((BA.length : Int) == (1 : Int))) then true else (bif (qcg_v ct (1 : Int) (4 : Int)) then (is ((0 : Int) ≤ (0 : Int) ∧ (0 : Int) < (BA.length : Int)) && ((qbf_rc ((nth (row BA (0 : Int)) 0).int) ((nth (row BA (0 : Int)) 1).int) ((nth (row BA (0 : Int)) 2).bool) ((nth (row BA (0 : Int)) 3).bool) ((nth (row BA (0 : Int)) 4).list) ((nth (row BA (0 : Int)) 5).list) ((nth (row BA (0 : Int)) 6).list) ((nth (row BA (0 : Int)) 7).list) ((nth (row BA (0 : Int)) 8).int)) && true)) else true)))))))
noncomputable def qbu_v (k s : Int) (sg bg : Bool) (NA NU ME BA : LL) (ct : Int) : Bool := (bif (!(s == (0 : Int))) then false else (bif (!(qbo_v k s sg bg NA NU ME BA ct)) then false else (bif (decide ((NA.length : Int) > (0 : Int))) then false else (bif (decide ((NU.length : Int) > (0 : Int))) then false else (bif (decide ((ME.length : Int) > (0 : Int))) then false else (bif (!((BA.length : Int) == (1 : Int))) then false else (bif (qcg_v ct (1 : Int) (4 : Int)) then (qbf_rv ((nth (row BA (0 : Int)) 0).int) ((nth (row BA (0 : Int)) 1).int) ((nth (row BA (0 : Int)) 2).bool) ((nth (row BA (0 : Int)) 3).bool) ((nth (row BA (0 : Int)) 4).list) ((nth (row BA (0 : Int)) 5).list) ((nth (row BA (0 : Int)) 6).list) ((nth (row BA (0 : Int)) 7).list) ((nth (row BA (0 : Int)) 8).int)) else false)))))))
theorem qbu_l (k s : Int) (sg bg : Bool) (NA NU ME BA : LL) (ct : Int) : (qbu_c k s sg bg NA NU ME BA ct) = true → (qbu_t k s sg bg NA NU ME BA ct).val = some (qbu_v k s sg bg NA NU ME BA ct) := by
  unfold qbu_t qbu_v qbu_c
  exact fun h => (Tr.ss h (fun h => rfl) (fun h => (Tr.ss h (fun h => rfl) (fun h => (Tr.ss h (fun h => rfl) (fun h => (Tr.ss h (fun h => rfl) (fun h => (Tr.ss h (fun h => rfl) (fun h => (Tr.ss h (fun h => rfl) (fun h => (Tr.ss h (fun h => (Tr.gs h fun h => (Tr.gb h fun h => rfl))) (fun h => rfl))))))))))))))
noncomputable def qbu_S : List Arg → Option (Bool × Res) := fun xs => match xs with
  | [(true, [(.int .i64, TC.i k), (.int .i64, TC.i s), (.bool, TC.b sg), (.bool, TC.b bg), (.slice 9, TC.l NA), (.slice 2, TC.l NU), (.slice 71, TC.l ME), (.slice 32, TC.l BA), (.int .i64, TC.i ct)])] => some ((qbu_c k s sg bg NA NU ME BA ct), qbu_mk (qbu_v k s sg bg NA NU ME BA ct))
  | _ => .none
theorem qbu_e (k s : Int) (sg bg : Bool) (NA NU ME BA : LL) (ct : Int) : runF tab FT D25 live 67 noLoops [(true, [(.int .i64, TC.i k), (.int .i64, TC.i s), (.bool, TC.b sg), (.bool, TC.b bg), (.slice 9, TC.l NA), (.slice 2, TC.l NU), (.slice 71, TC.l ME), (.slice 32, TC.l BA), (.int .i64, TC.i ct)])] = (qbu_t k s sg bg NA NU ME BA ct).run fun p => some (qbu_mk p) := by kernel_rfl
theorem qbu_s : ∀ xs r, qbu_S xs = some (true, r) → runF tab FT D25 live 67 noLoops xs = some r := by
  intro xs r h
  unfold qbu_S at h
  split at h
  · simp only [Option.some.injEq, Prod.mk.injEq] at h
    obtain ⟨h1, rfl⟩ := h
    exact fun_told (qbu_e _ _ _ _ _ _ _ _ _) (qbu_l _ _ _ _ _ _ _ _ _) h1
  · cases h
noncomputable def D26 : Dt := also D25 67 qbu_S
theorem d26 : DOk Go.Proofs.Try.prog tab D26 := d25.also mixed_ok tab_ok names_ok noLoops_ok qbu_s
theorem qbu_cc {k : Int} {s : Int} {sg : Bool} {bg : Bool} {NA : LL} {NU : LL} {ME : LL} {BA : LL} {ct : Int} (hr : 0 < BA.length → qbf_rc (nth (row BA (0 : Int)) 0).int (nth (row BA (0 : Int)) 1).int (nth (row BA (0 : Int)) 2).bool (nth (row BA (0 : Int)) 3).bool (nth (row BA (0 : Int)) 4).list (nth (row BA (0 : Int)) 5).list (nth (row BA (0 : Int)) 6).list (nth (row BA (0 : Int)) 7).list (nth (row BA (0 : Int)) 8).int = true) : (qbu_c k s sg bg NA NU ME BA ct) = true := by
  unfold qbu_c
  refine bifT (fun b1 => ?_) (fun b1 => ?_)
  · skip
    rfl
  · skip
    refine bifT (fun b2 => ?_) (fun b2 => ?_)
    · skip
      rfl
    · skip
      refine bifT (fun b3 => ?_) (fun b3 => ?_)
      · skip
        rfl
      · skip
        refine bifT (fun b4 => ?_) (fun b4 => ?_)
        · skip
          rfl
        · skip
          refine bifT (fun b5 => ?_) (fun b5 => ?_)
          · skip
            rfl
          · skip
            refine bifT (fun b6 => ?_) (fun b6 => ?_)
            · skip
              rfl
            · skip
              refine bifT (fun b7 => ?_) (fun b7 => ?_)
              · skip
                refine andT (is_true (by have e6 := bneF b6; omega)) ?_
                refine andT (by have e6 := bneF b6; exact hr (by omega)) ?_
                rfl
              · skip
                rfl
theorem qbu_vv (k s : Int) (sg bg : Bool) (NA NU ME BA : LL) (ct : Int) : qbu_v k s sg bg NA NU ME BA ct = (arrS s sg bg NA NU ME BA ct && (if h : 0 < BA.length then okV (nth (row BA (0 : Int)) 0).int (nth (row BA (0 : Int)) 1).int (nth (row BA (0 : Int)) 2).bool (nth (row BA (0 : Int)) 3).bool (nth (row BA (0 : Int)) 4).list (nth (row BA (0 : Int)) 5).list (nth (row BA (0 : Int)) 6).list (nth (row BA (0 : Int)) 7).list (nth (row BA (0 : Int)) 8).int else false)) := by
  unfold qbu_v arrS
  rw [show qbo_v k s sg bg NA NU ME BA ct = plain sg bg from by unfold qbo_v plain; cases sg <;> cases bg <;> rfl, show qcg_v ct 1 4 = inB ct 1 4 from rfl, show qbf_rv (nth (row BA (0 : Int)) 0).int (nth (row BA (0 : Int)) 1).int (nth (row BA (0 : Int)) 2).bool (nth (row BA (0 : Int)) 3).bool (nth (row BA (0 : Int)) 4).list (nth (row BA (0 : Int)) 5).list (nth (row BA (0 : Int)) 6).list (nth (row BA (0 : Int)) 7).list (nth (row BA (0 : Int)) 8).int = okV (nth (row BA (0 : Int)) 0).int (nth (row BA (0 : Int)) 1).int (nth (row BA (0 : Int)) 2).bool (nth (row BA (0 : Int)) 3).bool (nth (row BA (0 : Int)) 4).list (nth (row BA (0 : Int)) 5).list (nth (row BA (0 : Int)) 6).list (nth (row BA (0 : Int)) 7).list (nth (row BA (0 : Int)) 8).int from rfl]
  simp only [bif_nf, bif_tf, bif_ft, Bool.not_not, Bool.and_assoc]
  cases hb : ((BA.length : Int) == 1) with
  | true => rw [dif_pos (by have := beq_iff_eq.1 hb; omega)]
  | false => simp only [Bool.false_and, Bool.and_false]
noncomputable def qbf_t (k s : Int) (sg bg : Bool) (NA NU ME BA : LL) (ct : Int) : Tr (Bool) := (.ite ((k == (1 : Int)) = true) (.ite ((k == (2 : Int)) = true) (.ite ((qcj_v k s sg bg NA NU ME BA ct) = true) (.ite ((qbo_v k s sg bg NA NU ME BA ct) = true) (.ite (((NA.length : Int) == (0 : Int)) = true) (.ite (((NU.length : Int) == (0 : Int)) = true) (.ite (((ME.length : Int) == (0 : Int)) = true) (.ite (((BA.length : Int) == (0 : Int)) = true) (.ite ((ct == (0 : Int)) = true) (.ite ((qn_rc k s sg bg NA NU ME BA ct) = true) (.ite ((decide ((qn_rv k s sg bg NA NU ME BA ct) ≤ (24 : Int))) = true) (.ite ((qf_rc k s sg bg NA NU ME BA ct) = true) (.ok (decide ((qf_rv k s sg bg NA NU ME BA ct) ≤ (3 : Int))))
             .no)
            (.ok false))
           .no)
          (.ok false))
         (.ok false))
        (.ok false))
       (.ok false))
      (.ok false))
     (.ok false))
    (.ok false))
   (.ite ((k == (6 : Int)) = true) (.ite ((qcj_v k s sg bg NA NU ME BA ct) = true) (.ite ((qbo_v k s sg bg NA NU ME BA ct) = true) (.ite (((NA.length : Int) == (0 : Int)) = true) (.ite (((NU.length : Int) == (0 : Int)) = true) (.ite (((ME.length : Int) == (0 : Int)) = true) (.ite (((BA.length : Int) == (0 : Int)) = true) (.ite ((ct == (0 : Int)) = true) (.ite ((qn_rc k s sg bg NA NU ME BA ct) = true) (.ite ((decide ((qn_rv k s sg bg NA NU ME BA ct) ≤ (24 : Int))) = true) (.ite ((qf_rc k s sg bg NA NU ME BA ct) = true) (.ok (decide ((qf_rv k s sg bg NA NU ME BA ct) ≤ (3 : Int))))
              .no)
             (.ok false))
            .no)
           (.ok false))
          (.ok false))
         (.ok false))
        (.ok false))
       (.ok false))
      (.ok false))
     (.ok false))
    (.ite ((qcj_v k s sg bg NA NU ME BA ct) = true) (.ite ((qn_rc k s sg bg NA NU ME BA ct) = true) (.ite ((decide ((qn_rv k s sg bg NA NU ME BA ct) ≤ (24 : Int))) = true) (.ite ((qf_rc k s sg bg NA NU ME BA ct) = true) (.ok (decide ((qf_rv k s sg bg NA NU ME BA ct) ≤ (3 : Int))))
        .no)
       (.ok false))
      .no)
     (.ok false))))
  (.ite ((k == (2 : Int)) = true) (.ite ((k == (2 : Int)) = true) (.ite ((qcg_v s (1 : Int) (16 : Int)) = true) (.ite ((qbo_v k s sg bg NA NU ME BA ct) = true) (.ite (((NA.length : Int) == (0 : Int)) = true) (.ite (((NU.length : Int) == (0 : Int)) = true) (.ite (((ME.length : Int) == (0 : Int)) = true) (.ite (((BA.length : Int) == (0 : Int)) = true) (.ite ((ct == (0 : Int)) = true) (.ite ((qn_rc k s sg bg NA NU ME BA ct) = true) (.ite ((decide ((qn_rv k s sg bg NA NU ME BA ct) ≤ (24 : Int))) = true) (.ite ((qf_rc k s sg bg NA NU ME BA ct) = true) (.ok (decide ((qf_rv k s sg bg NA NU ME BA ct) ≤ (3 : Int))))
              .no)
             (.ok false))
            .no)
           (.ok false))
          (.ok false))
         (.ok false))
        (.ok false))
       (.ok false))
      (.ok false))
     (.ok false))
    (.ite ((k == (6 : Int)) = true) (.ite ((qcg_v s (1 : Int) (16 : Int)) = true) (.ite ((qbo_v k s sg bg NA NU ME BA ct) = true) (.ite (((NA.length : Int) == (0 : Int)) = true) (.ite (((NU.length : Int) == (0 : Int)) = true) (.ite (((ME.length : Int) == (0 : Int)) = true) (.ite (((BA.length : Int) == (0 : Int)) = true) (.ite ((ct == (0 : Int)) = true) (.ite ((qn_rc k s sg bg NA NU ME BA ct) = true) (.ite ((decide ((qn_rv k s sg bg NA NU ME BA ct) ≤ (24 : Int))) = true) (.ite ((qf_rc k s sg bg NA NU ME BA ct) = true) (.ok (decide ((qf_rv k s sg bg NA NU ME BA ct) ≤ (3 : Int))))
               .no)
              (.ok false))
             .no)
            (.ok false))
           (.ok false))
          (.ok false))
         (.ok false))
        (.ok false))
       (.ok false))
      (.ok false))
     (.ite ((qcg_v s (1 : Int) (16 : Int)) = true) (.ite ((qn_rc k s sg bg NA NU ME BA ct) = true) (.ite ((decide ((qn_rv k s sg bg NA NU ME BA ct) ≤ (24 : Int))) = true) (.ite ((qf_rc k s sg bg NA NU ME BA ct) = true) (.ok (decide ((qf_rv k s sg bg NA NU ME BA ct) ≤ (3 : Int))))
         .no)
        (.ok false))
       .no)
      (.ok false))))
   (.ite ((k == (3 : Int)) = true) (.ite ((qg_c k s sg bg NA NU ME BA ct) = true) (.ite ((k == (2 : Int)) = true) (.ite ((qg_v k s sg bg NA NU ME BA ct) = true) (.ite ((qbo_v k s sg bg NA NU ME BA ct) = true) (.ite (((NA.length : Int) == (0 : Int)) = true) (.ite (((NU.length : Int) == (0 : Int)) = true) (.ite (((ME.length : Int) == (0 : Int)) = true) (.ite (((BA.length : Int) == (0 : Int)) = true) (.ite ((ct == (0 : Int)) = true) (.ite ((qn_rc k s sg bg NA NU ME BA ct) = true) (.ite ((decide ((qn_rv k s sg bg NA NU ME BA ct) ≤ (24 : Int))) = true) (.ite ((qf_rc k s sg bg NA NU ME BA ct) = true) (.ok (decide ((qf_rv k s sg bg NA NU ME BA ct) ≤ (3 : Int))))
                .no)
               (.ok false))
              .no)
             (.ok false))
            (.ok false))
           (.ok false))
          (.ok false))
         (.ok false))
        (.ok false))
       (.ok false))
      (.ite ((k == (6 : Int)) = true) (.ite ((qg_v k s sg bg NA NU ME BA ct) = true) (.ite ((qbo_v k s sg bg NA NU ME BA ct) = true) (.ite (((NA.length : Int) == (0 : Int)) = true) (.ite (((NU.length : Int) == (0 : Int)) = true) (.ite (((ME.length : Int) == (0 : Int)) = true) (.ite (((BA.length : Int) == (0 : Int)) = true) (.ite ((ct == (0 : Int)) = true) (.ite ((qn_rc k s sg bg NA NU ME BA ct) = true) (.ite ((decide ((qn_rv k s sg bg NA NU ME BA ct) ≤ (24 : Int))) = true) (.ite ((qf_rc k s sg bg NA NU ME BA ct) = true) (.ok (decide ((qf_rv k s sg bg NA NU ME BA ct) ≤ (3 : Int))))
                 .no)
                (.ok false))
               .no)
              (.ok false))
             (.ok false))
            (.ok false))
           (.ok false))
          (.ok false))
         (.ok false))
        (.ok false))
       (.ite ((qg_v k s sg bg NA NU ME BA ct) = true) (.ite ((qn_rc k s sg bg NA NU ME BA ct) = true) (.ite ((decide ((qn_rv k s sg bg NA NU ME BA ct) ≤ (24 : Int))) = true) (.ite ((qf_rc k s sg bg NA NU ME BA ct) = true) (.ok (decide ((qf_rv k s sg bg NA NU ME BA ct) ≤ (3 : Int))))
           .no)
          (.ok false))
         .no)
        (.ok false))))
     .no)
    (.ite ((k == (4 : Int)) = true) (.ite ((qc_c k s sg bg NA NU ME BA ct) = true) (.ite ((k == (2 : Int)) = true) (.ite ((qc_v k s sg bg NA NU ME BA ct) = true) (.ite ((qbo_v k s sg bg NA NU ME BA ct) = true) (.ite (((NA.length : Int) == (0 : Int)) = true) (.ite (((NU.length : Int) == (0 : Int)) = true) (.ite (((ME.length : Int) == (0 : Int)) = true) (.ite (((BA.length : Int) == (0 : Int)) = true) (.ite ((ct == (0 : Int)) = true) (.ite ((qn_rc k s sg bg NA NU ME BA ct) = true) (.ite ((decide ((qn_rv k s sg bg NA NU ME BA ct) ≤ (24 : Int))) = true) (.ite ((qf_rc k s sg bg NA NU ME BA ct) = true) (.ok (decide ((qf_rv k s sg bg NA NU ME BA ct) ≤ (3 : Int))))
                 .no)
                (.ok false))
               .no)
              (.ok false))
             (.ok false))
            (.ok false))
           (.ok false))
          (.ok false))
         (.ok false))
        (.ok false))
       (.ite ((k == (6 : Int)) = true) (.ite ((qc_v k s sg bg NA NU ME BA ct) = true) (.ite ((qbo_v k s sg bg NA NU ME BA ct) = true) (.ite (((NA.length : Int) == (0 : Int)) = true) (.ite (((NU.length : Int) == (0 : Int)) = true) (.ite (((ME.length : Int) == (0 : Int)) = true) (.ite (((BA.length : Int) == (0 : Int)) = true) (.ite ((ct == (0 : Int)) = true) (.ite ((qn_rc k s sg bg NA NU ME BA ct) = true) (.ite ((decide ((qn_rv k s sg bg NA NU ME BA ct) ≤ (24 : Int))) = true) (.ite ((qf_rc k s sg bg NA NU ME BA ct) = true) (.ok (decide ((qf_rv k s sg bg NA NU ME BA ct) ≤ (3 : Int))))
                  .no)
                 (.ok false))
                .no)
               (.ok false))
              (.ok false))
             (.ok false))
            (.ok false))
           (.ok false))
          (.ok false))
         (.ok false))
        (.ite ((qc_v k s sg bg NA NU ME BA ct) = true) (.ite ((qn_rc k s sg bg NA NU ME BA ct) = true) (.ite ((decide ((qn_rv k s sg bg NA NU ME BA ct) ≤ (24 : Int))) = true) (.ite ((qf_rc k s sg bg NA NU ME BA ct) = true) (.ok (decide ((qf_rv k s sg bg NA NU ME BA ct) ≤ (3 : Int))))
            .no)
           (.ok false))
          .no)
         (.ok false))))
      .no)
     (.ite ((k == (5 : Int)) = true) (.ite ((qbu_c k s sg bg NA NU ME BA ct) = true) (.ite ((k == (2 : Int)) = true) (.ite ((qbu_v k s sg bg NA NU ME BA ct) = true) (.ite ((qbo_v k s sg bg NA NU ME BA ct) = true) (.ite (((NA.length : Int) == (0 : Int)) = true) (.ite (((NU.length : Int) == (0 : Int)) = true) (.ite (((ME.length : Int) == (0 : Int)) = true) (.ite (((BA.length : Int) == (0 : Int)) = true) (.ite ((ct == (0 : Int)) = true) (.ite ((qn_rc k s sg bg NA NU ME BA ct) = true) (.ite ((decide ((qn_rv k s sg bg NA NU ME BA ct) ≤ (24 : Int))) = true) (.ite ((qf_rc k s sg bg NA NU ME BA ct) = true) (.ok (decide ((qf_rv k s sg bg NA NU ME BA ct) ≤ (3 : Int))))
                  .no)
                 (.ok false))
                .no)
               (.ok false))
              (.ok false))
             (.ok false))
            (.ok false))
           (.ok false))
          (.ok false))
         (.ok false))
        (.ite ((k == (6 : Int)) = true) (.ite ((qbu_v k s sg bg NA NU ME BA ct) = true) (.ite ((qbo_v k s sg bg NA NU ME BA ct) = true) (.ite (((NA.length : Int) == (0 : Int)) = true) (.ite (((NU.length : Int) == (0 : Int)) = true) (.ite (((ME.length : Int) == (0 : Int)) = true) (.ite (((BA.length : Int) == (0 : Int)) = true) (.ite ((ct == (0 : Int)) = true) (.ite ((qn_rc k s sg bg NA NU ME BA ct) = true) (.ite ((decide ((qn_rv k s sg bg NA NU ME BA ct) ≤ (24 : Int))) = true) (.ite ((qf_rc k s sg bg NA NU ME BA ct) = true) (.ok (decide ((qf_rv k s sg bg NA NU ME BA ct) ≤ (3 : Int))))
                   .no)
                  (.ok false))
                 .no)
                (.ok false))
               (.ok false))
              (.ok false))
             (.ok false))
            (.ok false))
           (.ok false))
          (.ok false))
         (.ite ((qbu_v k s sg bg NA NU ME BA ct) = true) (.ite ((qn_rc k s sg bg NA NU ME BA ct) = true) (.ite ((decide ((qn_rv k s sg bg NA NU ME BA ct) ≤ (24 : Int))) = true) (.ite ((qf_rc k s sg bg NA NU ME BA ct) = true) (.ok (decide ((qf_rv k s sg bg NA NU ME BA ct) ≤ (3 : Int))))
             .no)
            (.ok false))
           .no)
          (.ok false))))
       .no)
      (.ite ((k == (6 : Int)) = true) (.ite ((k == (2 : Int)) = true) (.ite ((s == (2 : Int)) = true) (.ite ((qbo_v k s sg bg NA NU ME BA ct) = true) (.ite (((NA.length : Int) == (0 : Int)) = true) (.ite (((NU.length : Int) == (0 : Int)) = true) (.ite (((ME.length : Int) == (0 : Int)) = true) (.ite (((BA.length : Int) == (0 : Int)) = true) (.ite ((ct == (0 : Int)) = true) (.ite ((qn_rc k s sg bg NA NU ME BA ct) = true) (.ite ((decide ((qn_rv k s sg bg NA NU ME BA ct) ≤ (24 : Int))) = true) (.ite ((qf_rc k s sg bg NA NU ME BA ct) = true) (.ok (decide ((qf_rv k s sg bg NA NU ME BA ct) ≤ (3 : Int))))
                  .no)
                 (.ok false))
                .no)
               (.ok false))
              (.ok false))
             (.ok false))
            (.ok false))
           (.ok false))
          (.ok false))
         (.ok false))
        (.ite ((k == (6 : Int)) = true) (.ite ((s == (2 : Int)) = true) (.ite ((qbo_v k s sg bg NA NU ME BA ct) = true) (.ite (((NA.length : Int) == (0 : Int)) = true) (.ite (((NU.length : Int) == (0 : Int)) = true) (.ite (((ME.length : Int) == (0 : Int)) = true) (.ite (((BA.length : Int) == (0 : Int)) = true) (.ite ((ct == (0 : Int)) = true) (.ite ((qn_rc k s sg bg NA NU ME BA ct) = true) (.ite ((decide ((qn_rv k s sg bg NA NU ME BA ct) ≤ (24 : Int))) = true) (.ite ((qf_rc k s sg bg NA NU ME BA ct) = true) (.ok (decide ((qf_rv k s sg bg NA NU ME BA ct) ≤ (3 : Int))))
                   .no)
                  (.ok false))
                 .no)
                (.ok false))
               (.ok false))
              (.ok false))
             (.ok false))
            (.ok false))
           (.ok false))
          (.ok false))
         (.ite ((s == (2 : Int)) = true) (.ite ((qn_rc k s sg bg NA NU ME BA ct) = true) (.ite ((decide ((qn_rv k s sg bg NA NU ME BA ct) ≤ (24 : Int))) = true) (.ite ((qf_rc k s sg bg NA NU ME BA ct) = true) (.ok (decide ((qf_rv k s sg bg NA NU ME BA ct) ≤ (3 : Int))))
             .no)
            (.ok false))
           .no)
          (.ok false))))
       (.ite ((k == (2 : Int)) = true) (.ok false)
        (.ite ((k == (6 : Int)) = true) (.ok false)
         (.ok false)))))))))
def qbf_mk (p : Bool) : Res := [(false, [⟨.bool, .sh, TC.b p⟩])]
noncomputable def qbf_c (k s : Int) (sg bg : Bool) (NA NU ME BA : LL) (ct : Int) : Bool := (bif (k == (1 : Int)) then (bif (k == (2 : Int)) then (bif (qcj_v k s sg bg NA NU ME BA ct) then (bif (qbo_v k s sg bg NA NU ME BA ct) then (bif ((NA.length : Int) == (0 : Int)) then (bif ((NU.length : Int) == (0 : Int)) then (bif ((ME.length : Int) == (0 : Int)) then (bif ((BA.length : Int) == (0 : Int)) then (bif (ct == (0 : Int)) then ((qn_rc k s sg bg NA NU ME BA ct) && (bif (decide ((qn_rv k s sg bg NA NU ME BA ct) ≤ (24 : Int))) then ((qf_rc k s sg bg NA NU ME BA ct) && true) else true)) else true) else true) else true) else true) else true) else true) else true) else (bif (k == (6 : Int)) then (bif (qcj_v k s sg bg NA NU ME BA ct) then (bif (qbo_v k s sg bg NA NU ME BA ct) then (bif ((NA.length : Int) == (0 : Int)) then (bif ((NU.length : Int) == (0 : Int)) then (bif ((ME.length : Int) == (0 : Int)) then (bif ((BA.length : Int) == (0 : Int)) then (bif (ct == (0 : Int)) then ((qn_rc k s sg bg NA NU ME BA ct) && (bif (decide ((qn_rv k s sg bg NA NU ME BA ct) ≤ (24 : Int))) then ((qf_rc k s sg bg NA NU ME BA ct) && true) else true)) else true) else true) else true) else true) else true) else true) else true) else (bif (qcj_v k s sg bg NA NU ME BA ct) then ((qn_rc k s sg bg NA NU ME BA ct) && (bif (decide ((qn_rv k s sg bg NA NU ME BA ct) ≤ (24 : Int))) then ((qf_rc k s sg bg NA NU ME BA ct) && true) else true)) else true))) else (bif (k == (2 : Int)) then (bif (k == (2 : Int)) then (bif (qcg_v s (1 : Int) (16 : Int)) then (bif (qbo_v k s sg bg NA NU ME BA ct) then (bif ((NA.length : Int) == (0 : Int)) then (bif ((NU.length : Int) == (0 : Int)) then (bif ((ME.length : Int) == (0 : Int)) then (bif ((BA.length : Int) == (0 : Int)) then (bif (ct == (0 : Int)) then ((qn_rc k s sg bg NA NU ME BA ct) && (bif (decide ((qn_rv k s sg bg NA NU ME BA ct) ≤ (24 : Int))) then ((qf_rc k s sg bg NA NU ME BA ct) && true) else true)) else true) else true) else true) else true) else true) else true) else true) else (bif (k == (6 : Int)) then (bif (qcg_v s (1 : Int) (16 : Int)) then (bif (qbo_v k s sg bg NA NU ME BA ct) then (bif ((NA.length : Int) == (0 : Int)) then (bif ((NU.length : Int) == (0 : Int)) then (bif ((ME.length : Int) == (0 : Int)) then (bif ((BA.length : Int) == (0 : Int)) then (bif (ct == (0 : Int)) then ((qn_rc k s sg bg NA NU ME BA ct) && (bif (decide ((qn_rv k s sg bg NA NU ME BA ct) ≤ (24 : Int))) then ((qf_rc k s sg bg NA NU ME BA ct) && true) else true)) else true) else true) else true) else true) else true) else true) else true) else (bif (qcg_v s (1 : Int) (16 : Int)) then ((qn_rc k s sg bg NA NU ME BA ct) && (bif (decide ((qn_rv k s sg bg NA NU ME BA ct) ≤ (24 : Int))) then ((qf_rc k s sg bg NA NU ME BA ct) && true) else true)) else true))) else (bif (k == (3 : Int)) then ((qg_c k s sg bg NA NU ME BA ct) && (bif (k == (2 : Int)) then (bif (qg_v k s sg bg NA NU ME BA ct) then (bif (qbo_v k s sg bg NA NU ME BA ct) then (bif ((NA.length : Int) == (0 : Int)) then (bif ((NU.length : Int) == (0 : Int)) then (bif ((ME.length : Int) == (0 : Int)) then (bif ((BA.length : Int) == (0 : Int)) then (bif (ct == (0 : Int)) then ((qn_rc k s sg bg NA NU ME BA ct) && (bif (decide ((qn_rv k s sg bg NA NU ME BA ct) ≤ (24 : Int))) then ((qf_rc k s sg bg NA NU ME BA ct) && true) else true)) else true) else true) else true) else true) else true) else true) else true) else (bif (k == (6 : Int)) then (bif (qg_v k s sg bg NA NU ME BA ct) then (bif (qbo_v k s sg bg NA NU ME BA ct) then (bif ((NA.length : Int) == (0 : Int)) then (bif ((NU.length : Int) == (0 : Int)) then (bif ((ME.length : Int) == (0 : Int)) then (bif ((BA.length : Int) == (0 : Int)) then (bif (ct == (0 : Int)) then ((qn_rc k s sg bg NA NU ME BA ct) && (bif (decide ((qn_rv k s sg bg NA NU ME BA ct) ≤ (24 : Int))) then ((qf_rc k s sg bg NA NU ME BA ct) && true) else true)) else true) else true) else true) else true) else true) else true) else true) else (bif (qg_v k s sg bg NA NU ME BA ct) then ((qn_rc k s sg bg NA NU ME BA ct) && (bif (decide ((qn_rv k s sg bg NA NU ME BA ct) ≤ (24 : Int))) then ((qf_rc k s sg bg NA NU ME BA ct) && true) else true)) else true)))) else (bif (k == (4 : Int)) then ((qc_c k s sg bg NA NU ME BA ct) && (bif (k == (2 : Int)) then (bif (qc_v k s sg bg NA NU ME BA ct) then (bif (qbo_v k s sg bg NA NU ME BA ct) then (bif ((NA.length : Int) == (0 : Int)) then (bif ((NU.length : Int) == (0 : Int)) then (bif ((ME.length : Int) == (0 : Int)) then (bif ((BA.length : Int) == (0 : Int)) then (bif (ct == (0 : Int)) then ((qn_rc k s sg bg NA NU ME BA ct) && (bif (decide ((qn_rv k s sg bg NA NU ME BA ct) ≤ (24 : Int))) then ((qf_rc k s sg bg NA NU ME BA ct) && true) else true)) else true) else true) else true) else true) else true) else true) else true) else (bif (k == (6 : Int)) then (bif (qc_v k s sg bg NA NU ME BA ct) then (bif (qbo_v k s sg bg NA NU ME BA ct) then (bif ((NA.length : Int) == (0 : Int)) then (bif ((NU.length : Int) == (0 : Int)) then (bif ((ME.length : Int) == (0 : Int)) then (bif ((BA.length : Int) == (0 : Int)) then (bif (ct == (0 : Int)) then ((qn_rc k s sg bg NA NU ME BA ct) && (bif (decide ((qn_rv k s sg bg NA NU ME BA ct) ≤ (24 : Int))) then ((qf_rc k s sg bg NA NU ME BA ct) && true) else true)) else true) else true) else true) else true) else true) else true) else true) else (bif (qc_v k s sg bg NA NU ME BA ct) then ((qn_rc k s sg bg NA NU ME BA ct) && (bif (decide ((qn_rv k s sg bg NA NU ME BA ct) ≤ (24 : Int))) then ((qf_rc k s sg bg NA NU ME BA ct) && true) else true)) else true)))) else (bif (k == (5 : Int)) then ((qbu_c k s sg bg NA NU ME BA ct) && (bif (k == (2 : Int)) then (bif (qbu_v k s sg bg NA NU ME BA ct) then (bif (qbo_v k s sg bg NA NU ME BA ct) then (bif ((NA.length : Int) == (0 : Int)) then (bif ((NU.length : Int) == (0 : Int)) then (bif ((ME.length : Int) == (0 : Int)) then (bif ((BA.length : Int) == (0 : Int)) then (bif (ct == (0 : Int)) then ((qn_rc k s sg bg NA NU ME BA ct) && (bif (decide ((qn_rv k s sg bg NA NU ME BA ct) ≤ (24 : Int))) then ((qf_rc k s sg bg NA NU ME BA ct) && true) else true)) else true) else true) else true) else true) else true) else true) else true) else (bif (k == (6 : Int)) then (bif (qbu_v k s sg bg NA NU ME BA ct) then (bif (qbo_v k s sg bg NA NU ME BA ct) then (bif ((NA.length : Int) == (0 : Int)) then (bif ((NU.length : Int) == (0 : Int)) then (bif ((ME.length : Int) == (0 : Int)) then (bif ((BA.length : Int) == (0 : Int)) then (bif (ct == (0 : Int)) then ((qn_rc k s sg bg NA NU ME BA ct) && (bif (decide ((qn_rv k s sg bg NA NU ME BA ct) ≤ (24 : Int))) then ((qf_rc k s sg bg NA NU ME BA ct) && true) else true)) else true) else true) else true) else true) else true) else true) else true) else (bif (qbu_v k s sg bg NA NU ME BA ct) then ((qn_rc k s sg bg NA NU ME BA ct) && (bif (decide ((qn_rv k s sg bg NA NU ME BA ct) ≤ (24 : Int))) then ((qf_rc k s sg bg NA NU ME BA ct) && true) else true)) else true)))) else (bif (k == (6 : Int)) then (bif (k == (2 : Int)) then (bif (s == (2 : Int)) then (bif (qbo_v k s sg bg NA NU ME BA ct) then (bif ((NA.length : Int) == (0 : Int)) then (bif ((NU.length : Int) == (0 : Int)) then (bif ((ME.length : Int) == (0 : Int)) then (bif ((BA.length : Int) == (0 : Int)) then (bif (ct == (0 : Int)) then ((qn_rc k s sg bg NA NU ME BA ct) && (bif (decide ((qn_rv k s sg bg NA NU ME BA ct) ≤ (24 : Int))) then ((qf_rc k s sg bg NA NU ME BA ct) && true) else true)) else true) else true) else true) else true) else true) else true) else true) else (bif (k == (6 : Int)) then (bif (s == (2 : Int)) then (bif (qbo_v k s sg bg NA NU ME BA ct) then (bif ((NA.length : Int) == (0 : Int)) then (bif ((NU.length : Int) == (0 : Int)) then (bif ((ME.length : Int) == (0 : Int)) then (bif ((BA.length : Int) == (0 : Int)) then (bif (ct == (0 : Int)) then ((qn_rc k s sg bg NA NU ME BA ct) && (bif (decide ((qn_rv k s sg bg NA NU ME BA ct) ≤ (24 : Int))) then ((qf_rc k s sg bg NA NU ME BA ct) && true) else true)) else true) else true) else true) else true) else true) else true) else true) else (bif (s == (2 : Int)) then ((qn_rc k s sg bg NA NU ME BA ct) && (bif (decide ((qn_rv k s sg bg NA NU ME BA ct) ≤ (24 : Int))) then ((qf_rc k s sg bg NA NU ME BA ct) && true) else true)) else true))) else (bif (k == (2 : Int)) then true else (bif (k == (6 : Int)) then true else true))))))))
noncomputable def qbf_v (k s : Int) (sg bg : Bool) (NA NU ME BA : LL) (ct : Int) : Bool := (bif (k == (1 : Int)) then (bif (k == (2 : Int)) then (bif (qcj_v k s sg bg NA NU ME BA ct) then (bif (qbo_v k s sg bg NA NU ME BA ct) then (bif ((NA.length : Int) == (0 : Int)) then (bif ((NU.length : Int) == (0 : Int)) then (bif ((ME.length : Int) == (0 : Int)) then (bif ((BA.length : Int) == (0 : Int)) then (bif (ct == (0 : Int)) then (bif (decide ((qn_rv k s sg bg NA NU ME BA ct) ≤ (24 : Int))) then (decide ((qf_rv k s sg bg NA NU ME BA ct) ≤ (3 : Int))) else false) else false) else false) else false) else false) else false) else false) else false) else (bif (k == (6 : Int)) then (bif (qcj_v k s sg bg NA NU ME BA ct) then (bif (qbo_v k s sg bg NA NU ME BA ct) then (bif ((NA.length : Int) == (0 : Int)) then (bif ((NU.length : Int) == (0 : Int)) then (bif ((ME.length : Int) == (0 : Int)) then (bif ((BA.length : Int) == (0 : Int)) then (bif (ct == (0 : Int)) then (bif (decide ((qn_rv k s sg bg NA NU ME BA ct) ≤ (24 : Int))) then (decide ((qf_rv k s sg bg NA NU ME BA ct) ≤ (3 : Int))) else false) else false) else false) else false) else false) else false) else false) else false) else (bif (qcj_v k s sg bg NA NU ME BA ct) then (bif (decide ((qn_rv k s sg bg NA NU ME BA ct) ≤ (24 : Int))) then (decide ((qf_rv k s sg bg NA NU ME BA ct) ≤ (3 : Int))) else false) else false))) else (bif (k == (2 : Int)) then (bif (k == (2 : Int)) then (bif (qcg_v s (1 : Int) (16 : Int)) then (bif (qbo_v k s sg bg NA NU ME BA ct) then (bif ((NA.length : Int) == (0 : Int)) then (bif ((NU.length : Int) == (0 : Int)) then (bif ((ME.length : Int) == (0 : Int)) then (bif ((BA.length : Int) == (0 : Int)) then (bif (ct == (0 : Int)) then (bif (decide ((qn_rv k s sg bg NA NU ME BA ct) ≤ (24 : Int))) then (decide ((qf_rv k s sg bg NA NU ME BA ct) ≤ (3 : Int))) else false) else false) else false) else false) else false) else false) else false) else false) else (bif (k == (6 : Int)) then (bif (qcg_v s (1 : Int) (16 : Int)) then (bif (qbo_v k s sg bg NA NU ME BA ct) then (bif ((NA.length : Int) == (0 : Int)) then (bif ((NU.length : Int) == (0 : Int)) then (bif ((ME.length : Int) == (0 : Int)) then (bif ((BA.length : Int) == (0 : Int)) then (bif (ct == (0 : Int)) then (bif (decide ((qn_rv k s sg bg NA NU ME BA ct) ≤ (24 : Int))) then (decide ((qf_rv k s sg bg NA NU ME BA ct) ≤ (3 : Int))) else false) else false) else false) else false) else false) else false) else false) else false) else (bif (qcg_v s (1 : Int) (16 : Int)) then (bif (decide ((qn_rv k s sg bg NA NU ME BA ct) ≤ (24 : Int))) then (decide ((qf_rv k s sg bg NA NU ME BA ct) ≤ (3 : Int))) else false) else false))) else (bif (k == (3 : Int)) then (bif (k == (2 : Int)) then (bif (qg_v k s sg bg NA NU ME BA ct) then (bif (qbo_v k s sg bg NA NU ME BA ct) then (bif ((NA.length : Int) == (0 : Int)) then (bif ((NU.length : Int) == (0 : Int)) then (bif ((ME.length : Int) == (0 : Int)) then (bif ((BA.length : Int) == (0 : Int)) then (bif (ct == (0 : Int)) then (bif (decide ((qn_rv k s sg bg NA NU ME BA ct) ≤ (24 : Int))) then (decide ((qf_rv k s sg bg NA NU ME BA ct) ≤ (3 : Int))) else false) else false) else false) else false) else false) else false) else false) else false) else (bif (k == (6 : Int)) then (bif (qg_v k s sg bg NA NU ME BA ct) then (bif (qbo_v k s sg bg NA NU ME BA ct) then (bif ((NA.length : Int) == (0 : Int)) then (bif ((NU.length : Int) == (0 : Int)) then (bif ((ME.length : Int) == (0 : Int)) then (bif ((BA.length : Int) == (0 : Int)) then (bif (ct == (0 : Int)) then (bif (decide ((qn_rv k s sg bg NA NU ME BA ct) ≤ (24 : Int))) then (decide ((qf_rv k s sg bg NA NU ME BA ct) ≤ (3 : Int))) else false) else false) else false) else false) else false) else false) else false) else false) else (bif (qg_v k s sg bg NA NU ME BA ct) then (bif (decide ((qn_rv k s sg bg NA NU ME BA ct) ≤ (24 : Int))) then (decide ((qf_rv k s sg bg NA NU ME BA ct) ≤ (3 : Int))) else false) else false))) else (bif (k == (4 : Int)) then (bif (k == (2 : Int)) then (bif (qc_v k s sg bg NA NU ME BA ct) then (bif (qbo_v k s sg bg NA NU ME BA ct) then (bif ((NA.length : Int) == (0 : Int)) then (bif ((NU.length : Int) == (0 : Int)) then (bif ((ME.length : Int) == (0 : Int)) then (bif ((BA.length : Int) == (0 : Int)) then (bif (ct == (0 : Int)) then (bif (decide ((qn_rv k s sg bg NA NU ME BA ct) ≤ (24 : Int))) then (decide ((qf_rv k s sg bg NA NU ME BA ct) ≤ (3 : Int))) else false) else false) else false) else false) else false) else false) else false) else false) else (bif (k == (6 : Int)) then (bif (qc_v k s sg bg NA NU ME BA ct) then (bif (qbo_v k s sg bg NA NU ME BA ct) then (bif ((NA.length : Int) == (0 : Int)) then (bif ((NU.length : Int) == (0 : Int)) then (bif ((ME.length : Int) == (0 : Int)) then (bif ((BA.length : Int) == (0 : Int)) then (bif (ct == (0 : Int)) then (bif (decide ((qn_rv k s sg bg NA NU ME BA ct) ≤ (24 : Int))) then (decide ((qf_rv k s sg bg NA NU ME BA ct) ≤ (3 : Int))) else false) else false) else false) else false) else false) else false) else false) else false) else (bif (qc_v k s sg bg NA NU ME BA ct) then (bif (decide ((qn_rv k s sg bg NA NU ME BA ct) ≤ (24 : Int))) then (decide ((qf_rv k s sg bg NA NU ME BA ct) ≤ (3 : Int))) else false) else false))) else (bif (k == (5 : Int)) then (bif (k == (2 : Int)) then (bif (qbu_v k s sg bg NA NU ME BA ct) then (bif (qbo_v k s sg bg NA NU ME BA ct) then (bif ((NA.length : Int) == (0 : Int)) then (bif ((NU.length : Int) == (0 : Int)) then (bif ((ME.length : Int) == (0 : Int)) then (bif ((BA.length : Int) == (0 : Int)) then (bif (ct == (0 : Int)) then (bif (decide ((qn_rv k s sg bg NA NU ME BA ct) ≤ (24 : Int))) then (decide ((qf_rv k s sg bg NA NU ME BA ct) ≤ (3 : Int))) else false) else false) else false) else false) else false) else false) else false) else false) else (bif (k == (6 : Int)) then (bif (qbu_v k s sg bg NA NU ME BA ct) then (bif (qbo_v k s sg bg NA NU ME BA ct) then (bif ((NA.length : Int) == (0 : Int)) then (bif ((NU.length : Int) == (0 : Int)) then (bif ((ME.length : Int) == (0 : Int)) then (bif ((BA.length : Int) == (0 : Int)) then (bif (ct == (0 : Int)) then (bif (decide ((qn_rv k s sg bg NA NU ME BA ct) ≤ (24 : Int))) then (decide ((qf_rv k s sg bg NA NU ME BA ct) ≤ (3 : Int))) else false) else false) else false) else false) else false) else false) else false) else false) else (bif (qbu_v k s sg bg NA NU ME BA ct) then (bif (decide ((qn_rv k s sg bg NA NU ME BA ct) ≤ (24 : Int))) then (decide ((qf_rv k s sg bg NA NU ME BA ct) ≤ (3 : Int))) else false) else false))) else (bif (k == (6 : Int)) then (bif (k == (2 : Int)) then (bif (s == (2 : Int)) then (bif (qbo_v k s sg bg NA NU ME BA ct) then (bif ((NA.length : Int) == (0 : Int)) then (bif ((NU.length : Int) == (0 : Int)) then (bif ((ME.length : Int) == (0 : Int)) then (bif ((BA.length : Int) == (0 : Int)) then (bif (ct == (0 : Int)) then (bif (decide ((qn_rv k s sg bg NA NU ME BA ct) ≤ (24 : Int))) then (decide ((qf_rv k s sg bg NA NU ME BA ct) ≤ (3 : Int))) else false) else false) else false) else false) else false) else false) else false) else false) else (bif (k == (6 : Int)) then (bif (s == (2 : Int)) then (bif (qbo_v k s sg bg NA NU ME BA ct) then (bif ((NA.length : Int) == (0 : Int)) then (bif ((NU.length : Int) == (0 : Int)) then (bif ((ME.length : Int) == (0 : Int)) then (bif ((BA.length : Int) == (0 : Int)) then (bif (ct == (0 : Int)) then (bif (decide ((qn_rv k s sg bg NA NU ME BA ct) ≤ (24 : Int))) then (decide ((qf_rv k s sg bg NA NU ME BA ct) ≤ (3 : Int))) else false) else false) else false) else false) else false) else false) else false) else false) else (bif (s == (2 : Int)) then (bif (decide ((qn_rv k s sg bg NA NU ME BA ct) ≤ (24 : Int))) then (decide ((qf_rv k s sg bg NA NU ME BA ct) ≤ (3 : Int))) else false) else false))) else (bif (k == (2 : Int)) then false else (bif (k == (6 : Int)) then false else false))))))))
theorem qbf_l (k s : Int) (sg bg : Bool) (NA NU ME BA : LL) (ct : Int) : (qbf_c k s sg bg NA NU ME BA ct) = true → (qbf_t k s sg bg NA NU ME BA ct).val = some (qbf_v k s sg bg NA NU ME BA ct) := by
  unfold qbf_t qbf_v qbf_c
  exact fun h => (Tr.ss h (fun h => (Tr.ss h (fun h => (Tr.ss h (fun h => (Tr.ss h (fun h => (Tr.ss h (fun h => (Tr.ss h (fun h => (Tr.ss h (fun h => (Tr.ss h (fun h => (Tr.ss h (fun h => (Tr.gb h fun h => (Tr.ss h (fun h => (Tr.gb h fun h => rfl)) (fun h => rfl)))) (fun h => rfl))) (fun h => rfl))) (fun h => rfl))) (fun h => rfl))) (fun h => rfl))) (fun h => rfl))) (fun h => rfl))) (fun h => (Tr.ss h (fun h => (Tr.ss h (fun h => (Tr.ss h (fun h => (Tr.ss h (fun h => (Tr.ss h (fun h => (Tr.ss h (fun h => (Tr.ss h (fun h => (Tr.ss h (fun h => (Tr.gb h fun h => (Tr.ss h (fun h => (Tr.gb h fun h => rfl)) (fun h => rfl)))) (fun h => rfl))) (fun h => rfl))) (fun h => rfl))) (fun h => rfl))) (fun h => rfl))) (fun h => rfl))) (fun h => rfl))) (fun h => (Tr.ss h (fun h => (Tr.gb h fun h => (Tr.ss h (fun h => (Tr.gb h fun h => rfl)) (fun h => rfl)))) (fun h => rfl))))))) (fun h => (Tr.ss h (fun h => (Tr.ss h (fun h => (Tr.ss h (fun h => (Tr.ss h (fun h => (Tr.ss h (fun h => (Tr.ss h (fun h => (Tr.ss h (fun h => (Tr.ss h (fun h => (Tr.ss h (fun h => (Tr.gb h fun h => (Tr.ss h (fun h => (Tr.gb h fun h => rfl)) (fun h => rfl)))) (fun h => rfl))) (fun h => rfl))) (fun h => rfl))) (fun h => rfl))) (fun h => rfl))) (fun h => rfl))) (fun h => rfl))) (fun h => (Tr.ss h (fun h => (Tr.ss h (fun h => (Tr.ss h (fun h => (Tr.ss h (fun h => (Tr.ss h (fun h => (Tr.ss h (fun h => (Tr.ss h (fun h => (Tr.ss h (fun h => (Tr.gb h fun h => (Tr.ss h (fun h => (Tr.gb h fun h => rfl)) (fun h => rfl)))) (fun h => rfl))) (fun h => rfl))) (fun h => rfl))) (fun h => rfl))) (fun h => rfl))) (fun h => rfl))) (fun h => rfl))) (fun h => (Tr.ss h (fun h => (Tr.gb h fun h => (Tr.ss h (fun h => (Tr.gb h fun h => rfl)) (fun h => rfl)))) (fun h => rfl))))))) (fun h => (Tr.ss h (fun h => (Tr.gb h fun h => (Tr.ss h (fun h => (Tr.ss h (fun h => (Tr.ss h (fun h => (Tr.ss h (fun h => (Tr.ss h (fun h => (Tr.ss h (fun h => (Tr.ss h (fun h => (Tr.ss h (fun h => (Tr.gb h fun h => (Tr.ss h (fun h => (Tr.gb h fun h => rfl)) (fun h => rfl)))) (fun h => rfl))) (fun h => rfl))) (fun h => rfl))) (fun h => rfl))) (fun h => rfl))) (fun h => rfl))) (fun h => rfl))) (fun h => (Tr.ss h (fun h => (Tr.ss h (fun h => (Tr.ss h (fun h => (Tr.ss h (fun h => (Tr.ss h (fun h => (Tr.ss h (fun h => (Tr.ss h (fun h => (Tr.ss h (fun h => (Tr.gb h fun h => (Tr.ss h (fun h => (Tr.gb h fun h => rfl)) (fun h => rfl)))) (fun h => rfl))) (fun h => rfl))) (fun h => rfl))) (fun h => rfl))) (fun h => rfl))) (fun h => rfl))) (fun h => rfl))) (fun h => (Tr.ss h (fun h => (Tr.gb h fun h => (Tr.ss h (fun h => (Tr.gb h fun h => rfl)) (fun h => rfl)))) (fun h => rfl)))))))) (fun h => (Tr.ss h (fun h => (Tr.gb h fun h => (Tr.ss h (fun h => (Tr.ss h (fun h => (Tr.ss h (fun h => (Tr.ss h (fun h => (Tr.ss h (fun h => (Tr.ss h (fun h => (Tr.ss h (fun h => (Tr.ss h (fun h => (Tr.gb h fun h => (Tr.ss h (fun h => (Tr.gb h fun h => rfl)) (fun h => rfl)))) (fun h => rfl))) (fun h => rfl))) (fun h => rfl))) (fun h => rfl))) (fun h => rfl))) (fun h => rfl))) (fun h => rfl))) (fun h => (Tr.ss h (fun h => (Tr.ss h (fun h => (Tr.ss h (fun h => (Tr.ss h (fun h => (Tr.ss h (fun h => (Tr.ss h (fun h => (Tr.ss h (fun h => (Tr.ss h (fun h => (Tr.gb h fun h => (Tr.ss h (fun h => (Tr.gb h fun h => rfl)) (fun h => rfl)))) (fun h => rfl))) (fun h => rfl))) (fun h => rfl))) (fun h => rfl))) (fun h => rfl))) (fun h => rfl))) (fun h => rfl))) (fun h => (Tr.ss h (fun h => (Tr.gb h fun h => (Tr.ss h (fun h => (Tr.gb h fun h => rfl)) (fun h => rfl)))) (fun h => rfl)))))))) (fun h => (Tr.ss h (fun h => (Tr.gb h fun h => (Tr.ss h (fun h => (Tr.ss h (fun h => (Tr.ss h (fun h => (Tr.ss h (fun h => (Tr.ss h (fun h => (Tr.ss h (fun h => (Tr.ss h (fun h => (Tr.ss h (fun h => (Tr.gb h fun h => (Tr.ss h (fun h => (Tr.gb h fun h => rfl)) (fun h => rfl)))) (fun h => rfl))) (fun h => rfl))) (fun h => rfl))) (fun h => rfl))) (fun h => rfl))) (fun h => rfl))) (fun h => rfl))) (fun h => (Tr.ss h (fun h => (Tr.ss h (fun h => (Tr.ss h (fun h => (Tr.ss h (fun h => (Tr.ss h (fun h => (Tr.ss h (fun h => (Tr.ss h (fun h => (Tr.ss h (fun h => (Tr.gb h fun h => (Tr.ss h (fun h => (Tr.gb h fun h => rfl)) (fun h => rfl)))) (fun h => rfl))) (fun h => rfl))) (fun h => rfl))) (fun h => rfl))) (fun h => rfl))) (fun h => rfl))) (fun h => rfl))) (fun h => (Tr.ss h (fun h => (Tr.gb h fun h => (Tr.ss h (fun h => (Tr.gb h fun h => rfl)) (fun h => rfl)))) (fun h => rfl)))))))) (fun h => (Tr.ss h (fun h => (Tr.ss h (fun h => (Tr.ss h (fun h => (Tr.ss h (fun h => (Tr.ss h (fun h => (Tr.ss h (fun h => (Tr.ss h (fun h => (Tr.ss h (fun h => (Tr.ss h (fun h => (Tr.gb h fun h => (Tr.ss h (fun h => (Tr.gb h fun h => rfl)) (fun h => rfl)))) (fun h => rfl))) (fun h => rfl))) (fun h => rfl))) (fun h => rfl))) (fun h => rfl))) (fun h => rfl))) (fun h => rfl))) (fun h => (Tr.ss h (fun h => (Tr.ss h (fun h => (Tr.ss h (fun h => (Tr.ss h (fun h => (Tr.ss h (fun h => (Tr.ss h (fun h => (Tr.ss h (fun h => (Tr.ss h (fun h => (Tr.gb h fun h => (Tr.ss h (fun h => (Tr.gb h fun h => rfl)) (fun h => rfl)))) (fun h => rfl))) (fun h => rfl))) (fun h => rfl))) (fun h => rfl))) (fun h => rfl))) (fun h => rfl))) (fun h => rfl))) (fun h => (Tr.ss h (fun h => (Tr.gb h fun h => (Tr.ss h (fun h => (Tr.gb h fun h => rfl)) (fun h => rfl)))) (fun h => rfl))))))) (fun h => (Tr.ss h (fun h => rfl) (fun h => (Tr.ss h (fun h => rfl) (fun h => rfl))))))))))))))))
noncomputable def qbf_S : List Arg → Option (Bool × Res) := fun xs => match xs with
  | [(true, [(.int .i64, TC.i k), (.int .i64, TC.i s), (.bool, TC.b sg), (.bool, TC.b bg), (.slice 9, TC.l NA), (.slice 2, TC.l NU), (.slice 71, TC.l ME), (.slice 32, TC.l BA), (.int .i64, TC.i ct)])] => some ((qbf_c k s sg bg NA NU ME BA ct), qbf_mk (qbf_v k s sg bg NA NU ME BA ct))
  | _ => .none
theorem qbf_e (k s : Int) (sg bg : Bool) (NA NU ME BA : LL) (ct : Int) : runF tab FT D26 live 30 noLoops [(true, [(.int .i64, TC.i k), (.int .i64, TC.i s), (.bool, TC.b sg), (.bool, TC.b bg), (.slice 9, TC.l NA), (.slice 2, TC.l NU), (.slice 71, TC.l ME), (.slice 32, TC.l BA), (.int .i64, TC.i ct)])] = (qbf_t k s sg bg NA NU ME BA ct).run fun p => some (qbf_mk p) := by kernel_rfl
theorem qbf_s : ∀ xs r, qbf_S xs = some (true, r) → runF tab FT D26 live 30 noLoops xs = some r := by
  intro xs r h
  unfold qbf_S at h
  split at h
  · simp only [Option.some.injEq, Prod.mk.injEq] at h
    obtain ⟨h1, rfl⟩ := h
    exact fun_told (qbf_e _ _ _ _ _ _ _ _ _) (qbf_l _ _ _ _ _ _ _ _ _) h1
  · cases h
theorem qbf_nx (k s : Int) (sg bg : Bool) (NA NU ME BA : LL) (ct : Int) : is (max (rowsDep ME) (rowsDep BA) < qbf_O.n + 1 ∧ max (rowsDep ME) (rowsDep BA) < qn_O.n ∧ max (rowsDep ME) (rowsDep BA) < qf_O.n ∧ Typed tab (.slice 9) (.l NA) ∧ Typed tab (.slice 2) (.l NU) ∧ Typed tab (.slice 71) (.l ME) ∧ Typed tab (.slice 32) (.l BA)) = true → (qbf_c k s sg bg NA NU ME BA ct) = true ∧ (qbf_v k s sg bg NA NU ME BA ct) = okV k s sg bg NA NU ME BA ct := by
  intro h
  obtain ⟨hM, hZ, hY, t4, t5, t6, t7⟩ := is_iff.1 h
  have hS : sizeC k BA = true → qn_rc k s sg bg NA NU ME BA ct = true := fun c => is_true ⟨by omega, c⟩
  have hD : depthC k ME BA = true → qf_rc k s sg bg NA NU ME BA ct = true := fun c => is_true ⟨by omega, c, t6, t7⟩
  have hmem : ∀ x, x ∈ ME → qbf_rc (nth x 2).int (nth x 3).int (nth x 4).bool (nth x 5).bool (nth x 6).list (nth x 7).list (nth x 8).list (nth x 9).list (nth x 10).int = true := fun x hx => by
    have := dep_max (BA := BA) hx 8 9
    exact is_true ⟨by omega, by omega, by omega, typed_list ((typed_elem t6 hx).2 6 (by decide)), typed_list ((typed_elem t6 hx).2 7 (by decide)), typed_list ((typed_elem t6 hx).2 8 (by decide)), typed_list ((typed_elem t6 hx).2 9 (by decide))⟩
  have hmz : ∀ x, x ∈ ME → (!(qbf_rv (nth x 2).int (nth x 3).int (nth x 4).bool (nth x 5).bool (nth x 6).list (nth x 7).list (nth x 8).list (nth x 9).list (nth x 10).int)) = false → qn_rc (nth x 2).int (nth x 3).int (nth x 4).bool (nth x 5).bool (nth x 6).list (nth x 7).list (nth x 8).list (nth x 9).list (nth x 10).int = true := fun x hx hk => by
    have := dep_max (BA := BA) hx 8 9
    have hk : qbf_rv (nth x 2).int (nth x 3).int (nth x 4).bool (nth x 5).bool (nth x 6).list (nth x 7).list (nth x 8).list (nth x 9).list (nth x 10).int = true := by simpa using hk
    have hk : okV (nth x 2).int (nth x 3).int (nth x 4).bool (nth x 5).bool (nth x 6).list (nth x 7).list (nth x 8).list (nth x 9).list (nth x 10).int = true := hk
    exact is_true ⟨by omega, okV_size hk⟩
  have hbase : 0 < BA.length → qbf_rc (nth (row BA (0 : Int)) 0).int (nth (row BA (0 : Int)) 1).int (nth (row BA (0 : Int)) 2).bool (nth (row BA (0 : Int)) 3).bool (nth (row BA (0 : Int)) 4).list (nth (row BA (0 : Int)) 5).list (nth (row BA (0 : Int)) 6).list (nth (row BA (0 : Int)) 7).list (nth (row BA (0 : Int)) 8).int = true := fun hb => by
    have := dep_base (ME := ME) hb 6 7
    exact is_true ⟨by omega, by omega, by omega, typed_list ((typed_elem t7 (mem_getD (i := 0) hb)).2 4 (by decide)), typed_list ((typed_elem t7 (mem_getD (i := 0) hb)).2 5 (by decide)), typed_list ((typed_elem t7 (mem_getD (i := 0) hb)).2 6 (by decide)), typed_list ((typed_elem t7 (mem_getD (i := 0) hb)).2 7 (by decide))⟩
  rw [okV, attach_okV]
  unfold qbf_c qbf_v
  rw [qg_cc t4, qc_cc t6 hmem hmz, qbu_cc hbase, qg_vv, qc_vv, qbu_vv, show qbo_v k s sg bg NA NU ME BA ct = plain sg bg from by unfold qbo_v plain; cases sg <;> cases bg <;> rfl, show qcj_v k s sg bg NA NU ME BA ct = intV s sg bg NA NU ME BA ct from rfl, show qcg_v s 1 16 = inB s 1 16 from rfl, show qn_rv k s sg bg NA NU ME BA ct = sizeV k s BA ct from rfl, show qf_rv k s sg bg NA NU ME BA ct = depthV k ME BA from rfl]
  by_cases k1 : k = 1
  · subst k1
    rw [hS (by rw [sizeC]; rfl), hD (by rw [depthC]; rfl)]
    simp only [Int.reduceBEq, cond_true, cond_false, Bool.true_and, Bool.and_true, bif_same, bif_ft, Bool.and_assoc, and_self]
  by_cases k2 : k = 2
  · subst k2
    rw [hS (by rw [sizeC]; rfl), hD (by rw [depthC]; rfl)]
    simp only [Int.reduceBEq, cond_true, cond_false, Bool.true_and, Bool.and_true, bif_same, bif_ft, Bool.and_assoc, and_self, bareV, empt]
  by_cases k6 : k = 6
  · subst k6
    rw [hS (by rw [sizeC]; rfl), hD (by rw [depthC]; rfl)]
    simp only [Int.reduceBEq, cond_true, cond_false, Bool.true_and, Bool.and_true, bif_same, bif_ft, Bool.and_assoc, and_self, bareV, empt]
  by_cases k3 : k = 3
  · subst k3
    rw [hD (by rw [depthC]; rfl)]
    simp only [Int.reduceBEq, cond_true, cond_false, Bool.true_and, Bool.and_true, bif_same, bif_ft, Bool.and_assoc]
    cases hf : enumV s sg bg NA NU ME BA ct with
    | false => exact ⟨rfl, trivial⟩
    | true =>
      have h1 : (BA.length : Int) = 1 := by
        simp only [enumV, Bool.and_eq_true] at hf
        simpa using hf.2.2.2.2.1
      rw [hS (by rw [sizeC]; exact decide_eq_true (by omega))]
      exact ⟨rfl, trivial⟩
  by_cases k4 : k = 4
  · subst k4
    rw [hS (by rw [sizeC]; rfl)]
    simp only [Int.reduceBEq, cond_true, cond_false, Bool.true_and, Bool.and_true, bif_same, bif_ft]
    cases hf : (compS s sg bg NA NU ME BA ct && ((allI (memP ME) ME.length && ME.all fun x => okV (nth x 2).int (nth x 3).int (nth x 4).bool (nth x 5).bool (nth x 6).list (nth x 7).list (nth x 8).list (nth x 9).list (nth x 10).int) && decide (endAt ME ME.length ≤ s))) with
    | false => exact ⟨rfl, trivial⟩
    | true =>
      simp only [Bool.and_eq_true, List.all_eq_true] at hf
      rw [hD (by
        rw [depthC]
        show (ME.attach.all fun x => depthC (nth x.1 2).int (nth x.1 8).list (nth x.1 9).list) = true
        rw [List.all_eq_true]
        exact fun x _ => okV_depth (hf.2.1.2 x.1 x.2))]
      exact ⟨bif_same, trivial⟩
  by_cases k5 : k = 5
  · subst k5
    simp only [Int.reduceBEq, cond_true, cond_false, Bool.true_and, Bool.and_true, bif_same, bif_ft]
    cases hf : (arrS s sg bg NA NU ME BA ct && (if h : 0 < BA.length then okV (nth (row BA (0 : Int)) 0).int (nth (row BA (0 : Int)) 1).int (nth (row BA (0 : Int)) 2).bool (nth (row BA (0 : Int)) 3).bool (nth (row BA (0 : Int)) 4).list (nth (row BA (0 : Int)) 5).list (nth (row BA (0 : Int)) 6).list (nth (row BA (0 : Int)) 7).list (nth (row BA (0 : Int)) 8).int else false)) with
    | false => exact ⟨rfl, trivial⟩
    | true =>
      rw [Bool.and_eq_true] at hf
      have hf := hf.2
      split at hf
      · rename_i hb
        rw [hS (by
          rw [sizeC]
          show (if h : 0 < BA.length then sizeC (nth (row BA (0 : Int)) 0).int (nth (row BA (0 : Int)) 7).list else false) = true
          rw [dif_pos hb]; exact okV_size hf), hD (by
          rw [depthC]
          show (if h : 0 < BA.length then depthC (nth (row BA (0 : Int)) 0).int (nth (row BA (0 : Int)) 6).list (nth (row BA (0 : Int)) 7).list else false) = true
          rw [dif_pos hb]; exact okV_depth hf)]
        exact ⟨bif_same, trivial⟩
      · cases hf
  have e1 : (k == 1) = false := by simpa using k1
  have e2 : (k == 2) = false := by simpa using k2
  have e3 : (k == 3) = false := by simpa using k3
  have e4 : (k == 4) = false := by simpa using k4
  have e5 : (k == 5) = false := by simpa using k5
  have e6 : (k == 6) = false := by simpa using k6
  simp only [e1, e2, e3, e4, e5, e6, cond_false, Bool.false_and, and_self]
theorem qbf_nxr (k s : Int) (sg bg : Bool) (NA NU ME BA : LL) (ct : Int) : qbf_rc (i_spec_l02Ok := ⟨qbf_O.n + 1⟩) k s sg bg NA NU ME BA ct = true → (qbf_c k s sg bg NA NU ME BA ct) = true ∧ (qbf_v k s sg bg NA NU ME BA ct) = (qbf_rv k s sg bg NA NU ME BA ct) := fun h => qbf_nx k s sg bg NA NU ME BA ct h
theorem qbf_rs : ∀ xs r, qbf_rS (i_spec_l02Ok := ⟨qbf_O.n + 1⟩) xs = some (true, r) → runF tab FT D26 live 30 noLoops xs = some r := by
  intro xs r h
  unfold qbf_rS at h
  split at h
  · simp only [Option.some.injEq, Prod.mk.injEq] at h
    obtain ⟨h1, rfl⟩ := h
    have hx := qbf_nxr _ _ _ _ _ _ _ _ _ h1
    have ht := fun_told (qbf_e _ _ _ _ _ _ _ _ _) (qbf_l _ _ _ _ _ _ _ _ _) hx.1
    rw [hx.2] at ht
    exact ht
  · cases h
theorem qbf_step : qbf_G (i_spec_l02Ok := ⟨qbf_O.n + 1⟩) := by
  have h := DOk.also2 (S := qbf_rS (i_spec_l02Ok := ⟨qbf_O.n + 1⟩)) mixed_ok tab_ok names_ok d23 d26 noLoops_ok qbf_rs
  refine qbf_G.mk (i_spec_l02Ok := ⟨qbf_O.n + 1⟩) ?_
  exact h
noncomputable def qbj_t (a0 a1 : Int) (a2 a3 : Bool) (a4 a5 a6 a7 : LL) (a8 : Int) : Tr (Int × Int × Bool × Bool × LL × LL × LL × LL × Int × Bool) := (.ite ((a0 == (1 : Int)) = true) (.ok (a0, a1, a2, a3, a4, a5, a6, a7, a8, true))
  (.ite ((a0 == (3 : Int)) = true) (.ite ((0 : Int) ≤ (0 : Int) ∧ (0 : Int) < (a7.length : Int)) (.ok ((nth (row a7 (0 : Int)) 0).int, (nth (row a7 (0 : Int)) 1).int, (nth (row a7 (0 : Int)) 2).bool, (nth (row a7 (0 : Int)) 3).bool, (nth (row a7 (0 : Int)) 4).list, (nth (row a7 (0 : Int)) 5).list, (nth (row a7 (0 : Int)) 6).list, (nth (row a7 (0 : Int)) 7).list, (nth (row a7 (0 : Int)) 8).int, true))
    .no)
   (.ite ((a0 == (6 : Int)) = true) (.ok ((1 : Int), (2 : Int), false, false, [], [], [], [], (0 : Int), true))
    (.ok ((0 : Int), (0 : Int), false, false, [], [], [], [], (0 : Int), false)))))
def qbj_mk (p : Int × Int × Bool × Bool × LL × LL × LL × LL × Int × Bool) : Res := [(true, [⟨.int .i64, .sh, TC.i (p.1)⟩, ⟨.int .i64, .sh, TC.i (p.2.1)⟩, ⟨.bool, .sh, TC.b (p.2.2.1)⟩, ⟨.bool, .sh, TC.b (p.2.2.2.1)⟩, ⟨.slice 9, .sh, TC.l (p.2.2.2.2.1)⟩, ⟨.slice 2, .sh, TC.l (p.2.2.2.2.2.1)⟩, ⟨.slice 71, .sh, TC.l (p.2.2.2.2.2.2.1)⟩, ⟨.slice 32, .sh, TC.l (p.2.2.2.2.2.2.2.1)⟩, ⟨.int .i64, .sh, TC.i (p.2.2.2.2.2.2.2.2.1)⟩]), (false, [⟨.bool, .sh, TC.b (p.2.2.2.2.2.2.2.2.2)⟩])]
noncomputable def qbj_c (a0 a1 : Int) (a2 a3 : Bool) (a4 a5 a6 a7 : LL) (a8 : Int) : Bool := (bif (a0 == (1 : Int)) then true else (bif (a0 == (3 : Int)) then (is ((0 : Int) ≤ (0 : Int) ∧ (0 : Int) < (a7.length : Int)) && true) else (bif (a0 == (6 : Int)) then true else true)))
noncomputable def qbj_v (a0 a1 : Int) (a2 a3 : Bool) (a4 a5 a6 a7 : LL) (a8 : Int) : Int × Int × Bool × Bool × LL × LL × LL × LL × Int × Bool := (bif (a0 == (1 : Int)) then (a0, a1, a2, a3, a4, a5, a6, a7, a8, true) else (bif (a0 == (3 : Int)) then ((nth (row a7 (0 : Int)) 0).int, (nth (row a7 (0 : Int)) 1).int, (nth (row a7 (0 : Int)) 2).bool, (nth (row a7 (0 : Int)) 3).bool, (nth (row a7 (0 : Int)) 4).list, (nth (row a7 (0 : Int)) 5).list, (nth (row a7 (0 : Int)) 6).list, (nth (row a7 (0 : Int)) 7).list, (nth (row a7 (0 : Int)) 8).int, true) else (bif (a0 == (6 : Int)) then ((1 : Int), (2 : Int), false, false, [], [], [], [], (0 : Int), true) else ((0 : Int), (0 : Int), false, false, [], [], [], [], (0 : Int), false))))
theorem qbj_l (a0 a1 : Int) (a2 a3 : Bool) (a4 a5 a6 a7 : LL) (a8 : Int) : (qbj_c a0 a1 a2 a3 a4 a5 a6 a7 a8) = true → (qbj_t a0 a1 a2 a3 a4 a5 a6 a7 a8).val = some (qbj_v a0 a1 a2 a3 a4 a5 a6 a7 a8) := by
  unfold qbj_t qbj_v qbj_c
  exact fun h => (Tr.ss h (fun h => rfl) (fun h => (Tr.ss h (fun h => (Tr.gs h fun h => rfl)) (fun h => (Tr.ss h (fun h => rfl) (fun h => rfl))))))
noncomputable def qbj_S : List Arg → Option (Bool × Res) := fun xs => match xs with
  | [(true, [(.int .i64, TC.i a0), (.int .i64, TC.i a1), (.bool, TC.b a2), (.bool, TC.b a3), (.slice 9, TC.l a4), (.slice 2, TC.l a5), (.slice 71, TC.l a6), (.slice 32, TC.l a7), (.int .i64, TC.i a8)])] => some ((qbj_c a0 a1 a2 a3 a4 a5 a6 a7 a8), qbj_mk (qbj_v a0 a1 a2 a3 a4 a5 a6 a7 a8))
  | _ => .none
theorem qbj_e (a0 a1 : Int) (a2 a3 : Bool) (a4 a5 a6 a7 : LL) (a8 : Int) : runF tab FT D26 live 54 noLoops [(true, [(.int .i64, TC.i a0), (.int .i64, TC.i a1), (.bool, TC.b a2), (.bool, TC.b a3), (.slice 9, TC.l a4), (.slice 2, TC.l a5), (.slice 71, TC.l a6), (.slice 32, TC.l a7), (.int .i64, TC.i a8)])] = (qbj_t a0 a1 a2 a3 a4 a5 a6 a7 a8).run fun p => some (qbj_mk p) := by kernel_rfl
theorem qbj_s : ∀ xs r, qbj_S xs = some (true, r) → runF tab FT D26 live 54 noLoops xs = some r := by
  intro xs r h
  unfold qbj_S at h
  split at h
  · simp only [Option.some.injEq, Prod.mk.injEq] at h
    obtain ⟨h1, rfl⟩ := h
    exact fun_told (qbj_e _ _ _ _ _ _ _ _ _) (qbj_l _ _ _ _ _ _ _ _ _) h1
  · cases h
noncomputable def D27 : Dt := also D26 54 qbj_S
theorem d27 : DOk Go.Proofs.Try.prog tab D27 := d26.also mixed_ok tab_ok names_ok noLoops_ok qbj_s
noncomputable def qbz_t (k s : Int) (sg bg : Bool) (NA NU ME BA : LL) (ct : Int) : Tr (Int × Int) := (.ite ((k == (3 : Int)) = true) (.ite ((0 : Int) ≤ (0 : Int) ∧ (0 : Int) < (NU.length : Int)) (.ite ((0 : Int) ≤ (IntKind.wrap .i64 ((NU.length : Int) - (1 : Int))) ∧ (IntKind.wrap .i64 ((NU.length : Int) - (1 : Int))) < (NU.length : Int)) (.ok ((nth (row NU (0 : Int)) 0).int, (nth (row NU (IntKind.wrap .i64 ((NU.length : Int) - (1 : Int)))) 0).int))
    .no)
   .no)
  (.ite ((qbj_c k s sg bg NA NU ME BA ct) = true) (.ite ((qw_c ((qbj_v k s sg bg NA NU ME BA ct).1) ((qbj_v k s sg bg NA NU ME BA ct).2.1) ((qbj_v k s sg bg NA NU ME BA ct).2.2.1) ((qbj_v k s sg bg NA NU ME BA ct).2.2.2.1) ((qbj_v k s sg bg NA NU ME BA ct).2.2.2.2.1) ((qbj_v k s sg bg NA NU ME BA ct).2.2.2.2.2.1) ((qbj_v k s sg bg NA NU ME BA ct).2.2.2.2.2.2.1) ((qbj_v k s sg bg NA NU ME BA ct).2.2.2.2.2.2.2.1) ((qbj_v k s sg bg NA NU ME BA ct).2.2.2.2.2.2.2.2.1)) = true) (.ok ((qw_v ((qbj_v k s sg bg NA NU ME BA ct).1) ((qbj_v k s sg bg NA NU ME BA ct).2.1) ((qbj_v k s sg bg NA NU ME BA ct).2.2.1) ((qbj_v k s sg bg NA NU ME BA ct).2.2.2.1) ((qbj_v k s sg bg NA NU ME BA ct).2.2.2.2.1) ((qbj_v k s sg bg NA NU ME BA ct).2.2.2.2.2.1) ((qbj_v k s sg bg NA NU ME BA ct).2.2.2.2.2.2.1) ((qbj_v k s sg bg NA NU ME BA ct).2.2.2.2.2.2.2.1) ((qbj_v k s sg bg NA NU ME BA ct).2.2.2.2.2.2.2.2.1)).1, (qw_v ((qbj_v k s sg bg NA NU ME BA ct).1) ((qbj_v k s sg bg NA NU ME BA ct).2.1) ((qbj_v k s sg bg NA NU ME BA ct).2.2.1) ((qbj_v k s sg bg NA NU ME BA ct).2.2.2.1) ((qbj_v k s sg bg NA NU ME BA ct).2.2.2.2.1) ((qbj_v k s sg bg NA NU ME BA ct).2.2.2.2.2.1) ((qbj_v k s sg bg NA NU ME BA ct).2.2.2.2.2.2.1) ((qbj_v k s sg bg NA NU ME BA ct).2.2.2.2.2.2.2.1) ((qbj_v k s sg bg NA NU ME BA ct).2.2.2.2.2.2.2.2.1)).2))
    .no)
   .no))
def qbz_mk (p : Int × Int) : Res := [(false, [⟨.int .i64, .sh, TC.i (p.1)⟩]), (false, [⟨.int .i64, .sh, TC.i (p.2)⟩])]
noncomputable def qbz_c (k s : Int) (sg bg : Bool) (NA NU ME BA : LL) (ct : Int) : Bool := (bif (k == (3 : Int)) then (is ((0 : Int) ≤ (0 : Int) ∧ (0 : Int) < (NU.length : Int)) && (is ((0 : Int) ≤ (IntKind.wrap .i64 ((NU.length : Int) - (1 : Int))) ∧ (IntKind.wrap .i64 ((NU.length : Int) - (1 : Int))) < (NU.length : Int)) && true)) else ((qbj_c k s sg bg NA NU ME BA ct) && ((qw_c ((qbj_v k s sg bg NA NU ME BA ct).1) ((qbj_v k s sg bg NA NU ME BA ct).2.1) ((qbj_v k s sg bg NA NU ME BA ct).2.2.1) ((qbj_v k s sg bg NA NU ME BA ct).2.2.2.1) ((qbj_v k s sg bg NA NU ME BA ct).2.2.2.2.1) ((qbj_v k s sg bg NA NU ME BA ct).2.2.2.2.2.1) ((qbj_v k s sg bg NA NU ME BA ct).2.2.2.2.2.2.1) ((qbj_v k s sg bg NA NU ME BA ct).2.2.2.2.2.2.2.1) ((qbj_v k s sg bg NA NU ME BA ct).2.2.2.2.2.2.2.2.1)) && true)))
noncomputable def qbz_v (k s : Int) (sg bg : Bool) (NA NU ME BA : LL) (ct : Int) : Int × Int := (bif (k == (3 : Int)) then ((nth (row NU (0 : Int)) 0).int, (nth (row NU (IntKind.wrap .i64 ((NU.length : Int) - (1 : Int)))) 0).int) else ((qw_v ((qbj_v k s sg bg NA NU ME BA ct).1) ((qbj_v k s sg bg NA NU ME BA ct).2.1) ((qbj_v k s sg bg NA NU ME BA ct).2.2.1) ((qbj_v k s sg bg NA NU ME BA ct).2.2.2.1) ((qbj_v k s sg bg NA NU ME BA ct).2.2.2.2.1) ((qbj_v k s sg bg NA NU ME BA ct).2.2.2.2.2.1) ((qbj_v k s sg bg NA NU ME BA ct).2.2.2.2.2.2.1) ((qbj_v k s sg bg NA NU ME BA ct).2.2.2.2.2.2.2.1) ((qbj_v k s sg bg NA NU ME BA ct).2.2.2.2.2.2.2.2.1)).1, (qw_v ((qbj_v k s sg bg NA NU ME BA ct).1) ((qbj_v k s sg bg NA NU ME BA ct).2.1) ((qbj_v k s sg bg NA NU ME BA ct).2.2.1) ((qbj_v k s sg bg NA NU ME BA ct).2.2.2.1) ((qbj_v k s sg bg NA NU ME BA ct).2.2.2.2.1) ((qbj_v k s sg bg NA NU ME BA ct).2.2.2.2.2.1) ((qbj_v k s sg bg NA NU ME BA ct).2.2.2.2.2.2.1) ((qbj_v k s sg bg NA NU ME BA ct).2.2.2.2.2.2.2.1) ((qbj_v k s sg bg NA NU ME BA ct).2.2.2.2.2.2.2.2.1)).2))
theorem qbz_l (k s : Int) (sg bg : Bool) (NA NU ME BA : LL) (ct : Int) : (qbz_c k s sg bg NA NU ME BA ct) = true → (qbz_t k s sg bg NA NU ME BA ct).val = some (qbz_v k s sg bg NA NU ME BA ct) := by
  unfold qbz_t qbz_v qbz_c
  exact fun h => (Tr.ss h (fun h => (Tr.gs h fun h => (Tr.gs h fun h => rfl))) (fun h => (Tr.gb h fun h => (Tr.gb h fun h => rfl))))
noncomputable def qbz_S : List Arg → Option (Bool × Res) := fun xs => match xs with
  | [(true, [(.int .i64, TC.i k), (.int .i64, TC.i s), (.bool, TC.b sg), (.bool, TC.b bg), (.slice 9, TC.l NA), (.slice 2, TC.l NU), (.slice 71, TC.l ME), (.slice 32, TC.l BA), (.int .i64, TC.i ct)])] => some ((qbz_c k s sg bg NA NU ME BA ct), qbz_mk (qbz_v k s sg bg NA NU ME BA ct))
  | _ => .none
theorem qbz_e (k s : Int) (sg bg : Bool) (NA NU ME BA : LL) (ct : Int) : runF tab FT D27 live 86 noLoops [(true, [(.int .i64, TC.i k), (.int .i64, TC.i s), (.bool, TC.b sg), (.bool, TC.b bg), (.slice 9, TC.l NA), (.slice 2, TC.l NU), (.slice 71, TC.l ME), (.slice 32, TC.l BA), (.int .i64, TC.i ct)])] = (qbz_t k s sg bg NA NU ME BA ct).run fun p => some (qbz_mk p) := by kernel_rfl
end
end
end
end
end
end Go.Proofs.Ytdcafhfnkblfkaa.V
