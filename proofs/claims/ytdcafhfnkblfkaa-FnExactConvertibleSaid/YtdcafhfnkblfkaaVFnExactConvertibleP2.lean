/- What the functions of FnExactConvertible answer. No condition. -/
import Derived.Test.YtdcafhfnkblfkaaVFnExactConvertibleP1
namespace Go.Proofs.Ytdcafhfnkblfkaa.V
open Go
set_option maxRecDepth 100000
set_option linter.unusedVariables false
set_option linter.unusedSectionVars false
set_option linter.unusedSimpArgs false
set_option maxHeartbeats 2000000
section
variable [i_laws_szType : qbh_O]
variable [g_laws_szType : qbh_G]
section
variable [i_laws_toType : qk_O]
variable [g_laws_toType : qk_G]
section
variable [i_spec_l02Size : qt_O]
variable [g_spec_l02Size : qt_G]
section
variable [i_spec_l02Depth : qi_O]
variable [g_spec_l02Depth : qi_G]
abbrev qr_4_σ := BS × Int
abbrev qr_4_ω := (Unit) ⊕ (Unit)
noncomputable def qr_4_step (s : BS) (i : Int) : Tr (qr_4_σ ⊕ qr_4_ω) := (.ite ((decide (i < (s.length : Int))) = true) (.ite ((0 : Int) ≤ i ∧ i < (s.length : Int)) (.ite ((!(qcm_v ((s.getD (i).toNat 0).toNat : Int))) = true) (.ite ((0 : Int) ≤ i ∧ i < (s.length : Int)) (.ite ((decide (((s.getD (i).toNat 0).toNat : Int) ≥ (48 : Int))) = true) (.ite ((0 : Int) ≤ i ∧ i < (s.length : Int)) (.ite ((!(decide (((s.getD (i).toNat 0).toNat : Int) ≤ (57 : Int)))) = true) (.ite ((0 : Int) ≤ i ∧ i < (s.length : Int)) (.ite ((!(((s.getD (i).toNat 0).toNat : Int) == (95 : Int))) = true) (.ok (.inr (.inl ())))
          (.ok (.inl (s, (IntKind.wrap .i64 (i + (1 : Int)))))))
         .no)
        (.ok (.inl (s, (IntKind.wrap .i64 (i + (1 : Int)))))))
       .no)
      (.ite ((0 : Int) ≤ i ∧ i < (s.length : Int)) (.ite ((!(((s.getD (i).toNat 0).toNat : Int) == (95 : Int))) = true) (.ok (.inr (.inl ())))
        (.ok (.inl (s, (IntKind.wrap .i64 (i + (1 : Int)))))))
       .no))
     .no)
    (.ok (.inl (s, (IntKind.wrap .i64 (i + (1 : Int)))))))
   .no)
  (.ok (.inr (.inr ()))))
noncomputable def qr_4_st : qr_4_σ → Tr (qr_4_σ ⊕ qr_4_ω) := fun x => (qr_4_step (x.1) (x.2))
noncomputable def qr_k4_1 (s : BS) (i : Int) : Bool := sumIs (qr_R4 s i)
noncomputable def qr_o4_2 (s : BS) (i : Int) : Bool := is (i = 1 ∧ s.length ≤ 140737488355328)
noncomputable def qr_o4_3 (s : BS) (i : Int) : Bool := is (i = 1 ∧ s.length ≤ 140737488355328)
noncomputable def qr_4_fin (s : BS) (i : Int) : Told qr_4_ω := (.br (qr_k4_1 s i) (.leaf (qr_o4_2 s i) (.inl ())) (.leaf (qr_o4_3 s i) (.inr ())))
def qr_4_sl (x : qr_4_σ) : List Slot := [⟨.val false [⟨.str, .sh, TC.s (x.1)⟩], ⟨0, 0⟩⟩, ⟨.val false [⟨.int .i64, .sh, TC.i (x.2)⟩], ⟨0, 0⟩⟩]
def qr_4_out : qr_4_ω → Ex × List Slot := (Sum.elim (fun x => (.ret, [⟨.val false [⟨.bool, .sh, TC.b false⟩], ⟨0, 0⟩⟩])) (fun x => (.exit 0, [Slot.none])))
noncomputable def qr_lo4 : List Slot → Option (Told (Ex × List Slot)) := fun s => match s with
  | [⟨.val false [⟨.str, .sh, TC.s s⟩], ⟨0, 0⟩⟩, ⟨.val false [⟨.int .i64, .sh, TC.i i⟩], ⟨0, 0⟩⟩] => some (((qr_4_fin s i)).map qr_4_out)
  | _ => .none
noncomputable def qr_lo : LoopTeller := fun r s => bif Nat.beq r 4 then qr_lo4 s else .none
theorem qr_4_r (s : BS) (i : Int) (fuel : Nat) : rounds (rnd tab FT D21 live 100 qr_lo 0 4) leave (fuel + 1) (qr_4_sl (s, i)) = ((qr_4_step s i)).run (goOn (fun s => rounds (rnd tab FT D21 live 100 qr_lo 0 4) leave fuel (qr_4_sl s)) fun w => some (qr_4_out w)) := by kernel_rfl
theorem qr_f4_eq (s : BS) (i : Int) : qr_f4 s i = bif (letterB ((s.getD (i).toNat 0).toNat : Int) || ((decide (((s.getD (i).toNat 0).toNat : Int) ≥ 48) && decide (((s.getD (i).toNat 0).toNat : Int) ≤ 57)) || ((s.getD (i).toNat 0).toNat : Int) == 95)) then Sum.inl () else Sum.inr (Sum.inl ()) := by
  unfold qr_f4 letterB
  simp only [qcm_v, dlt, dgt]
  generalize ((s.getD i.toNat 0).toNat : Int) = c
  generalize decide (c ≥ 65) = p0, decide (c ≤ 90) = p1, decide (c ≥ 97) = p2, decide (c ≤ 122) = p3, decide (c ≥ 48) = p4, decide (c ≤ 57) = p5, (c == 95) = p6
  cases p0 <;> cases p1 <;> cases p2 <;> cases p3 <;> cases p4 <;> cases p5 <;> cases p6 <;> rfl
theorem qr_R4_eq (s : BS)  : qr_R4 s 1 = bif allI (fun i : Nat => (letterB ((s.getD (((i + 1 : Nat) : Int)).toNat 0).toNat : Int) || ((decide (((s.getD (((i + 1 : Nat) : Int)).toNat 0).toNat : Int) ≥ 48) && decide (((s.getD (((i + 1 : Nat) : Int)).toNat 0).toNat : Int) ≤ 57)) || ((s.getD (((i + 1 : Nat) : Int)).toNat 0).toNat : Int) == 95))) (s.length - 1) then Sum.inr () else (Sum.inl ()) := by
  unfold qr_R4
  exact (iter_all (P := (fun i : Nat => (letterB ((s.getD (((i + 1 : Nat) : Int)).toNat 0).toNat : Int) || ((decide (((s.getD (((i + 1 : Nat) : Int)).toNat 0).toNat : Int) ≥ 48) && decide (((s.getD (((i + 1 : Nat) : Int)).toNat 0).toNat : Int) ≤ 57)) || ((s.getD (((i + 1 : Nat) : Int)).toNat 0).toNat : Int) == 95)))) (g := fun _ a => a) (w := Sum.inl ()) fun j a _ => qr_f4_eq s _)
theorem qr_4_h (s : BS) (i : Int) (ow : qr_4_ω) : ((qr_4_fin s i)).val = some ow → ∃ fuel, loopN qr_4_st fuel (s, i) = some ow := by
  refine auto_const (R := (qr_R4 s i)) rfl (iter_onR (f := (fun i a => (qr_f4 s ((i + 1 : Nat) : Int)))) (fin := (fun a => (qr_e4 s))) (Q := endsAs () ()) (fun i a => by unfold qr_f4; exact (onR_bif (onR_bif (onR_bif (onR_bif rfl trivial) trivial) (onR_bif rfl trivial)) trivial)) (fun _ => rfl) _ _ _) ?_
  intro ho
  have ho : is (i = 1 ∧ s.length ≤ 140737488355328) = true := ho.elim id id
  obtain ⟨rfl, hs⟩ := is_iff.1 ho
  skip
  refine ⟨(s.length - 1) + 1, ?_⟩
  refine iter_loop (step := qr_4_st) (s.length - 1) (fun i a => (qr_f4 s ((i + 1 : Nat) : Int))) (fun a => (qr_e4 s)) (fun i a => (s, ((i + 1 : Nat) : Int))) (fun _ _ => True) trivial (fun i a hi hI => ⟨?_, fun _ _ => trivial⟩) (fun a hI => ?_)
  · show (qr_4_step s ((i + 1 : Nat) : Int)).val = _
    unfold qr_4_step qr_f4
    skip
    refine Tr.t (by simp; omega) ?_
    exact (Tr.t (by first | omega | (constructor <;> omega)) (Tr.bf (Tr.t (by first | omega | (constructor <;> omega)) (Tr.bf (Tr.t (by first | omega | (constructor <;> omega)) (Tr.bf (Tr.t (by first | omega | (constructor <;> omega)) (Tr.bf rfl (by rw [Tr.val_ok, wrap64 (i := ((i + 1 : Nat) : Int) + 1) (by omega) (by omega)]; rfl))) (by rw [Tr.val_ok, wrap64 (i := ((i + 1 : Nat) : Int) + 1) (by omega) (by omega)]; rfl))) (Tr.t (by first | omega | (constructor <;> omega)) (Tr.bf rfl (by rw [Tr.val_ok, wrap64 (i := ((i + 1 : Nat) : Int) + 1) (by omega) (by omega)]; rfl))))) (by rw [Tr.val_ok, wrap64 (i := ((i + 1 : Nat) : Int) + 1) (by omega) (by omega)]; rfl)))
  · show (qr_4_step s ((s.length - 1 + 1 : Nat) : Int)).val = _
    refine Tr.n (by first | (simp; done) | (simp; omega) | omega) ?_
    rfl
theorem qr_is4 : LoopIs tab FT D21 live 100 qr_lo 0 4 := by
  refine loop_told (sl := qr_4_sl) (step := qr_4_st) (out := qr_4_out) (lor := qr_lo4) (fin := fun x => (qr_4_fin (x.1) (x.2))) (fun _ => rfl) ?_ (fun x n => qr_4_r x.1 x.2 n) (fun x ow => qr_4_h x.1 x.2 ow)
  intro s t h
  unfold qr_lo4 at h
  split at h
  · cases h; exact ⟨(_, _), rfl, rfl⟩
  · cases h
noncomputable def qr_t (s : BS) : Tr (Bool) := (.ite (((s.length : Int) == (0 : Int)) = true) (.ok false)
  (.ite ((decide ((s.length : Int) > (12 : Int))) = true) (.ok false)
   (.ite ((0 : Int) ≤ (0 : Int) ∧ (0 : Int) < (s.length : Int)) (.ite ((!(qcm_v ((s.getD ((0 : Int)).toNat 0).toNat : Int))) = true) (.ok false)
     (.ite ((qr_k4_1 s (1 : Int)) = true) (.ite ((qr_o4_2 s (1 : Int)) = true) (.ok false)
       .no)
      (.ite ((qr_o4_3 s (1 : Int)) = true) (.ok true)
       .no)))
    .no)))
def qr_mk (p : Bool) : Res := [(false, [⟨.bool, .sh, TC.b p⟩])]
noncomputable def qr_c (s : BS) : Bool := (bif ((s.length : Int) == (0 : Int)) then true else (bif (decide ((s.length : Int) > (12 : Int))) then true else (is ((0 : Int) ≤ (0 : Int) ∧ (0 : Int) < (s.length : Int)) && (bif (!(qcm_v ((s.getD ((0 : Int)).toNat 0).toNat : Int))) then true else (bif (qr_k4_1 s (1 : Int)) then ((qr_o4_2 s (1 : Int)) && true) else ((qr_o4_3 s (1 : Int)) && true))))))
noncomputable def qr_v (s : BS) : Bool := (bif ((s.length : Int) == (0 : Int)) then false else (bif (decide ((s.length : Int) > (12 : Int))) then false else (bif (!(qcm_v ((s.getD ((0 : Int)).toNat 0).toNat : Int))) then false else (bif (qr_k4_1 s (1 : Int)) then false else true))))
theorem qr_l (s : BS) : (qr_c s) = true → (qr_t s).val = some (qr_v s) := by
  unfold qr_t qr_v qr_c
  exact fun h => (Tr.ss h (fun h => rfl) (fun h => (Tr.ss h (fun h => rfl) (fun h => (Tr.gs h fun h => (Tr.ss h (fun h => rfl) (fun h => (Tr.ss h (fun h => (Tr.gb h fun h => rfl)) (fun h => (Tr.gb h fun h => rfl))))))))))
noncomputable def qr_S : List Arg → Option (Bool × Res) := fun xs => match xs with
  | [(false, [(.str, TC.s s)])] => some ((qr_c s), qr_mk (qr_v s))
  | _ => .none
theorem qr_e (s : BS) : runF tab FT D21 live 100 qr_lo [(false, [(.str, TC.s s)])] = (qr_t s).run fun p => some (qr_mk p) := by kernel_rfl
theorem qr_s : ∀ xs r, qr_S xs = some (true, r) → runF tab FT D21 live 100 qr_lo xs = some r := by
  intro xs r h
  unfold qr_S at h
  split at h
  · simp only [Option.some.injEq, Prod.mk.injEq] at h
    obtain ⟨h1, rfl⟩ := h
    exact fun_told (qr_e _) (qr_l _) h1
  · cases h
noncomputable def D22 : Dt := also D21 100 qr_S
theorem d22 : DOk Go.Proofs.Try.prog tab D22 := d21.also mixed_ok tab_ok names_ok (fnLoops_one (by kernel_rfl) qr_is4) qr_s
theorem qr_cc {s : BS} (hs : Typed tab (.str) (.s s)) : (qr_c s) = true := by
  unfold qr_c
  refine bifT (fun b1 => ?_) (fun b1 => ?_)
  · skip
    rfl
  · skip
    refine bifT (fun b2 => ?_) (fun b2 => ?_)
    · skip
      rfl
    · skip
      refine andT (is_true (by exact ⟨by omega, by have h2 := ne_of_beq_false b1; omega⟩)) ?_
      refine bifT (fun b3 => ?_) (fun b3 => ?_)
      · skip
        rfl
      · skip
        refine bifT (fun b4 => ?_) (fun b4 => ?_)
        · skip
          refine andT (by exact is_true ⟨rfl, by have := typed_str_len hs; omega⟩) ?_
          rfl
        · skip
          refine andT (by exact is_true ⟨rfl, by have := typed_str_len hs; omega⟩) ?_
          rfl
theorem qr_vv (s : BS) : qr_v s = nameOk s := by
  unfold qr_v qr_k4_1
  rw [qr_R4_eq]
  have e3 : qcm_v ((s.getD ((0 : Int)).toNat 0).toNat : Int) = nameB ((0 : Nat) : Int) ((s.getD (((0 : Nat) : Int)).toNat 0).toNat : Int) := by
    unfold qcm_v nameB letterB
    generalize ((s.getD ((0 : Int)).toNat 0).toNat : Int) = c
    generalize decide (c ≥ 65) = p1, decide (c ≤ 90) = p2, decide (c ≥ 97) = p3, decide (c ≤ 122) = p4
    cases p1 <;> cases p2 <;> cases p3 <;> cases p4 <;> rfl
  rw [e3]
  cases h0 : s.length with
  | zero =>
    have : s = [] := List.eq_nil_of_length_eq_zero h0
    subst this
    rfl
  | succ n =>
    have e2 : allI (fun i : Nat => nameB ((i + 1 : Nat) : Int) ((s.getD (((i + 1 : Nat) : Int)).toNat 0).toNat : Int)) n = allI (fun i : Nat => (letterB ((s.getD (((i + 1 : Nat) : Int)).toNat 0).toNat : Int) || ((decide (((s.getD (((i + 1 : Nat) : Int)).toNat 0).toNat : Int) ≥ 48) && decide (((s.getD (((i + 1 : Nat) : Int)).toNat 0).toNat : Int) ≤ 57)) || ((s.getD (((i + 1 : Nat) : Int)).toNat 0).toNat : Int) == 95))) n := allI_congr fun i _ => by
      unfold nameB
      rw [show (((i + 1 : Nat) : Int) == 0) = false from by simp; omega]
      rfl
    unfold nameOk
    rw [h0, allI_head, e2, Nat.add_sub_cancel]
    rw [show (((n + 1 : Nat) : Int) == 0) = false from by simp; omega, show decide (((n + 1 : Nat) : Int) ≥ 1) = true from by simp; omega, dgt]
    generalize nameB ((0 : Nat) : Int) ((s.getD (((0 : Nat) : Int)).toNat 0).toNat : Int) = q1
    generalize allI (fun i : Nat => (letterB ((s.getD (((i + 1 : Nat) : Int)).toNat 0).toNat : Int) || ((decide (((s.getD (((i + 1 : Nat) : Int)).toNat 0).toNat : Int) ≥ 48) && decide (((s.getD (((i + 1 : Nat) : Int)).toNat 0).toNat : Int) ≤ 57)) || ((s.getD (((i + 1 : Nat) : Int)).toNat 0).toNat : Int) == 95))) n = q2
    generalize decide (((n + 1 : Nat) : Int) ≤ 12) = q3
    cases q1 <;> cases q2 <;> cases q3 <;> rfl
noncomputable def qh_f12 (k s : Int) (sg bg : Bool) (NA NU ME BA : LL) (ct low high ix q : Int) : (Unit) ⊕ ((Int × Int × Bool × Bool × LL × LL × LL × LL × Int × Int × Int × Int) ⊕ (Int × Int × Bool × Bool × LL × LL × LL × LL × Int × Int × Int × Int)) := (bif ((nth (row NA q) 0).str == (nth (row NA ix) 0).str) then (.inr (.inl (k, s, sg, bg, NA, NU, ME, BA, ct, low, high, ix))) else (.inl ()))
noncomputable def qh_e12 (k s : Int) (sg bg : Bool) (NA NU ME BA : LL) (ct low high ix : Int) : (Int × Int × Bool × Bool × LL × LL × LL × LL × Int × Int × Int × Int) ⊕ (Int × Int × Bool × Bool × LL × LL × LL × LL × Int × Int × Int × Int) := .inr (k, s, sg, bg, NA, NU, ME, BA, ct, low, high, ix)
noncomputable def qh_R12 (k s : Int) (sg bg : Bool) (NA NU ME BA : LL) (ct low high ix q : Int) : (Int × Int × Bool × Bool × LL × LL × LL × LL × Int × Int × Int × Int) ⊕ (Int × Int × Bool × Bool × LL × LL × LL × LL × Int × Int × Int × Int) := iter (fun i a => (qh_f12 k s sg bg NA NU ME BA ct low high ix (i : Int))) (fun a => (qh_e12 k s sg bg NA NU ME BA ct low high ix)) (ix.toNat) 0 ()
abbrev qh_12_σ := Int × Int × Bool × Bool × LL × LL × LL × LL × Int × Int × Int × Int × Int
abbrev qh_12_ω := (Int × Int × Bool × Bool × LL × LL × LL × LL × Int × Int × Int × Int) ⊕ (Int × Int × Bool × Bool × LL × LL × LL × LL × Int × Int × Int × Int)
noncomputable def qh_12_step (k s : Int) (sg bg : Bool) (NA NU ME BA : LL) (ct low high ix q : Int) : Tr (qh_12_σ ⊕ qh_12_ω) := (.ite ((decide (q < ix)) = true) (.ite ((0 : Int) ≤ q ∧ q < (NA.length : Int)) (.ite ((0 : Int) ≤ ix ∧ ix < (NA.length : Int)) (.ite (((nth (row NA q) 0).str == (nth (row NA ix) 0).str) = true) (.ok (.inr (.inl (k, s, sg, bg, NA, NU, ME, BA, ct, low, high, ix))))
     (.ok (.inl (k, s, sg, bg, NA, NU, ME, BA, ct, low, high, ix, (IntKind.wrap .i64 (q + (1 : Int)))))))
    .no)
   .no)
  (.ok (.inr (.inr (k, s, sg, bg, NA, NU, ME, BA, ct, low, high, ix)))))
noncomputable def qh_12_st : qh_12_σ → Tr (qh_12_σ ⊕ qh_12_ω) := fun x => (qh_12_step (x.1) (x.2.1) (x.2.2.1) (x.2.2.2.1) (x.2.2.2.2.1) (x.2.2.2.2.2.1) (x.2.2.2.2.2.2.1) (x.2.2.2.2.2.2.2.1) (x.2.2.2.2.2.2.2.2.1) (x.2.2.2.2.2.2.2.2.2.1) (x.2.2.2.2.2.2.2.2.2.2.1) (x.2.2.2.2.2.2.2.2.2.2.2.1) (x.2.2.2.2.2.2.2.2.2.2.2.2))
noncomputable def qh_k12_1 (k s : Int) (sg bg : Bool) (NA NU ME BA : LL) (ct low high ix q : Int) : Bool := sumIs (qh_R12 k s sg bg NA NU ME BA ct low high ix q)
noncomputable def qh_o12_2 (k s : Int) (sg bg : Bool) (NA NU ME BA : LL) (ct low high ix q : Int) : Bool := is (q = 0 ∧ 0 ≤ ix ∧ ix < (NA.length : Int) ∧ NA.length ≤ 140737488355328)
noncomputable def qh_o12_3 (k s : Int) (sg bg : Bool) (NA NU ME BA : LL) (ct low high ix q : Int) : Bool := is (q = 0 ∧ 0 ≤ ix ∧ ix < (NA.length : Int) ∧ NA.length ≤ 140737488355328)
noncomputable def qh_12_fin (k s : Int) (sg bg : Bool) (NA NU ME BA : LL) (ct low high ix q : Int) : Told qh_12_ω := (.br (qh_k12_1 k s sg bg NA NU ME BA ct low high ix q) (.leaf (qh_o12_2 k s sg bg NA NU ME BA ct low high ix q) (.inl (k, s, sg, bg, NA, NU, ME, BA, ct, low, high, ix))) (.leaf (qh_o12_3 k s sg bg NA NU ME BA ct low high ix q) (.inr (k, s, sg, bg, NA, NU, ME, BA, ct, low, high, ix))))
def qh_12_sl (x : qh_12_σ) : List Slot := [⟨.bx 32 [⟨.int .i64, .sh, TC.i (x.1)⟩, ⟨.int .i64, .sh, TC.i (x.2.1)⟩, ⟨.bool, .sh, TC.b (x.2.2.1)⟩, ⟨.bool, .sh, TC.b (x.2.2.2.1)⟩, ⟨.slice 9, .sh, TC.l (x.2.2.2.2.1)⟩, ⟨.slice 2, .sh, TC.l (x.2.2.2.2.2.1)⟩, ⟨.slice 71, .sh, TC.l (x.2.2.2.2.2.2.1)⟩, ⟨.slice 32, .sh, TC.l (x.2.2.2.2.2.2.2.1)⟩, ⟨.int .i64, .sh, TC.i (x.2.2.2.2.2.2.2.2.1)⟩], ⟨0, 0⟩⟩, ⟨.val false [⟨.int .i64, .sh, TC.i (x.2.2.2.2.2.2.2.2.2.1)⟩], ⟨0, 0⟩⟩, ⟨.val false [⟨.int .i64, .sh, TC.i (x.2.2.2.2.2.2.2.2.2.2.1)⟩], ⟨0, 0⟩⟩, ⟨.val false [⟨.int .i64, .sh, TC.i (x.2.2.2.2.2.2.2.2.2.2.2.1)⟩], ⟨0, 0⟩⟩, ⟨.val false [⟨.int .i64, .sh, TC.i (x.2.2.2.2.2.2.2.2.2.2.2.2)⟩], ⟨0, 0⟩⟩]
def qh_12_out : qh_12_ω → Ex × List Slot := (Sum.elim (fun x => (.ret, [⟨.bx 32 [⟨.int .i64, .sh, TC.i (x.1)⟩, ⟨.int .i64, .sh, TC.i (x.2.1)⟩, ⟨.bool, .sh, TC.b (x.2.2.1)⟩, ⟨.bool, .sh, TC.b (x.2.2.2.1)⟩, ⟨.slice 9, .sh, TC.l (x.2.2.2.2.1)⟩, ⟨.slice 2, .sh, TC.l (x.2.2.2.2.2.1)⟩, ⟨.slice 71, .sh, TC.l (x.2.2.2.2.2.2.1)⟩, ⟨.slice 32, .sh, TC.l (x.2.2.2.2.2.2.2.1)⟩, ⟨.int .i64, .sh, TC.i (x.2.2.2.2.2.2.2.2.1)⟩], ⟨0, 0⟩⟩, ⟨.val false [⟨.bool, .sh, TC.b false⟩], ⟨0, 0⟩⟩, ⟨.val false [⟨.int .i64, .sh, TC.i (x.2.2.2.2.2.2.2.2.2.1)⟩], ⟨0, 0⟩⟩, ⟨.val false [⟨.int .i64, .sh, TC.i (x.2.2.2.2.2.2.2.2.2.2.1)⟩], ⟨0, 0⟩⟩, ⟨.val false [⟨.int .i64, .sh, TC.i (x.2.2.2.2.2.2.2.2.2.2.2)⟩], ⟨0, 0⟩⟩])) (fun x => (.exit 2, [⟨.bx 32 [⟨.int .i64, .sh, TC.i (x.1)⟩, ⟨.int .i64, .sh, TC.i (x.2.1)⟩, ⟨.bool, .sh, TC.b (x.2.2.1)⟩, ⟨.bool, .sh, TC.b (x.2.2.2.1)⟩, ⟨.slice 9, .sh, TC.l (x.2.2.2.2.1)⟩, ⟨.slice 2, .sh, TC.l (x.2.2.2.2.2.1)⟩, ⟨.slice 71, .sh, TC.l (x.2.2.2.2.2.2.1)⟩, ⟨.slice 32, .sh, TC.l (x.2.2.2.2.2.2.2.1)⟩, ⟨.int .i64, .sh, TC.i (x.2.2.2.2.2.2.2.2.1)⟩], ⟨0, 0⟩⟩, Slot.none, ⟨.val false [⟨.int .i64, .sh, TC.i (x.2.2.2.2.2.2.2.2.2.1)⟩], ⟨0, 0⟩⟩, ⟨.val false [⟨.int .i64, .sh, TC.i (x.2.2.2.2.2.2.2.2.2.2.1)⟩], ⟨0, 0⟩⟩, ⟨.val false [⟨.int .i64, .sh, TC.i (x.2.2.2.2.2.2.2.2.2.2.2)⟩], ⟨0, 0⟩⟩])))
noncomputable def qh_lo12 : List Slot → Option (Told (Ex × List Slot)) := fun s => match s with
  | [⟨.bx 32 [⟨.int .i64, .sh, TC.i k⟩, ⟨.int .i64, .sh, TC.i s⟩, ⟨.bool, .sh, TC.b sg⟩, ⟨.bool, .sh, TC.b bg⟩, ⟨.slice 9, .sh, TC.l NA⟩, ⟨.slice 2, .sh, TC.l NU⟩, ⟨.slice 71, .sh, TC.l ME⟩, ⟨.slice 32, .sh, TC.l BA⟩, ⟨.int .i64, .sh, TC.i ct⟩], ⟨0, 0⟩⟩, ⟨.val false [⟨.int .i64, .sh, TC.i low⟩], ⟨0, 0⟩⟩, ⟨.val false [⟨.int .i64, .sh, TC.i high⟩], ⟨0, 0⟩⟩, ⟨.val false [⟨.int .i64, .sh, TC.i ix⟩], ⟨0, 0⟩⟩, ⟨.val false [⟨.int .i64, .sh, TC.i q⟩], ⟨0, 0⟩⟩] => some (((qh_12_fin k s sg bg NA NU ME BA ct low high ix q)).map qh_12_out)
  | _ => .none
noncomputable def qh_f7 (k s : Int) (sg bg : Bool) (NA NU ME BA : LL) (ct low high i : Int) : (Unit) ⊕ ((Unit) ⊕ (Unit)) := (bif (!(qr_v ((nth (row NA i) 0).str))) then (.inr (.inl ())) else (bif (!(qcl_v ((nth (row NU i) 0).int) low high)) then (.inr (.inl ())) else (bif (decide (i > (0 : Int))) then (bif (decide ((nth (row NU (IntKind.wrap .i64 (i - (1 : Int)))) 0).int ≥ (nth (row NU i) 0).int)) then (.inr (.inl ())) else (bif (qh_k12_1 k s sg bg NA NU ME BA ct low high i (0 : Int)) then (.inr (.inl ())) else (.inl ()))) else (bif (qh_k12_1 k s sg bg NA NU ME BA ct low high i (0 : Int)) then (.inr (.inl ())) else (.inl ())))))
noncomputable def qh_e7 (k s : Int) (sg bg : Bool) (NA NU ME BA : LL) (ct low high : Int) : (Unit) ⊕ (Unit) := .inr ()
noncomputable def qh_R7 (k s : Int) (sg bg : Bool) (NA NU ME BA : LL) (ct low high i : Int) : (Unit) ⊕ (Unit) := iter (fun i a => (qh_f7 k s sg bg NA NU ME BA ct low high (i : Int))) (fun a => (qh_e7 k s sg bg NA NU ME BA ct low high)) (NA.length) 0 ()
abbrev qh_7_σ := Int × Int × Bool × Bool × LL × LL × LL × LL × Int × Int × Int × Int
abbrev qh_7_ω := (Unit) ⊕ (Unit)
noncomputable def qh_7_step (k s : Int) (sg bg : Bool) (NA NU ME BA : LL) (ct low high i : Int) : Tr (qh_7_σ ⊕ qh_7_ω) := (.ite ((decide (i < (NA.length : Int))) = true) (.ite ((0 : Int) ≤ i ∧ i < (NA.length : Int)) (.ite ((qr_c ((nth (row NA i) 0).str)) = true) (.ite ((!(qr_v ((nth (row NA i) 0).str))) = true) (.ok (.inr (.inl ())))
     (.ite ((0 : Int) ≤ i ∧ i < (NU.length : Int)) (.ite ((!(qcl_v ((nth (row NU i) 0).int) low high)) = true) (.ok (.inr (.inl ())))
       (.ite ((decide (i > (0 : Int))) = true) (.ite ((0 : Int) ≤ (IntKind.wrap .i64 (i - (1 : Int))) ∧ (IntKind.wrap .i64 (i - (1 : Int))) < (NU.length : Int)) (.ite ((0 : Int) ≤ i ∧ i < (NU.length : Int)) (.ite ((decide ((nth (row NU (IntKind.wrap .i64 (i - (1 : Int)))) 0).int ≥ (nth (row NU i) 0).int)) = true) (.ok (.inr (.inl ())))
           (.ite ((qh_k12_1 k s sg bg NA NU ME BA ct low high i (0 : Int)) = true) (.ite ((qh_o12_2 k s sg bg NA NU ME BA ct low high i (0 : Int)) = true) (.ok (.inr (.inl ())))
             .no)
            (.ite ((qh_o12_3 k s sg bg NA NU ME BA ct low high i (0 : Int)) = true) (.ok (.inl (k, s, sg, bg, NA, NU, ME, BA, ct, low, high, (IntKind.wrap .i64 (i + (1 : Int))))))
             .no)))
          .no)
         .no)
        (.ite ((qh_k12_1 k s sg bg NA NU ME BA ct low high i (0 : Int)) = true) (.ite ((qh_o12_2 k s sg bg NA NU ME BA ct low high i (0 : Int)) = true) (.ok (.inr (.inl ())))
          .no)
         (.ite ((qh_o12_3 k s sg bg NA NU ME BA ct low high i (0 : Int)) = true) (.ok (.inl (k, s, sg, bg, NA, NU, ME, BA, ct, low, high, (IntKind.wrap .i64 (i + (1 : Int))))))
          .no))))
      .no))
    .no)
   .no)
  (.ok (.inr (.inr ()))))
noncomputable def qh_7_st : qh_7_σ → Tr (qh_7_σ ⊕ qh_7_ω) := fun x => (qh_7_step (x.1) (x.2.1) (x.2.2.1) (x.2.2.2.1) (x.2.2.2.2.1) (x.2.2.2.2.2.1) (x.2.2.2.2.2.2.1) (x.2.2.2.2.2.2.2.1) (x.2.2.2.2.2.2.2.2.1) (x.2.2.2.2.2.2.2.2.2.1) (x.2.2.2.2.2.2.2.2.2.2.1) (x.2.2.2.2.2.2.2.2.2.2.2))
noncomputable def qh_k7_1 (k s : Int) (sg bg : Bool) (NA NU ME BA : LL) (ct low high i : Int) : Bool := sumIs (qh_R7 k s sg bg NA NU ME BA ct low high i)
noncomputable def qh_o7_2 (k s : Int) (sg bg : Bool) (NA NU ME BA : LL) (ct low high i : Int) : Bool := is (i = 0 ∧ Typed tab (.slice 9) (.l NA) ∧ NU.length = NA.length)
noncomputable def qh_o7_3 (k s : Int) (sg bg : Bool) (NA NU ME BA : LL) (ct low high i : Int) : Bool := is (i = 0 ∧ Typed tab (.slice 9) (.l NA) ∧ NU.length = NA.length)
noncomputable def qh_7_fin (k s : Int) (sg bg : Bool) (NA NU ME BA : LL) (ct low high i : Int) : Told qh_7_ω := (.br (qh_k7_1 k s sg bg NA NU ME BA ct low high i) (.leaf (qh_o7_2 k s sg bg NA NU ME BA ct low high i) (.inl ())) (.leaf (qh_o7_3 k s sg bg NA NU ME BA ct low high i) (.inr ())))
def qh_7_sl (x : qh_7_σ) : List Slot := [⟨.bx 32 [⟨.int .i64, .sh, TC.i (x.1)⟩, ⟨.int .i64, .sh, TC.i (x.2.1)⟩, ⟨.bool, .sh, TC.b (x.2.2.1)⟩, ⟨.bool, .sh, TC.b (x.2.2.2.1)⟩, ⟨.slice 9, .sh, TC.l (x.2.2.2.2.1)⟩, ⟨.slice 2, .sh, TC.l (x.2.2.2.2.2.1)⟩, ⟨.slice 71, .sh, TC.l (x.2.2.2.2.2.2.1)⟩, ⟨.slice 32, .sh, TC.l (x.2.2.2.2.2.2.2.1)⟩, ⟨.int .i64, .sh, TC.i (x.2.2.2.2.2.2.2.2.1)⟩], ⟨0, 0⟩⟩, ⟨.val false [⟨.int .i64, .sh, TC.i (x.2.2.2.2.2.2.2.2.2.1)⟩], ⟨0, 0⟩⟩, ⟨.val false [⟨.int .i64, .sh, TC.i (x.2.2.2.2.2.2.2.2.2.2.1)⟩], ⟨0, 0⟩⟩, ⟨.val false [⟨.int .i64, .sh, TC.i (x.2.2.2.2.2.2.2.2.2.2.2)⟩], ⟨0, 0⟩⟩]
def qh_7_out : qh_7_ω → Ex × List Slot := (Sum.elim (fun x => (.ret, [⟨.val false [⟨.bool, .sh, TC.b false⟩], ⟨0, 0⟩⟩])) (fun x => (.exit 0, [Slot.none])))
noncomputable def qh_lo7 : List Slot → Option (Told (Ex × List Slot)) := fun s => match s with
  | [⟨.bx 32 [⟨.int .i64, .sh, TC.i k⟩, ⟨.int .i64, .sh, TC.i s⟩, ⟨.bool, .sh, TC.b sg⟩, ⟨.bool, .sh, TC.b bg⟩, ⟨.slice 9, .sh, TC.l NA⟩, ⟨.slice 2, .sh, TC.l NU⟩, ⟨.slice 71, .sh, TC.l ME⟩, ⟨.slice 32, .sh, TC.l BA⟩, ⟨.int .i64, .sh, TC.i ct⟩], ⟨0, 0⟩⟩, ⟨.val false [⟨.int .i64, .sh, TC.i low⟩], ⟨0, 0⟩⟩, ⟨.val false [⟨.int .i64, .sh, TC.i high⟩], ⟨0, 0⟩⟩, ⟨.val false [⟨.int .i64, .sh, TC.i i⟩], ⟨0, 0⟩⟩] => some (((qh_7_fin k s sg bg NA NU ME BA ct low high i)).map qh_7_out)
  | _ => .none
noncomputable def qh_lo : LoopTeller := fun r s => bif Nat.beq r 7 then qh_lo7 s else bif Nat.beq r 12 then qh_lo12 s else .none
theorem qh_12_r (k s : Int) (sg bg : Bool) (NA NU ME BA : LL) (ct low high ix q : Int) (fuel : Nat) : rounds (rnd tab FT D22 live 65 qh_lo 1 12) leave (fuel + 1) (qh_12_sl (k, s, sg, bg, NA, NU, ME, BA, ct, low, high, ix, q)) = ((qh_12_step k s sg bg NA NU ME BA ct low high ix q)).run (goOn (fun s => rounds (rnd tab FT D22 live 65 qh_lo 1 12) leave fuel (qh_12_sl s)) fun w => some (qh_12_out w)) := by kernel_rfl
theorem qh_f12_eq (k s : Int) (sg bg : Bool) (NA NU ME BA : LL) (ct low high : Int) (ix i : Int) : qh_f12 k s sg bg NA NU ME BA ct low high ix i = bif !(strAt NA i == strAt NA ix) then Sum.inl () else Sum.inr (Sum.inl (k, s, sg, bg, NA, NU, ME, BA, ct, low, high, ix)) := by
  unfold qh_f12 strAt
  skip
  generalize ((nth (row NA i) 0).str == (nth (row NA ix) 0).str) = p0
  cases p0 <;> rfl
theorem qh_R12_eq (k s : Int) (sg bg : Bool) (NA NU ME BA : LL) (ct low high : Int) (ix : Int)  : qh_R12 k s sg bg NA NU ME BA ct low high ix 0 = bif allI (fun i : Nat => !(strAt NA (i : Int) == strAt NA ix)) (ix.toNat) then Sum.inr (k, s, sg, bg, NA, NU, ME, BA, ct, low, high, ix) else (Sum.inl (k, s, sg, bg, NA, NU, ME, BA, ct, low, high, ix)) := by
  unfold qh_R12
  exact (iter_all (P := (fun i : Nat => !(strAt NA (i : Int) == strAt NA ix))) (g := fun _ a => a) (w := Sum.inl (k, s, sg, bg, NA, NU, ME, BA, ct, low, high, ix)) fun j a _ => qh_f12_eq k s sg bg NA NU ME BA ct low high ix _)
theorem qh_12_h (k s : Int) (sg bg : Bool) (NA NU ME BA : LL) (ct low high ix q : Int) (ow : qh_12_ω) : ((qh_12_fin k s sg bg NA NU ME BA ct low high ix q)).val = some ow → ∃ fuel, loopN qh_12_st fuel (k, s, sg, bg, NA, NU, ME, BA, ct, low, high, ix, q) = some ow := by
  refine auto_const (R := (qh_R12 k s sg bg NA NU ME BA ct low high ix q)) rfl (iter_onR (f := (fun i a => (qh_f12 k s sg bg NA NU ME BA ct low high ix (i : Int)))) (fin := (fun a => (qh_e12 k s sg bg NA NU ME BA ct low high ix))) (Q := endsAs (k, s, sg, bg, NA, NU, ME, BA, ct, low, high, ix) (k, s, sg, bg, NA, NU, ME, BA, ct, low, high, ix)) (fun i a => by unfold qh_f12; exact (onR_bif rfl trivial)) (fun _ => rfl) _ _ _) ?_
  intro ho
  have ho : is (q = 0 ∧ 0 ≤ ix ∧ ix < (NA.length : Int) ∧ NA.length ≤ 140737488355328) = true := ho.elim id id
  obtain ⟨rfl, h0, h1, h2⟩ := is_iff.1 ho
  skip
  refine ⟨(ix.toNat) + 1, ?_⟩
  refine iter_loop (step := qh_12_st) (ix.toNat) (fun i a => (qh_f12 k s sg bg NA NU ME BA ct low high ix (i : Int))) (fun a => (qh_e12 k s sg bg NA NU ME BA ct low high ix)) (fun i a => (k, s, sg, bg, NA, NU, ME, BA, ct, low, high, ix, (i : Int))) (fun _ _ => True) trivial (fun i a hi hI => ⟨?_, fun _ _ => trivial⟩) (fun a hI => ?_)
  · show (qh_12_step k s sg bg NA NU ME BA ct low high ix (i : Int)).val = _
    unfold qh_12_step qh_f12
    skip
    refine Tr.t (by simp; omega) ?_
    exact (Tr.t (by first | omega | (constructor <;> omega)) (Tr.t (by first | omega | (constructor <;> omega)) (Tr.bf rfl (by rw [Tr.val_ok, wrap64 (i := (i : Int) + 1) (by omega) (by omega)]; rfl))))
  · show (qh_12_step k s sg bg NA NU ME BA ct low high ix (ix.toNat : Int)).val = _
    refine Tr.n (by first | (simp; done) | (simp; omega) | omega) ?_
    rfl
theorem qh_is12 : LoopIs tab FT D22 live 65 qh_lo 1 12 := by
  refine loop_told (sl := qh_12_sl) (step := qh_12_st) (out := qh_12_out) (lor := qh_lo12) (fin := fun x => (qh_12_fin (x.1) (x.2.1) (x.2.2.1) (x.2.2.2.1) (x.2.2.2.2.1) (x.2.2.2.2.2.1) (x.2.2.2.2.2.2.1) (x.2.2.2.2.2.2.2.1) (x.2.2.2.2.2.2.2.2.1) (x.2.2.2.2.2.2.2.2.2.1) (x.2.2.2.2.2.2.2.2.2.2.1) (x.2.2.2.2.2.2.2.2.2.2.2.1) (x.2.2.2.2.2.2.2.2.2.2.2.2))) (fun _ => rfl) ?_ (fun x n => qh_12_r x.1 x.2.1 x.2.2.1 x.2.2.2.1 x.2.2.2.2.1 x.2.2.2.2.2.1 x.2.2.2.2.2.2.1 x.2.2.2.2.2.2.2.1 x.2.2.2.2.2.2.2.2.1 x.2.2.2.2.2.2.2.2.2.1 x.2.2.2.2.2.2.2.2.2.2.1 x.2.2.2.2.2.2.2.2.2.2.2.1 x.2.2.2.2.2.2.2.2.2.2.2.2 n) (fun x ow => qh_12_h x.1 x.2.1 x.2.2.1 x.2.2.2.1 x.2.2.2.2.1 x.2.2.2.2.2.1 x.2.2.2.2.2.2.1 x.2.2.2.2.2.2.2.1 x.2.2.2.2.2.2.2.2.1 x.2.2.2.2.2.2.2.2.2.1 x.2.2.2.2.2.2.2.2.2.2.1 x.2.2.2.2.2.2.2.2.2.2.2.1 x.2.2.2.2.2.2.2.2.2.2.2.2 ow)
  intro s t h
  unfold qh_lo12 at h
  split at h
  · cases h; exact ⟨(_, _, _, _, _, _, _, _, _, _, _, _, _), rfl, rfl⟩
  · cases h
theorem qh_7_r (k s : Int) (sg bg : Bool) (NA NU ME BA : LL) (ct low high i : Int) (fuel : Nat) : rounds (rnd tab FT D22 live 65 qh_lo 0 7) leave (fuel + 1) (qh_7_sl (k, s, sg, bg, NA, NU, ME, BA, ct, low, high, i)) = ((qh_7_step k s sg bg NA NU ME BA ct low high i)).run (goOn (fun s => rounds (rnd tab FT D22 live 65 qh_lo 0 7) leave fuel (qh_7_sl s)) fun w => some (qh_7_out w)) := by kernel_rfl
theorem qh_f7_eq (k s : Int) (sg bg : Bool) (NA NU ME BA : LL) (ct low high : Int) (i : Int) : qh_f7 k s sg bg NA NU ME BA ct low high i = bif enumP NA NU low high i then Sum.inl () else Sum.inr (Sum.inl ()) := by
  unfold qh_f7 enumP ascB strAt intAt
  rw [show qh_k12_1 k s sg bg NA NU ME BA ct low high i 0 = !(noDupN NA i) from by unfold qh_k12_1 noDupN; rw [qh_R12_eq]; generalize allI _ _ = q; cases q <;> rfl]
  rw [show qcl_v (nth (row NU i) 0).int low high = inB (nth (row NU i) 0).int low high from rfl, qr_vv]
  generalize nameOk (nth (row NA i) 0).str = p0, inB (nth (row NU i) 0).int low high = p1, decide (i > 0) = p2, decide ((nth (row NU (IntKind.wrap .i64 (i - (1 : Int)))) 0).int ≥ (nth (row NU i) 0).int) = p3, noDupN NA i = p4
  cases p0 <;> cases p1 <;> cases p2 <;> cases p3 <;> cases p4 <;> rfl
theorem qh_R7_eq (k s : Int) (sg bg : Bool) (NA NU ME BA : LL) (ct low high : Int)  : qh_R7 k s sg bg NA NU ME BA ct low high 0 = bif allI (fun i : Nat => enumP NA NU low high (i : Int)) (NA.length) then Sum.inr () else (Sum.inl ()) := by
  unfold qh_R7
  exact (iter_all (P := (fun i : Nat => enumP NA NU low high (i : Int))) (g := fun _ a => a) (w := Sum.inl ()) fun j a _ => qh_f7_eq k s sg bg NA NU ME BA ct low high _)
theorem qh_7_h (k s : Int) (sg bg : Bool) (NA NU ME BA : LL) (ct low high i : Int) (ow : qh_7_ω) : ((qh_7_fin k s sg bg NA NU ME BA ct low high i)).val = some ow → ∃ fuel, loopN qh_7_st fuel (k, s, sg, bg, NA, NU, ME, BA, ct, low, high, i) = some ow := by
  refine auto_const (R := (qh_R7 k s sg bg NA NU ME BA ct low high i)) rfl (iter_onR (f := (fun i a => (qh_f7 k s sg bg NA NU ME BA ct low high (i : Int)))) (fin := (fun a => (qh_e7 k s sg bg NA NU ME BA ct low high))) (Q := endsAs () ()) (fun i a => by unfold qh_f7; exact (onR_bif rfl (onR_bif rfl (onR_bif (onR_bif rfl (onR_bif rfl trivial)) (onR_bif rfl trivial))))) (fun _ => rfl) _ _ _) ?_
  intro ho
  have ho : is (i = 0 ∧ Typed tab (.slice 9) (.l NA) ∧ NU.length = NA.length) = true := ho.elim id id
  obtain ⟨rfl, ht, hU⟩ := is_iff.1 ho
  have hlen : NA.length ≤ 140737488351232 := by have := typed_room ht; simp only [show (tab 9).bytes = 16 from rfl] at this; omega
  refine ⟨(NA.length) + 1, ?_⟩
  refine iter_loop (step := qh_7_st) (NA.length) (fun i a => (qh_f7 k s sg bg NA NU ME BA ct low high (i : Int))) (fun a => (qh_e7 k s sg bg NA NU ME BA ct low high)) (fun i a => (k, s, sg, bg, NA, NU, ME, BA, ct, low, high, (i : Int))) (fun _ _ => True) trivial (fun i a hi hI => ⟨?_, fun _ _ => trivial⟩) (fun a hI => ?_)
  · show (qh_7_step k s sg bg NA NU ME BA ct low high (i : Int)).val = _
    unfold qh_7_step qh_f7
    have c0 : Typed tab (.str) (.s (nth (NA.getD i []) 0).str) := typed_s (typed_cell ht (NA.getD i []) (mem_getD hi) 0 (by decide))
    refine Tr.t (by simp; omega) ?_
    exact (Tr.t (by first | omega | (constructor <;> omega) | (exact is_true ⟨rfl, by omega, by omega, by omega⟩) | (simp only [decide_eq_true_eq] at *; rw [wrap64 (by omega) (by omega)]; constructor <;> omega)) (Tr.t (by first | (exact is_true ⟨rfl, by omega, by omega, by omega⟩) | (simp only [decide_eq_true_eq] at *; rw [wrap64 (by omega) (by omega)]; constructor <;> omega) | (first | (apply qr_cc <;> assumption) | (first | (apply is_true; and_intros <;> (first | rfl | assumption | (apply ql_cc <;> assumption) | (apply qbb_cc <;> assumption) | (apply qm_cc <;> assumption) | (apply qq_cc <;> assumption) | (apply qv_cc <;> assumption) | (apply qz_cc <;> assumption) | (apply qr_cc <;> assumption) | (first | (apply is_true; and_intros <;> (first | rfl | assumption | (apply ql_cc <;> assumption) | (apply qbb_cc <;> assumption) | (apply qm_cc <;> assumption) | (apply qq_cc <;> assumption) | (apply qv_cc <;> assumption) | (apply qz_cc <;> assumption) | (apply qr_cc <;> assumption))) | (apply ql_cc <;> assumption) | (apply qbb_cc <;> assumption) | (apply qm_cc <;> assumption) | (apply qq_cc <;> assumption) | (apply qv_cc <;> assumption) | (apply qz_cc <;> assumption) | (apply qr_cc <;> assumption)))) | (apply ql_cc <;> assumption) | (apply qbb_cc <;> assumption) | (apply qm_cc <;> assumption) | (apply qq_cc <;> assumption) | (apply qv_cc <;> assumption) | (apply qz_cc <;> assumption) | (apply qr_cc <;> assumption)))) (Tr.bh (fun _ => rfl) (fun _ => (Tr.t (by first | omega | (constructor <;> omega) | (exact is_true ⟨rfl, by omega, by omega, by omega⟩) | (simp only [decide_eq_true_eq] at *; rw [wrap64 (by omega) (by omega)]; constructor <;> omega)) (Tr.bh (fun _ => rfl) (fun _ => (Tr.bh (fun _ => (Tr.t (by first | omega | (constructor <;> omega) | (exact is_true ⟨rfl, by omega, by omega, by omega⟩) | (simp only [decide_eq_true_eq] at *; rw [wrap64 (by omega) (by omega)]; constructor <;> omega)) (Tr.t (by first | omega | (constructor <;> omega) | (exact is_true ⟨rfl, by omega, by omega, by omega⟩) | (simp only [decide_eq_true_eq] at *; rw [wrap64 (by omega) (by omega)]; constructor <;> omega)) (Tr.bh (fun _ => rfl) (fun _ => (Tr.bh (fun _ => (Tr.t (by first | (exact is_true ⟨rfl, by omega, by omega, by omega⟩) | (simp only [decide_eq_true_eq] at *; rw [wrap64 (by omega) (by omega)]; constructor <;> omega) | (first | (apply is_true; and_intros <;> (first | rfl | assumption | (apply ql_cc <;> assumption) | (apply qbb_cc <;> assumption) | (apply qm_cc <;> assumption) | (apply qq_cc <;> assumption) | (apply qv_cc <;> assumption) | (apply qz_cc <;> assumption) | (apply qr_cc <;> assumption) | (first | (apply is_true; and_intros <;> (first | rfl | assumption | (apply ql_cc <;> assumption) | (apply qbb_cc <;> assumption) | (apply qm_cc <;> assumption) | (apply qq_cc <;> assumption) | (apply qv_cc <;> assumption) | (apply qz_cc <;> assumption) | (apply qr_cc <;> assumption) | (first | (apply is_true; and_intros <;> (first | rfl | assumption | (apply ql_cc <;> assumption) | (apply qbb_cc <;> assumption) | (apply qm_cc <;> assumption) | (apply qq_cc <;> assumption) | (apply qv_cc <;> assumption) | (apply qz_cc <;> assumption) | (apply qr_cc <;> assumption))) | (apply ql_cc <;> assumption) | (apply qbb_cc <;> assumption) | (apply qm_cc <;> assumption) | (apply qq_cc <;> assumption) | (apply qv_cc <;> assumption) | (apply qz_cc <;> assumption) | (apply qr_cc <;> assumption)))) | (apply ql_cc <;> assumption) | (apply qbb_cc <;> assumption) | (apply qm_cc <;> assumption) | (apply qq_cc <;> assumption) | (apply qv_cc <;> assumption) | (apply qz_cc <;> assumption) | (apply qr_cc <;> assumption)))) | (apply ql_cc <;> assumption) | (apply qbb_cc <;> assumption) | (apply qm_cc <;> assumption) | (apply qq_cc <;> assumption) | (apply qv_cc <;> assumption) | (apply qz_cc <;> assumption) | (apply qr_cc <;> assumption))) rfl)) (fun _ => (Tr.t (by first | (exact is_true ⟨rfl, by omega, by omega, by omega⟩) | (simp only [decide_eq_true_eq] at *; rw [wrap64 (by omega) (by omega)]; constructor <;> omega) | (first | (apply is_true; and_intros <;> (first | rfl | assumption | (apply ql_cc <;> assumption) | (apply qbb_cc <;> assumption) | (apply qm_cc <;> assumption) | (apply qq_cc <;> assumption) | (apply qv_cc <;> assumption) | (apply qz_cc <;> assumption) | (apply qr_cc <;> assumption) | (first | (apply is_true; and_intros <;> (first | rfl | assumption | (apply ql_cc <;> assumption) | (apply qbb_cc <;> assumption) | (apply qm_cc <;> assumption) | (apply qq_cc <;> assumption) | (apply qv_cc <;> assumption) | (apply qz_cc <;> assumption) | (apply qr_cc <;> assumption) | (first | (apply is_true; and_intros <;> (first | rfl | assumption | (apply ql_cc <;> assumption) | (apply qbb_cc <;> assumption) | (apply qm_cc <;> assumption) | (apply qq_cc <;> assumption) | (apply qv_cc <;> assumption) | (apply qz_cc <;> assumption) | (apply qr_cc <;> assumption))) | (apply ql_cc <;> assumption) | (apply qbb_cc <;> assumption) | (apply qm_cc <;> assumption) | (apply qq_cc <;> assumption) | (apply qv_cc <;> assumption) | (apply qz_cc <;> assumption) | (apply qr_cc <;> assumption)))) | (apply ql_cc <;> assumption) | (apply qbb_cc <;> assumption) | (apply qm_cc <;> assumption) | (apply qq_cc <;> assumption) | (apply qv_cc <;> assumption) | (apply qz_cc <;> assumption) | (apply qr_cc <;> assumption)))) | (apply ql_cc <;> assumption) | (apply qbb_cc <;> assumption) | (apply qm_cc <;> assumption) | (apply qq_cc <;> assumption) | (apply qv_cc <;> assumption) | (apply qz_cc <;> assumption) | (apply qr_cc <;> assumption))) (by rw [Tr.val_ok, wrap64 (i := (i : Int) + 1) (by omega) (by omega)]; rfl))))))))) (fun _ => (Tr.bh (fun _ => (Tr.t (by first | (exact is_true ⟨rfl, by omega, by omega, by omega⟩) | (simp only [decide_eq_true_eq] at *; rw [wrap64 (by omega) (by omega)]; constructor <;> omega) | (first | (apply is_true; and_intros <;> (first | rfl | assumption | (apply ql_cc <;> assumption) | (apply qbb_cc <;> assumption) | (apply qm_cc <;> assumption) | (apply qq_cc <;> assumption) | (apply qv_cc <;> assumption) | (apply qz_cc <;> assumption) | (apply qr_cc <;> assumption) | (first | (apply is_true; and_intros <;> (first | rfl | assumption | (apply ql_cc <;> assumption) | (apply qbb_cc <;> assumption) | (apply qm_cc <;> assumption) | (apply qq_cc <;> assumption) | (apply qv_cc <;> assumption) | (apply qz_cc <;> assumption) | (apply qr_cc <;> assumption) | (first | (apply is_true; and_intros <;> (first | rfl | assumption | (apply ql_cc <;> assumption) | (apply qbb_cc <;> assumption) | (apply qm_cc <;> assumption) | (apply qq_cc <;> assumption) | (apply qv_cc <;> assumption) | (apply qz_cc <;> assumption) | (apply qr_cc <;> assumption))) | (apply ql_cc <;> assumption) | (apply qbb_cc <;> assumption) | (apply qm_cc <;> assumption) | (apply qq_cc <;> assumption) | (apply qv_cc <;> assumption) | (apply qz_cc <;> assumption) | (apply qr_cc <;> assumption)))) | (apply ql_cc <;> assumption) | (apply qbb_cc <;> assumption) | (apply qm_cc <;> assumption) | (apply qq_cc <;> assumption) | (apply qv_cc <;> assumption) | (apply qz_cc <;> assumption) | (apply qr_cc <;> assumption)))) | (apply ql_cc <;> assumption) | (apply qbb_cc <;> assumption) | (apply qm_cc <;> assumption) | (apply qq_cc <;> assumption) | (apply qv_cc <;> assumption) | (apply qz_cc <;> assumption) | (apply qr_cc <;> assumption))) rfl)) (fun _ => (Tr.t (by first | (exact is_true ⟨rfl, by omega, by omega, by omega⟩) | (simp only [decide_eq_true_eq] at *; rw [wrap64 (by omega) (by omega)]; constructor <;> omega) | (first | (apply is_true; and_intros <;> (first | rfl | assumption | (apply ql_cc <;> assumption) | (apply qbb_cc <;> assumption) | (apply qm_cc <;> assumption) | (apply qq_cc <;> assumption) | (apply qv_cc <;> assumption) | (apply qz_cc <;> assumption) | (apply qr_cc <;> assumption) | (first | (apply is_true; and_intros <;> (first | rfl | assumption | (apply ql_cc <;> assumption) | (apply qbb_cc <;> assumption) | (apply qm_cc <;> assumption) | (apply qq_cc <;> assumption) | (apply qv_cc <;> assumption) | (apply qz_cc <;> assumption) | (apply qr_cc <;> assumption) | (first | (apply is_true; and_intros <;> (first | rfl | assumption | (apply ql_cc <;> assumption) | (apply qbb_cc <;> assumption) | (apply qm_cc <;> assumption) | (apply qq_cc <;> assumption) | (apply qv_cc <;> assumption) | (apply qz_cc <;> assumption) | (apply qr_cc <;> assumption))) | (apply ql_cc <;> assumption) | (apply qbb_cc <;> assumption) | (apply qm_cc <;> assumption) | (apply qq_cc <;> assumption) | (apply qv_cc <;> assumption) | (apply qz_cc <;> assumption) | (apply qr_cc <;> assumption)))) | (apply ql_cc <;> assumption) | (apply qbb_cc <;> assumption) | (apply qm_cc <;> assumption) | (apply qq_cc <;> assumption) | (apply qv_cc <;> assumption) | (apply qz_cc <;> assumption) | (apply qr_cc <;> assumption)))) | (apply ql_cc <;> assumption) | (apply qbb_cc <;> assumption) | (apply qm_cc <;> assumption) | (apply qq_cc <;> assumption) | (apply qv_cc <;> assumption) | (apply qz_cc <;> assumption) | (apply qr_cc <;> assumption))) (by rw [Tr.val_ok, wrap64 (i := (i : Int) + 1) (by omega) (by omega)]; rfl)))))))))))))
  · show (qh_7_step k s sg bg NA NU ME BA ct low high (NA.length : Int)).val = _
    refine Tr.n (by first | (simp; done) | (simp; omega) | omega) ?_
    rfl
theorem qh_is7 : LoopIs tab FT D22 live 65 qh_lo 0 7 := by
  refine loop_told (sl := qh_7_sl) (step := qh_7_st) (out := qh_7_out) (lor := qh_lo7) (fin := fun x => (qh_7_fin (x.1) (x.2.1) (x.2.2.1) (x.2.2.2.1) (x.2.2.2.2.1) (x.2.2.2.2.2.1) (x.2.2.2.2.2.2.1) (x.2.2.2.2.2.2.2.1) (x.2.2.2.2.2.2.2.2.1) (x.2.2.2.2.2.2.2.2.2.1) (x.2.2.2.2.2.2.2.2.2.2.1) (x.2.2.2.2.2.2.2.2.2.2.2))) (fun _ => rfl) ?_ (fun x n => qh_7_r x.1 x.2.1 x.2.2.1 x.2.2.2.1 x.2.2.2.2.1 x.2.2.2.2.2.1 x.2.2.2.2.2.2.1 x.2.2.2.2.2.2.2.1 x.2.2.2.2.2.2.2.2.1 x.2.2.2.2.2.2.2.2.2.1 x.2.2.2.2.2.2.2.2.2.2.1 x.2.2.2.2.2.2.2.2.2.2.2 n) (fun x ow => qh_7_h x.1 x.2.1 x.2.2.1 x.2.2.2.1 x.2.2.2.2.1 x.2.2.2.2.2.1 x.2.2.2.2.2.2.1 x.2.2.2.2.2.2.2.1 x.2.2.2.2.2.2.2.2.1 x.2.2.2.2.2.2.2.2.2.1 x.2.2.2.2.2.2.2.2.2.2.1 x.2.2.2.2.2.2.2.2.2.2.2 ow)
  intro s t h
  unfold qh_lo7 at h
  split at h
  · cases h; exact ⟨(_, _, _, _, _, _, _, _, _, _, _, _), rfl, rfl⟩
  · cases h
noncomputable def qh_t (k s : Int) (sg bg : Bool) (NA NU ME BA : LL) (ct : Int) : Tr (Bool) := (.ite ((!(s == (0 : Int))) = true) (.ok false)
  (.ite ((!(qbu_v k s sg bg NA NU ME BA ct)) = true) (.ok false)
   (.ite ((decide ((ME.length : Int) > (0 : Int))) = true) (.ok false)
    (.ite ((!(ct == (0 : Int))) = true) (.ok false)
     (.ite ((!((BA.length : Int) == (1 : Int))) = true) (.ok false)
      (.ite ((0 : Int) ≤ (0 : Int) ∧ (0 : Int) < (BA.length : Int)) (.ite ((!((nth (row BA (0 : Int)) 0).int == (1 : Int))) = true) (.ok false)
        (.ite ((0 : Int) ≤ (0 : Int) ∧ (0 : Int) < (BA.length : Int)) (.ite ((!(qcn_v ((nth (row BA (0 : Int)) 0).int) ((nth (row BA (0 : Int)) 1).int) ((nth (row BA (0 : Int)) 2).bool) ((nth (row BA (0 : Int)) 3).bool) ((nth (row BA (0 : Int)) 4).list) ((nth (row BA (0 : Int)) 5).list) ((nth (row BA (0 : Int)) 6).list) ((nth (row BA (0 : Int)) 7).list) ((nth (row BA (0 : Int)) 8).int))) = true) (.ok false)
          (.ite ((decide ((NA.length : Int) < (1 : Int))) = true) (.ok false)
           (.ite ((decide ((NA.length : Int) > (6 : Int))) = true) (.ok false)
            (.ite ((!((NU.length : Int) == (NA.length : Int))) = true) (.ok false)
             (.ite ((0 : Int) ≤ (0 : Int) ∧ (0 : Int) < (BA.length : Int)) (.ite ((qz_c ((nth (row BA (0 : Int)) 0).int) ((nth (row BA (0 : Int)) 1).int) ((nth (row BA (0 : Int)) 2).bool) ((nth (row BA (0 : Int)) 3).bool) ((nth (row BA (0 : Int)) 4).list) ((nth (row BA (0 : Int)) 5).list) ((nth (row BA (0 : Int)) 6).list) ((nth (row BA (0 : Int)) 7).list) ((nth (row BA (0 : Int)) 8).int)) = true) (.ite ((qh_k7_1 k s sg bg NA NU ME BA ct ((qz_v ((nth (row BA (0 : Int)) 0).int) ((nth (row BA (0 : Int)) 1).int) ((nth (row BA (0 : Int)) 2).bool) ((nth (row BA (0 : Int)) 3).bool) ((nth (row BA (0 : Int)) 4).list) ((nth (row BA (0 : Int)) 5).list) ((nth (row BA (0 : Int)) 6).list) ((nth (row BA (0 : Int)) 7).list) ((nth (row BA (0 : Int)) 8).int)).1) ((qz_v ((nth (row BA (0 : Int)) 0).int) ((nth (row BA (0 : Int)) 1).int) ((nth (row BA (0 : Int)) 2).bool) ((nth (row BA (0 : Int)) 3).bool) ((nth (row BA (0 : Int)) 4).list) ((nth (row BA (0 : Int)) 5).list) ((nth (row BA (0 : Int)) 6).list) ((nth (row BA (0 : Int)) 7).list) ((nth (row BA (0 : Int)) 8).int)).2) (0 : Int)) = true) (.ite ((qh_o7_2 k s sg bg NA NU ME BA ct ((qz_v ((nth (row BA (0 : Int)) 0).int) ((nth (row BA (0 : Int)) 1).int) ((nth (row BA (0 : Int)) 2).bool) ((nth (row BA (0 : Int)) 3).bool) ((nth (row BA (0 : Int)) 4).list) ((nth (row BA (0 : Int)) 5).list) ((nth (row BA (0 : Int)) 6).list) ((nth (row BA (0 : Int)) 7).list) ((nth (row BA (0 : Int)) 8).int)).1) ((qz_v ((nth (row BA (0 : Int)) 0).int) ((nth (row BA (0 : Int)) 1).int) ((nth (row BA (0 : Int)) 2).bool) ((nth (row BA (0 : Int)) 3).bool) ((nth (row BA (0 : Int)) 4).list) ((nth (row BA (0 : Int)) 5).list) ((nth (row BA (0 : Int)) 6).list) ((nth (row BA (0 : Int)) 7).list) ((nth (row BA (0 : Int)) 8).int)).2) (0 : Int)) = true) (.ok false)
                 .no)
                (.ite ((qh_o7_3 k s sg bg NA NU ME BA ct ((qz_v ((nth (row BA (0 : Int)) 0).int) ((nth (row BA (0 : Int)) 1).int) ((nth (row BA (0 : Int)) 2).bool) ((nth (row BA (0 : Int)) 3).bool) ((nth (row BA (0 : Int)) 4).list) ((nth (row BA (0 : Int)) 5).list) ((nth (row BA (0 : Int)) 6).list) ((nth (row BA (0 : Int)) 7).list) ((nth (row BA (0 : Int)) 8).int)).1) ((qz_v ((nth (row BA (0 : Int)) 0).int) ((nth (row BA (0 : Int)) 1).int) ((nth (row BA (0 : Int)) 2).bool) ((nth (row BA (0 : Int)) 3).bool) ((nth (row BA (0 : Int)) 4).list) ((nth (row BA (0 : Int)) 5).list) ((nth (row BA (0 : Int)) 6).list) ((nth (row BA (0 : Int)) 7).list) ((nth (row BA (0 : Int)) 8).int)).2) (0 : Int)) = true) (.ok true)
                 .no))
               .no)
              .no)))))
         .no))
       .no))))))
def qh_mk (p : Bool) : Res := [(false, [⟨.bool, .sh, TC.b p⟩])]
noncomputable def qh_c (k s : Int) (sg bg : Bool) (NA NU ME BA : LL) (ct : Int) : Bool := (bif (!(s == (0 : Int))) then true else (bif (!(qbu_v k s sg bg NA NU ME BA ct)) then true else (bif (decide ((ME.length : Int) > (0 : Int))) then true else (bif (!(ct == (0 : Int))) then true else (bif (!((BA.length : Int) == (1 : Int))) then true else (is ((0 : Int) ≤ (0 : Int) ∧ (0 : Int) < (BA.length : Int)) && (bif (!((nth (row BA (0 : Int)) 0).int == (1 : Int))) then true else (is ((0 : Int) ≤ (0 : Int) ∧ (0 : Int) < (BA.length : Int)) && (bif (!(qcn_v ((nth (row BA (0 : Int)) 0).int) ((nth (row BA (0 : Int)) 1).int) ((nth (row BA (0 : Int)) 2).bool) ((nth (row BA (0 : Int)) 3).bool) ((nth (row BA (0 : Int)) 4).list) ((nth (row BA (0 : Int)) 5).list) ((nth (row BA (0 : Int)) 6).list) ((nth (row BA (0 : Int)) 7).list) ((nth (row BA (0 : Int)) 8).int))) then true else (bif (decide ((NA.length : Int) < (1 : Int))) then true else (bif (decide ((NA.length : Int) > (6 : Int))) then true else (bif (!((NU.length : Int) == (NA.length : Int))) then true else (is ((0 : Int) ≤ (0 : Int) ∧ (0 : Int) < (BA.length : Int)) && ((qz_c ((nth (row BA (0 : Int)) 0).int) ((nth (row BA (0 : Int)) 1).int) ((nth (row BA (0 : Int)) 2).bool) ((nth (row BA (0 : Int)) 3).bool) ((nth (row BA (0 : Int)) 4).list) ((nth (row BA (0 : Int)) 5).list) ((nth (row BA (0 : Int)) 6).list) ((nth (row BA (0 : Int)) 7).list) ((nth (row BA (0 : Int)) 8).int)) && (bif (qh_k7_1 k s sg bg NA NU ME BA ct ((qz_v ((nth (row BA (0 : Int)) 0).int) ((nth (row BA (0 : Int)) 1).int) ((nth (row BA (0 : Int)) 2).bool) ((nth (row BA (0 : Int)) 3).bool) ((nth (row BA (0 : Int)) 4).list) ((nth (row BA (0 : Int)) 5).list) ((nth (row BA (0 : Int)) 6).list) ((nth (row BA (0 : Int)) 7).list) ((nth (row BA (0 : Int)) 8).int)).1) ((qz_v ((nth (row BA (0 : Int)) 0).int) ((nth (row BA (0 : Int)) 1).int) ((nth (row BA (0 : Int)) 2).bool) ((nth (row BA (0 : Int)) 3).bool) ((nth (row BA (0 : Int)) 4).list) ((nth (row BA (0 : Int)) 5).list) ((nth (row BA (0 : Int)) 6).list) ((nth (row BA (0 : Int)) 7).list) ((nth (row BA (0 : Int)) 8).int)).2) (0 : Int)) then ((qh_o7_2 k s sg bg NA NU ME BA ct ((qz_v ((nth (row BA (0 : Int)) 0).int) ((nth (row BA (0 : Int)) 1).int) ((nth (row BA (0 : Int)) 2).bool) ((nth (row BA (0 : Int)) 3).bool) ((nth (row BA (0 : Int)) 4).list) ((nth (row BA (0 : Int)) 5).list) ((nth (row BA (0 : Int)) 6).list) ((nth (row BA (0 : Int)) 7).list) ((nth (row BA (0 : Int)) 8).int)).1) ((qz_v ((nth (row BA (0 : Int)) 0).int) ((nth (row BA (0 : Int)) 1).int) ((nth (row BA (0 : Int)) 2).bool) ((nth (row BA (0 : Int)) 3).bool) ((nth (row BA (0 : Int)) 4).list) ((nth (row BA (0 : Int)) 5).list) ((nth (row BA (0 : Int)) 6).list) ((nth (row BA (0 : Int)) 7).list) ((nth (row BA (0 : Int)) 8).int)).2) (0 : Int)) && true) else ((qh_o7_3 k s sg bg NA NU ME BA ct ((qz_v ((nth (row BA (0 : Int)) 0).int) ((nth (row BA (0 : Int)) 1).int) ((nth (row BA (0 : Int)) 2).bool) ((nth (row BA (0 : Int)) 3).bool) ((nth (row BA (0 : Int)) 4).list) ((nth (row BA (0 : Int)) 5).list) ((nth (row BA (0 : Int)) 6).list) ((nth (row BA (0 : Int)) 7).list) ((nth (row BA (0 : Int)) 8).int)).1) ((qz_v ((nth (row BA (0 : Int)) 0).int) ((nth (row BA (0 : Int)) 1).int) ((nth (row BA (0 : Int)) 2).bool) ((nth (row BA (0 : Int)) 3).bool) ((nth (row BA (0 : Int)) 4).list) ((nth (row BA (0 : Int)) 5).list) ((nth (row BA (0 : Int)) 6).list) ((nth (row BA (0 : Int)) 7).list) ((nth (row BA (0 : Int)) 8).int)).2) (0 : Int)) && true))))))))))))))))
noncomputable def qh_v (k s : Int) (sg bg : Bool) (NA NU ME BA : LL) (ct : Int) : Bool := (bif (!(s == (0 : Int))) then false else (bif (!(qbu_v k s sg bg NA NU ME BA ct)) then false else (bif (decide ((ME.length : Int) > (0 : Int))) then false else (bif (!(ct == (0 : Int))) then false else (bif (!((BA.length : Int) == (1 : Int))) then false else (bif (!((nth (row BA (0 : Int)) 0).int == (1 : Int))) then false else (bif (!(qcn_v ((nth (row BA (0 : Int)) 0).int) ((nth (row BA (0 : Int)) 1).int) ((nth (row BA (0 : Int)) 2).bool) ((nth (row BA (0 : Int)) 3).bool) ((nth (row BA (0 : Int)) 4).list) ((nth (row BA (0 : Int)) 5).list) ((nth (row BA (0 : Int)) 6).list) ((nth (row BA (0 : Int)) 7).list) ((nth (row BA (0 : Int)) 8).int))) then false else (bif (decide ((NA.length : Int) < (1 : Int))) then false else (bif (decide ((NA.length : Int) > (6 : Int))) then false else (bif (!((NU.length : Int) == (NA.length : Int))) then false else (bif (qh_k7_1 k s sg bg NA NU ME BA ct ((qz_v ((nth (row BA (0 : Int)) 0).int) ((nth (row BA (0 : Int)) 1).int) ((nth (row BA (0 : Int)) 2).bool) ((nth (row BA (0 : Int)) 3).bool) ((nth (row BA (0 : Int)) 4).list) ((nth (row BA (0 : Int)) 5).list) ((nth (row BA (0 : Int)) 6).list) ((nth (row BA (0 : Int)) 7).list) ((nth (row BA (0 : Int)) 8).int)).1) ((qz_v ((nth (row BA (0 : Int)) 0).int) ((nth (row BA (0 : Int)) 1).int) ((nth (row BA (0 : Int)) 2).bool) ((nth (row BA (0 : Int)) 3).bool) ((nth (row BA (0 : Int)) 4).list) ((nth (row BA (0 : Int)) 5).list) ((nth (row BA (0 : Int)) 6).list) ((nth (row BA (0 : Int)) 7).list) ((nth (row BA (0 : Int)) 8).int)).2) (0 : Int)) then false else true)))))))))))
theorem qh_l (k s : Int) (sg bg : Bool) (NA NU ME BA : LL) (ct : Int) : (qh_c k s sg bg NA NU ME BA ct) = true → (qh_t k s sg bg NA NU ME BA ct).val = some (qh_v k s sg bg NA NU ME BA ct) := by
  unfold qh_t qh_v qh_c
  exact fun h => (Tr.ss h (fun h => rfl) (fun h => (Tr.ss h (fun h => rfl) (fun h => (Tr.ss h (fun h => rfl) (fun h => (Tr.ss h (fun h => rfl) (fun h => (Tr.ss h (fun h => rfl) (fun h => (Tr.gs h fun h => (Tr.ss h (fun h => rfl) (fun h => (Tr.gs h fun h => (Tr.ss h (fun h => rfl) (fun h => (Tr.ss h (fun h => rfl) (fun h => (Tr.ss h (fun h => rfl) (fun h => (Tr.ss h (fun h => rfl) (fun h => (Tr.gs h fun h => (Tr.gb h fun h => (Tr.ss h (fun h => (Tr.gb h fun h => rfl)) (fun h => (Tr.gb h fun h => rfl)))))))))))))))))))))))))))
noncomputable def qh_S : List Arg → Option (Bool × Res) := fun xs => match xs with
  | [(true, [(.int .i64, TC.i k), (.int .i64, TC.i s), (.bool, TC.b sg), (.bool, TC.b bg), (.slice 9, TC.l NA), (.slice 2, TC.l NU), (.slice 71, TC.l ME), (.slice 32, TC.l BA), (.int .i64, TC.i ct)])] => some ((qh_c k s sg bg NA NU ME BA ct), qh_mk (qh_v k s sg bg NA NU ME BA ct))
  | _ => .none
theorem qh_e (k s : Int) (sg bg : Bool) (NA NU ME BA : LL) (ct : Int) : runF tab FT D22 live 65 qh_lo [(true, [(.int .i64, TC.i k), (.int .i64, TC.i s), (.bool, TC.b sg), (.bool, TC.b bg), (.slice 9, TC.l NA), (.slice 2, TC.l NU), (.slice 71, TC.l ME), (.slice 32, TC.l BA), (.int .i64, TC.i ct)])] = (qh_t k s sg bg NA NU ME BA ct).run fun p => some (qh_mk p) := by kernel_rfl
theorem qh_s : ∀ xs r, qh_S xs = some (true, r) → runF tab FT D22 live 65 qh_lo xs = some r := by
  intro xs r h
  unfold qh_S at h
  split at h
  · simp only [Option.some.injEq, Prod.mk.injEq] at h
    obtain ⟨h1, rfl⟩ := h
    exact fun_told (qh_e _ _ _ _ _ _ _ _ _) (qh_l _ _ _ _ _ _ _ _ _) h1
  · cases h
noncomputable def D23 : Dt := also D22 65 qh_S
theorem d23 : DOk Go.Proofs.Try.prog tab D23 := d22.also mixed_ok tab_ok names_ok (fnLoops_two (by kernel_rfl) qh_is7 qh_is12) qh_s
theorem qh_cc {k : Int} {s : Int} {sg : Bool} {bg : Bool} {NA : LL} {NU : LL} {ME : LL} {BA : LL} {ct : Int} (t4 : Typed tab (.slice 9) (.l NA)) : (qh_c k s sg bg NA NU ME BA ct) = true := by
  unfold qh_c
  refine bifT (fun b1 => ?_) (fun b1 => ?_)
  · skip
    rfl
  · skip
    refine bifT (fun b2 => ?_) (fun b2 => ?_)
    · skip
      rfl
    · skip
      refine bifT (fun b3 => ?_) (fun b3 => ?_)
      · skip
        rfl
      · skip
        refine bifT (fun b4 => ?_) (fun b4 => ?_)
        · skip
          rfl
        · skip
          refine bifT (fun b5 => ?_) (fun b5 => ?_)
          · skip
            rfl
          · skip
            refine andT (is_true (by have e5 := bneF b5; omega)) ?_
            refine bifT (fun b6 => ?_) (fun b6 => ?_)
            · skip
              rfl
            · skip
              refine andT (is_true (by have e5 := bneF b5; omega)) ?_
              refine bifT (fun b7 => ?_) (fun b7 => ?_)
              · skip
                rfl
              · skip
                refine bifT (fun b8 => ?_) (fun b8 => ?_)
                · skip
                  rfl
                · skip
                  refine bifT (fun b9 => ?_) (fun b9 => ?_)
                  · skip
                    rfl
                  · skip
                    refine bifT (fun b10 => ?_) (fun b10 => ?_)
                    · skip
                      rfl
                    · skip
                      refine andT (is_true (by have e5 := bneF b5; omega)) ?_
                      refine andT (by exact qz_cc) ?_
                      refine bifT (fun b11 => ?_) (fun b11 => ?_)
                      · skip
                        refine andT (by have e5 := bneF b5; have e10 := bneF b10; exact is_true ⟨rfl, t4, by omega⟩) ?_
                        rfl
                      · skip
                        refine andT (by have e5 := bneF b5; have e10 := bneF b10; exact is_true ⟨rfl, t4, by omega⟩) ?_
                        rfl
theorem range_lo {k s : Int} {sg bg : Bool} {NA NU ME BA : LL} {ct : Int} (h : intV s sg bg NA NU ME BA ct = true) : (qz_v k s sg bg NA NU ME BA ct).1 = loV s sg ∧ (qz_v k s sg bg NA NU ME BA ct).2 = hiV s sg := by
  unfold intV has4 at h
  simp only [Bool.and_eq_true, Bool.or_eq_true, beq_iff_eq] at h
  have hs := h.1.1.1
  have h8 := h.1.1.2
  rcases hs with ((rfl | rfl) | rfl) | rfl <;> cases sg <;> first | (exact ⟨by unfold qz_v loV; decide, by unfold qz_v hiV; decide⟩) | (exact absurd h8 (by decide))
theorem qh_vv (k s : Int) (sg bg : Bool) (NA NU ME BA : LL) (ct : Int) : qh_v k s sg bg NA NU ME BA ct = enumV s sg bg NA NU ME BA ct := by
  unfold qh_v enumV
  rw [show qbu_v k s sg bg NA NU ME BA ct = plain sg bg from by unfold qbu_v plain; cases sg <;> cases bg <;> rfl, show qcn_v (nth (row BA (0 : Int)) 0).int (nth (row BA (0 : Int)) 1).int (nth (row BA (0 : Int)) 2).bool (nth (row BA (0 : Int)) 3).bool (nth (row BA (0 : Int)) 4).list (nth (row BA (0 : Int)) 5).list (nth (row BA (0 : Int)) 6).list (nth (row BA (0 : Int)) 7).list (nth (row BA (0 : Int)) 8).int = intV (nth (row BA (0 : Int)) 1).int (nth (row BA (0 : Int)) 2).bool (nth (row BA (0 : Int)) 3).bool (nth (row BA (0 : Int)) 4).list (nth (row BA (0 : Int)) 5).list (nth (row BA (0 : Int)) 6).list (nth (row BA (0 : Int)) 7).list (nth (row BA (0 : Int)) 8).int from rfl]
  cases hI : intV (nth (row BA (0 : Int)) 1).int (nth (row BA (0 : Int)) 2).bool (nth (row BA (0 : Int)) 3).bool (nth (row BA (0 : Int)) 4).list (nth (row BA (0 : Int)) 5).list (nth (row BA (0 : Int)) 6).list (nth (row BA (0 : Int)) 7).list (nth (row BA (0 : Int)) 8).int with
  | false => simp only [bif_nf, bif_tf, bif_ft, Bool.not_not, Bool.false_and, Bool.and_false]
  | true =>
    rw [show ∀ lo hi, qh_k7_1 k s sg bg NA NU ME BA ct lo hi 0 = !(allI (fun i : Nat => enumP NA NU lo hi (i : Int)) NA.length) from fun lo hi => by unfold qh_k7_1; rw [qh_R7_eq]; generalize allI _ _ = q; cases q <;> rfl]
    rw [(range_lo (k := (nth (row BA (0 : Int)) 0).int) hI).1, (range_lo (k := (nth (row BA (0 : Int)) 0).int) hI).2]
    simp only [bif_nf, bif_tf, bif_ft, Bool.not_not, Bool.and_true]
section
class qbk_O where n : Nat
variable [i_spec_l02Ok : qbk_O]
noncomputable def qbk_rc (k s : Int) (sg bg : Bool) (NA NU ME BA : LL) (ct : Int) : Bool := is (max (rowsDep ME) (rowsDep BA) < qbk_O.n ∧ max (rowsDep ME) (rowsDep BA) < qt_O.n ∧ max (rowsDep ME) (rowsDep BA) < qi_O.n ∧ Typed tab (.slice 9) (.l NA) ∧ Typed tab (.slice 2) (.l NU) ∧ Typed tab (.slice 71) (.l ME) ∧ Typed tab (.slice 32) (.l BA))
noncomputable def qbk_rv (k s : Int) (sg bg : Bool) (NA NU ME BA : LL) (ct : Int) : Bool := okV k s sg bg NA NU ME BA ct
def qbk_rmk (p : Bool) : Res := [(false, [⟨.bool, .sh, TC.b p⟩])]
noncomputable def qbk_rS : List Arg → Option (Bool × Res) := fun xs => match xs with
  | [(true, [(.int .i64, TC.i k), (.int .i64, TC.i s), (.bool, TC.b sg), (.bool, TC.b bg), (.slice 9, TC.l NA), (.slice 2, TC.l NU), (.slice 71, TC.l ME), (.slice 32, TC.l BA), (.int .i64, TC.i ct)])] => some ((qbk_rc k s sg bg NA NU ME BA ct), qbk_rmk (qbk_rv k s sg bg NA NU ME BA ct))
  | _ => .none
noncomputable def D24 : Dt := also D23 30 qbk_rS
class qbk_G : Prop where ok : DOk Go.Proofs.Try.prog tab D24
variable [g_spec_l02Ok : qbk_G]
theorem d24 : DOk Go.Proofs.Try.prog tab D24 := qbk_G.ok
noncomputable def qd_f13 (k s : Int) (sg bg : Bool) (NA NU ME BA : LL) (ct en ix : Int) (mn : BS) (mo mk ms : Int) (msg mbg : Bool) (mNA mNU mME mBA : LL) (mct q : Int) : (Unit) ⊕ ((Int × Int × Bool × Bool × LL × LL × LL × LL × Int × Int × Int × BS × Int × Int × Int × Bool × Bool × LL × LL × LL × LL × Int) ⊕ (Int × Int × Bool × Bool × LL × LL × LL × LL × Int × Int × Int × BS × Int × Int × Int × Bool × Bool × LL × LL × LL × LL × Int)) := (bif ((nth (row ME q) 0).str == mn) then (.inr (.inl (k, s, sg, bg, NA, NU, ME, BA, ct, en, ix, mn, mo, mk, ms, msg, mbg, mNA, mNU, mME, mBA, mct))) else (.inl ()))
noncomputable def qd_e13 (k s : Int) (sg bg : Bool) (NA NU ME BA : LL) (ct en ix : Int) (mn : BS) (mo mk ms : Int) (msg mbg : Bool) (mNA mNU mME mBA : LL) (mct : Int) : (Int × Int × Bool × Bool × LL × LL × LL × LL × Int × Int × Int × BS × Int × Int × Int × Bool × Bool × LL × LL × LL × LL × Int) ⊕ (Int × Int × Bool × Bool × LL × LL × LL × LL × Int × Int × Int × BS × Int × Int × Int × Bool × Bool × LL × LL × LL × LL × Int) := .inr (k, s, sg, bg, NA, NU, ME, BA, ct, en, ix, mn, mo, mk, ms, msg, mbg, mNA, mNU, mME, mBA, mct)
noncomputable def qd_R13 (k s : Int) (sg bg : Bool) (NA NU ME BA : LL) (ct en ix : Int) (mn : BS) (mo mk ms : Int) (msg mbg : Bool) (mNA mNU mME mBA : LL) (mct q : Int) : (Int × Int × Bool × Bool × LL × LL × LL × LL × Int × Int × Int × BS × Int × Int × Int × Bool × Bool × LL × LL × LL × LL × Int) ⊕ (Int × Int × Bool × Bool × LL × LL × LL × LL × Int × Int × Int × BS × Int × Int × Int × Bool × Bool × LL × LL × LL × LL × Int) := iter (fun i a => (qd_f13 k s sg bg NA NU ME BA ct en ix mn mo mk ms msg mbg mNA mNU mME mBA mct (i : Int))) (fun a => (qd_e13 k s sg bg NA NU ME BA ct en ix mn mo mk ms msg mbg mNA mNU mME mBA mct)) (ix.toNat) 0 ()
abbrev qd_13_σ := Int × Int × Bool × Bool × LL × LL × LL × LL × Int × Int × Int × BS × Int × Int × Int × Bool × Bool × LL × LL × LL × LL × Int × Int
abbrev qd_13_ω := (Int × Int × Bool × Bool × LL × LL × LL × LL × Int × Int × Int × BS × Int × Int × Int × Bool × Bool × LL × LL × LL × LL × Int) ⊕ (Int × Int × Bool × Bool × LL × LL × LL × LL × Int × Int × Int × BS × Int × Int × Int × Bool × Bool × LL × LL × LL × LL × Int)
noncomputable def qd_13_step (k s : Int) (sg bg : Bool) (NA NU ME BA : LL) (ct en ix : Int) (mn : BS) (mo mk ms : Int) (msg mbg : Bool) (mNA mNU mME mBA : LL) (mct q : Int) : Tr (qd_13_σ ⊕ qd_13_ω) := (.ite ((decide (q < ix)) = true) (.ite ((0 : Int) ≤ q ∧ q < (ME.length : Int)) (.ite (((nth (row ME q) 0).str == mn) = true) (.ok (.inr (.inl (k, s, sg, bg, NA, NU, ME, BA, ct, en, ix, mn, mo, mk, ms, msg, mbg, mNA, mNU, mME, mBA, mct))))
    (.ok (.inl (k, s, sg, bg, NA, NU, ME, BA, ct, en, ix, mn, mo, mk, ms, msg, mbg, mNA, mNU, mME, mBA, mct, (IntKind.wrap .i64 (q + (1 : Int)))))))
   .no)
  (.ok (.inr (.inr (k, s, sg, bg, NA, NU, ME, BA, ct, en, ix, mn, mo, mk, ms, msg, mbg, mNA, mNU, mME, mBA, mct)))))
noncomputable def qd_13_st : qd_13_σ → Tr (qd_13_σ ⊕ qd_13_ω) := fun x => (qd_13_step (x.1) (x.2.1) (x.2.2.1) (x.2.2.2.1) (x.2.2.2.2.1) (x.2.2.2.2.2.1) (x.2.2.2.2.2.2.1) (x.2.2.2.2.2.2.2.1) (x.2.2.2.2.2.2.2.2.1) (x.2.2.2.2.2.2.2.2.2.1) (x.2.2.2.2.2.2.2.2.2.2.1) (x.2.2.2.2.2.2.2.2.2.2.2.1) (x.2.2.2.2.2.2.2.2.2.2.2.2.1) (x.2.2.2.2.2.2.2.2.2.2.2.2.2.1) (x.2.2.2.2.2.2.2.2.2.2.2.2.2.2.1) (x.2.2.2.2.2.2.2.2.2.2.2.2.2.2.2.1) (x.2.2.2.2.2.2.2.2.2.2.2.2.2.2.2.2.1) (x.2.2.2.2.2.2.2.2.2.2.2.2.2.2.2.2.2.1) (x.2.2.2.2.2.2.2.2.2.2.2.2.2.2.2.2.2.2.1) (x.2.2.2.2.2.2.2.2.2.2.2.2.2.2.2.2.2.2.2.1) (x.2.2.2.2.2.2.2.2.2.2.2.2.2.2.2.2.2.2.2.2.1) (x.2.2.2.2.2.2.2.2.2.2.2.2.2.2.2.2.2.2.2.2.2.1) (x.2.2.2.2.2.2.2.2.2.2.2.2.2.2.2.2.2.2.2.2.2.2))
noncomputable def qd_k13_1 (k s : Int) (sg bg : Bool) (NA NU ME BA : LL) (ct en ix : Int) (mn : BS) (mo mk ms : Int) (msg mbg : Bool) (mNA mNU mME mBA : LL) (mct q : Int) : Bool := sumIs (qd_R13 k s sg bg NA NU ME BA ct en ix mn mo mk ms msg mbg mNA mNU mME mBA mct q)
noncomputable def qd_o13_2 (k s : Int) (sg bg : Bool) (NA NU ME BA : LL) (ct en ix : Int) (mn : BS) (mo mk ms : Int) (msg mbg : Bool) (mNA mNU mME mBA : LL) (mct q : Int) : Bool := is (q = 0 ∧ 0 ≤ ix ∧ ix < (ME.length : Int) ∧ ME.length ≤ 140737488355328)
noncomputable def qd_o13_3 (k s : Int) (sg bg : Bool) (NA NU ME BA : LL) (ct en ix : Int) (mn : BS) (mo mk ms : Int) (msg mbg : Bool) (mNA mNU mME mBA : LL) (mct q : Int) : Bool := is (q = 0 ∧ 0 ≤ ix ∧ ix < (ME.length : Int) ∧ ME.length ≤ 140737488355328)
noncomputable def qd_13_fin (k s : Int) (sg bg : Bool) (NA NU ME BA : LL) (ct en ix : Int) (mn : BS) (mo mk ms : Int) (msg mbg : Bool) (mNA mNU mME mBA : LL) (mct q : Int) : Told qd_13_ω := (.br (qd_k13_1 k s sg bg NA NU ME BA ct en ix mn mo mk ms msg mbg mNA mNU mME mBA mct q) (.leaf (qd_o13_2 k s sg bg NA NU ME BA ct en ix mn mo mk ms msg mbg mNA mNU mME mBA mct q) (.inl (k, s, sg, bg, NA, NU, ME, BA, ct, en, ix, mn, mo, mk, ms, msg, mbg, mNA, mNU, mME, mBA, mct))) (.leaf (qd_o13_3 k s sg bg NA NU ME BA ct en ix mn mo mk ms msg mbg mNA mNU mME mBA mct q) (.inr (k, s, sg, bg, NA, NU, ME, BA, ct, en, ix, mn, mo, mk, ms, msg, mbg, mNA, mNU, mME, mBA, mct))))
def qd_13_sl : qd_13_σ → List Slot := fun x => match x with | (k, s, sg, bg, NA, NU, ME, BA, ct, en, ix, mn, mo, mk, ms, msg, mbg, mNA, mNU, mME, mBA, mct, q) => [⟨.bx 32 [⟨.int .i64, .sh, TC.i k⟩, ⟨.int .i64, .sh, TC.i s⟩, ⟨.bool, .sh, TC.b sg⟩, ⟨.bool, .sh, TC.b bg⟩, ⟨.slice 9, .sh, TC.l NA⟩, ⟨.slice 2, .sh, TC.l NU⟩, ⟨.slice 71, .sh, TC.l ME⟩, ⟨.slice 32, .sh, TC.l BA⟩, ⟨.int .i64, .sh, TC.i ct⟩], ⟨0, 0⟩⟩, ⟨.val false [⟨.int .i64, .sh, TC.i en⟩], ⟨0, 0⟩⟩, ⟨.val false [⟨.int .i64, .sh, TC.i ix⟩], ⟨0, 0⟩⟩, ⟨.bx 71 [⟨.str, .sh, TC.s mn⟩, ⟨.int .i64, .sh, TC.i mo⟩, ⟨.int .i64, .sh, TC.i mk⟩, ⟨.int .i64, .sh, TC.i ms⟩, ⟨.bool, .sh, TC.b msg⟩, ⟨.bool, .sh, TC.b mbg⟩, ⟨.slice 9, .sh, TC.l mNA⟩, ⟨.slice 2, .sh, TC.l mNU⟩, ⟨.slice 71, .sh, TC.l mME⟩, ⟨.slice 32, .sh, TC.l mBA⟩, ⟨.int .i64, .sh, TC.i mct⟩], ⟨0, 0⟩⟩, ⟨.val false [⟨.int .i64, .sh, TC.i q⟩], ⟨0, 0⟩⟩]
def qd_13_out : qd_13_ω → Ex × List Slot := (Sum.elim (fun x => (.ret, [⟨.bx 32 [⟨.int .i64, .sh, TC.i (x.1)⟩, ⟨.int .i64, .sh, TC.i (x.2.1)⟩, ⟨.bool, .sh, TC.b (x.2.2.1)⟩, ⟨.bool, .sh, TC.b (x.2.2.2.1)⟩, ⟨.slice 9, .sh, TC.l (x.2.2.2.2.1)⟩, ⟨.slice 2, .sh, TC.l (x.2.2.2.2.2.1)⟩, ⟨.slice 71, .sh, TC.l (x.2.2.2.2.2.2.1)⟩, ⟨.slice 32, .sh, TC.l (x.2.2.2.2.2.2.2.1)⟩, ⟨.int .i64, .sh, TC.i (x.2.2.2.2.2.2.2.2.1)⟩], ⟨0, 0⟩⟩, ⟨.val false [⟨.bool, .sh, TC.b false⟩], ⟨0, 0⟩⟩, ⟨.val false [⟨.int .i64, .sh, TC.i (x.2.2.2.2.2.2.2.2.2.1)⟩], ⟨0, 0⟩⟩, ⟨.val false [⟨.int .i64, .sh, TC.i (x.2.2.2.2.2.2.2.2.2.2.1)⟩], ⟨0, 0⟩⟩, ⟨.bx 71 [⟨.str, .sh, TC.s (x.2.2.2.2.2.2.2.2.2.2.2.1)⟩, ⟨.int .i64, .sh, TC.i (x.2.2.2.2.2.2.2.2.2.2.2.2.1)⟩, ⟨.int .i64, .sh, TC.i (x.2.2.2.2.2.2.2.2.2.2.2.2.2.1)⟩, ⟨.int .i64, .sh, TC.i (x.2.2.2.2.2.2.2.2.2.2.2.2.2.2.1)⟩, ⟨.bool, .sh, TC.b (x.2.2.2.2.2.2.2.2.2.2.2.2.2.2.2.1)⟩, ⟨.bool, .sh, TC.b (x.2.2.2.2.2.2.2.2.2.2.2.2.2.2.2.2.1)⟩, ⟨.slice 9, .sh, TC.l (x.2.2.2.2.2.2.2.2.2.2.2.2.2.2.2.2.2.1)⟩, ⟨.slice 2, .sh, TC.l (x.2.2.2.2.2.2.2.2.2.2.2.2.2.2.2.2.2.2.1)⟩, ⟨.slice 71, .sh, TC.l (x.2.2.2.2.2.2.2.2.2.2.2.2.2.2.2.2.2.2.2.1)⟩, ⟨.slice 32, .sh, TC.l (x.2.2.2.2.2.2.2.2.2.2.2.2.2.2.2.2.2.2.2.2.1)⟩, ⟨.int .i64, .sh, TC.i (x.2.2.2.2.2.2.2.2.2.2.2.2.2.2.2.2.2.2.2.2.2)⟩], ⟨0, 0⟩⟩])) (fun x => (.exit 2, [⟨.bx 32 [⟨.int .i64, .sh, TC.i (x.1)⟩, ⟨.int .i64, .sh, TC.i (x.2.1)⟩, ⟨.bool, .sh, TC.b (x.2.2.1)⟩, ⟨.bool, .sh, TC.b (x.2.2.2.1)⟩, ⟨.slice 9, .sh, TC.l (x.2.2.2.2.1)⟩, ⟨.slice 2, .sh, TC.l (x.2.2.2.2.2.1)⟩, ⟨.slice 71, .sh, TC.l (x.2.2.2.2.2.2.1)⟩, ⟨.slice 32, .sh, TC.l (x.2.2.2.2.2.2.2.1)⟩, ⟨.int .i64, .sh, TC.i (x.2.2.2.2.2.2.2.2.1)⟩], ⟨0, 0⟩⟩, Slot.none, ⟨.val false [⟨.int .i64, .sh, TC.i (x.2.2.2.2.2.2.2.2.2.1)⟩], ⟨0, 0⟩⟩, ⟨.val false [⟨.int .i64, .sh, TC.i (x.2.2.2.2.2.2.2.2.2.2.1)⟩], ⟨0, 0⟩⟩, ⟨.bx 71 [⟨.str, .sh, TC.s (x.2.2.2.2.2.2.2.2.2.2.2.1)⟩, ⟨.int .i64, .sh, TC.i (x.2.2.2.2.2.2.2.2.2.2.2.2.1)⟩, ⟨.int .i64, .sh, TC.i (x.2.2.2.2.2.2.2.2.2.2.2.2.2.1)⟩, ⟨.int .i64, .sh, TC.i (x.2.2.2.2.2.2.2.2.2.2.2.2.2.2.1)⟩, ⟨.bool, .sh, TC.b (x.2.2.2.2.2.2.2.2.2.2.2.2.2.2.2.1)⟩, ⟨.bool, .sh, TC.b (x.2.2.2.2.2.2.2.2.2.2.2.2.2.2.2.2.1)⟩, ⟨.slice 9, .sh, TC.l (x.2.2.2.2.2.2.2.2.2.2.2.2.2.2.2.2.2.1)⟩, ⟨.slice 2, .sh, TC.l (x.2.2.2.2.2.2.2.2.2.2.2.2.2.2.2.2.2.2.1)⟩, ⟨.slice 71, .sh, TC.l (x.2.2.2.2.2.2.2.2.2.2.2.2.2.2.2.2.2.2.2.1)⟩, ⟨.slice 32, .sh, TC.l (x.2.2.2.2.2.2.2.2.2.2.2.2.2.2.2.2.2.2.2.2.1)⟩, ⟨.int .i64, .sh, TC.i (x.2.2.2.2.2.2.2.2.2.2.2.2.2.2.2.2.2.2.2.2.2)⟩], ⟨0, 0⟩⟩])))
noncomputable def qd_lo13 : List Slot → Option (Told (Ex × List Slot)) := fun s => match s with
  | [⟨.bx 32 [⟨.int .i64, .sh, TC.i k⟩, ⟨.int .i64, .sh, TC.i s⟩, ⟨.bool, .sh, TC.b sg⟩, ⟨.bool, .sh, TC.b bg⟩, ⟨.slice 9, .sh, TC.l NA⟩, ⟨.slice 2, .sh, TC.l NU⟩, ⟨.slice 71, .sh, TC.l ME⟩, ⟨.slice 32, .sh, TC.l BA⟩, ⟨.int .i64, .sh, TC.i ct⟩], ⟨0, 0⟩⟩, ⟨.val false [⟨.int .i64, .sh, TC.i en⟩], ⟨0, 0⟩⟩, ⟨.val false [⟨.int .i64, .sh, TC.i ix⟩], ⟨0, 0⟩⟩, ⟨.bx 71 [⟨.str, .sh, TC.s mn⟩, ⟨.int .i64, .sh, TC.i mo⟩, ⟨.int .i64, .sh, TC.i mk⟩, ⟨.int .i64, .sh, TC.i ms⟩, ⟨.bool, .sh, TC.b msg⟩, ⟨.bool, .sh, TC.b mbg⟩, ⟨.slice 9, .sh, TC.l mNA⟩, ⟨.slice 2, .sh, TC.l mNU⟩, ⟨.slice 71, .sh, TC.l mME⟩, ⟨.slice 32, .sh, TC.l mBA⟩, ⟨.int .i64, .sh, TC.i mct⟩], ⟨0, 0⟩⟩, ⟨.val false [⟨.int .i64, .sh, TC.i q⟩], ⟨0, 0⟩⟩] => some (((qd_13_fin k s sg bg NA NU ME BA ct en ix mn mo mk ms msg mbg mNA mNU mME mBA mct q)).map qd_13_out)
  | _ => .none
noncomputable def qd_f7 (k s : Int) (sg bg : Bool) (NA NU ME BA : LL) (ct i en : Int) : (Int) ⊕ ((Int × Int × Bool × Bool × LL × LL × LL × LL × Int × Int) ⊕ (Int × Int × Bool × Bool × LL × LL × LL × LL × Int × Int)) := (bif (!(qr_v ((nth (row ME i) 0).str))) then (.inr (.inl (k, s, sg, bg, NA, NU, ME, BA, ct, en))) else (bif (decide ((nth (row ME i) 1).int < en)) then (.inr (.inl (k, s, sg, bg, NA, NU, ME, BA, ct, en))) else (bif (decide ((nth (row ME i) 1).int > (24 : Int))) then (.inr (.inl (k, s, sg, bg, NA, NU, ME, BA, ct, en))) else (bif (!(qbk_rv ((nth (row ME i) 2).int) ((nth (row ME i) 3).int) ((nth (row ME i) 4).bool) ((nth (row ME i) 5).bool) ((nth (row ME i) 6).list) ((nth (row ME i) 7).list) ((nth (row ME i) 8).list) ((nth (row ME i) 9).list) ((nth (row ME i) 10).int))) then (.inr (.inl (k, s, sg, bg, NA, NU, ME, BA, ct, en))) else (bif (qd_k13_1 k s sg bg NA NU ME BA ct en i ((nth (row ME i) 0).str) ((nth (row ME i) 1).int) ((nth (row ME i) 2).int) ((nth (row ME i) 3).int) ((nth (row ME i) 4).bool) ((nth (row ME i) 5).bool) ((nth (row ME i) 6).list) ((nth (row ME i) 7).list) ((nth (row ME i) 8).list) ((nth (row ME i) 9).list) ((nth (row ME i) 10).int) (0 : Int)) then (.inr (.inl (k, s, sg, bg, NA, NU, ME, BA, ct, en))) else (.inl (IntKind.wrap .i64 ((nth (row ME i) 1).int + (qt_rv ((nth (row ME i) 2).int) ((nth (row ME i) 3).int) ((nth (row ME i) 4).bool) ((nth (row ME i) 5).bool) ((nth (row ME i) 6).list) ((nth (row ME i) 7).list) ((nth (row ME i) 8).list) ((nth (row ME i) 9).list) ((nth (row ME i) 10).int))))))))))
noncomputable def qd_e7 (k s : Int) (sg bg : Bool) (NA NU ME BA : LL) (ct en : Int) : (Int × Int × Bool × Bool × LL × LL × LL × LL × Int × Int) ⊕ (Int × Int × Bool × Bool × LL × LL × LL × LL × Int × Int) := .inr (k, s, sg, bg, NA, NU, ME, BA, ct, en)
noncomputable def qd_R7 (k s : Int) (sg bg : Bool) (NA NU ME BA : LL) (ct en i : Int) : (Int × Int × Bool × Bool × LL × LL × LL × LL × Int × Int) ⊕ (Int × Int × Bool × Bool × LL × LL × LL × LL × Int × Int) := iter (fun i a => (qd_f7 k s sg bg NA NU ME BA ct (i : Int) a)) (fun a => (qd_e7 k s sg bg NA NU ME BA ct a)) (ME.length) 0 en
abbrev qd_7_σ := Int × Int × Bool × Bool × LL × LL × LL × LL × Int × Int × Int
abbrev qd_7_ω := (Int × Int × Bool × Bool × LL × LL × LL × LL × Int × Int) ⊕ (Int × Int × Bool × Bool × LL × LL × LL × LL × Int × Int)
noncomputable def qd_7_step (k s : Int) (sg bg : Bool) (NA NU ME BA : LL) (ct en i : Int) : Tr (qd_7_σ ⊕ qd_7_ω) := (.ite ((decide (i < (ME.length : Int))) = true) (.ite ((0 : Int) ≤ i ∧ i < (ME.length : Int)) (.ite ((qr_c ((nth (row ME i) 0).str)) = true) (.ite ((!(qr_v ((nth (row ME i) 0).str))) = true) (.ok (.inr (.inl (k, s, sg, bg, NA, NU, ME, BA, ct, en))))
     (.ite ((decide ((nth (row ME i) 1).int < en)) = true) (.ok (.inr (.inl (k, s, sg, bg, NA, NU, ME, BA, ct, en))))
      (.ite ((decide ((nth (row ME i) 1).int > (24 : Int))) = true) (.ok (.inr (.inl (k, s, sg, bg, NA, NU, ME, BA, ct, en))))
       (.ite ((qbk_rc ((nth (row ME i) 2).int) ((nth (row ME i) 3).int) ((nth (row ME i) 4).bool) ((nth (row ME i) 5).bool) ((nth (row ME i) 6).list) ((nth (row ME i) 7).list) ((nth (row ME i) 8).list) ((nth (row ME i) 9).list) ((nth (row ME i) 10).int)) = true) (.ite ((!(qbk_rv ((nth (row ME i) 2).int) ((nth (row ME i) 3).int) ((nth (row ME i) 4).bool) ((nth (row ME i) 5).bool) ((nth (row ME i) 6).list) ((nth (row ME i) 7).list) ((nth (row ME i) 8).list) ((nth (row ME i) 9).list) ((nth (row ME i) 10).int))) = true) (.ok (.inr (.inl (k, s, sg, bg, NA, NU, ME, BA, ct, en))))
         (.ite ((qd_k13_1 k s sg bg NA NU ME BA ct en i ((nth (row ME i) 0).str) ((nth (row ME i) 1).int) ((nth (row ME i) 2).int) ((nth (row ME i) 3).int) ((nth (row ME i) 4).bool) ((nth (row ME i) 5).bool) ((nth (row ME i) 6).list) ((nth (row ME i) 7).list) ((nth (row ME i) 8).list) ((nth (row ME i) 9).list) ((nth (row ME i) 10).int) (0 : Int)) = true) (.ite ((qd_o13_2 k s sg bg NA NU ME BA ct en i ((nth (row ME i) 0).str) ((nth (row ME i) 1).int) ((nth (row ME i) 2).int) ((nth (row ME i) 3).int) ((nth (row ME i) 4).bool) ((nth (row ME i) 5).bool) ((nth (row ME i) 6).list) ((nth (row ME i) 7).list) ((nth (row ME i) 8).list) ((nth (row ME i) 9).list) ((nth (row ME i) 10).int) (0 : Int)) = true) (.ok (.inr (.inl (k, s, sg, bg, NA, NU, ME, BA, ct, en))))
           .no)
          (.ite ((qd_o13_3 k s sg bg NA NU ME BA ct en i ((nth (row ME i) 0).str) ((nth (row ME i) 1).int) ((nth (row ME i) 2).int) ((nth (row ME i) 3).int) ((nth (row ME i) 4).bool) ((nth (row ME i) 5).bool) ((nth (row ME i) 6).list) ((nth (row ME i) 7).list) ((nth (row ME i) 8).list) ((nth (row ME i) 9).list) ((nth (row ME i) 10).int) (0 : Int)) = true) (.ite ((qt_rc ((nth (row ME i) 2).int) ((nth (row ME i) 3).int) ((nth (row ME i) 4).bool) ((nth (row ME i) 5).bool) ((nth (row ME i) 6).list) ((nth (row ME i) 7).list) ((nth (row ME i) 8).list) ((nth (row ME i) 9).list) ((nth (row ME i) 10).int)) = true) (.ok (.inl (k, s, sg, bg, NA, NU, ME, BA, ct, (IntKind.wrap .i64 ((nth (row ME i) 1).int + (qt_rv ((nth (row ME i) 2).int) ((nth (row ME i) 3).int) ((nth (row ME i) 4).bool) ((nth (row ME i) 5).bool) ((nth (row ME i) 6).list) ((nth (row ME i) 7).list) ((nth (row ME i) 8).list) ((nth (row ME i) 9).list) ((nth (row ME i) 10).int)))), (IntKind.wrap .i64 (i + (1 : Int))))))
            .no)
           .no)))
        .no))))
    .no)
   .no)
  (.ok (.inr (.inr (k, s, sg, bg, NA, NU, ME, BA, ct, en)))))
noncomputable def qd_7_st : qd_7_σ → Tr (qd_7_σ ⊕ qd_7_ω) := fun x => (qd_7_step (x.1) (x.2.1) (x.2.2.1) (x.2.2.2.1) (x.2.2.2.2.1) (x.2.2.2.2.2.1) (x.2.2.2.2.2.2.1) (x.2.2.2.2.2.2.2.1) (x.2.2.2.2.2.2.2.2.1) (x.2.2.2.2.2.2.2.2.2.1) (x.2.2.2.2.2.2.2.2.2.2))
noncomputable def qd_k7_1 (k s : Int) (sg bg : Bool) (NA NU ME BA : LL) (ct en i : Int) : Bool := sumIs (qd_R7 k s sg bg NA NU ME BA ct en i)
noncomputable def qd_o7_2 (k s : Int) (sg bg : Bool) (NA NU ME BA : LL) (ct en i : Int) : Bool := is (i = 0 ∧ Typed tab (.slice 71) (.l ME) ∧ (∀ x : List TC, x ∈ ME → qbk_rc (nth x 2).int (nth x 3).int (nth x 4).bool (nth x 5).bool (nth x 6).list (nth x 7).list (nth x 8).list (nth x 9).list (nth x 10).int = true) ∧ (∀ x : List TC, x ∈ ME → (!(qbk_rv (nth x 2).int (nth x 3).int (nth x 4).bool (nth x 5).bool (nth x 6).list (nth x 7).list (nth x 8).list (nth x 9).list (nth x 10).int)) = false → qt_rc (nth x 2).int (nth x 3).int (nth x 4).bool (nth x 5).bool (nth x 6).list (nth x 7).list (nth x 8).list (nth x 9).list (nth x 10).int = true))
noncomputable def qd_u7_2_0 (k s : Int) (sg bg : Bool) (NA NU ME BA : LL) (ct en i : Int) : Int := (sumL (qd_R7 k s sg bg NA NU ME BA ct en i)).1
noncomputable def qd_u7_2_1 (k s : Int) (sg bg : Bool) (NA NU ME BA : LL) (ct en i : Int) : Int := (sumL (qd_R7 k s sg bg NA NU ME BA ct en i)).2.1
noncomputable def qd_u7_2_2 (k s : Int) (sg bg : Bool) (NA NU ME BA : LL) (ct en i : Int) : Bool := (sumL (qd_R7 k s sg bg NA NU ME BA ct en i)).2.2.1
noncomputable def qd_u7_2_3 (k s : Int) (sg bg : Bool) (NA NU ME BA : LL) (ct en i : Int) : Bool := (sumL (qd_R7 k s sg bg NA NU ME BA ct en i)).2.2.2.1
noncomputable def qd_u7_2_4 (k s : Int) (sg bg : Bool) (NA NU ME BA : LL) (ct en i : Int) : LL := (sumL (qd_R7 k s sg bg NA NU ME BA ct en i)).2.2.2.2.1
noncomputable def qd_u7_2_5 (k s : Int) (sg bg : Bool) (NA NU ME BA : LL) (ct en i : Int) : LL := (sumL (qd_R7 k s sg bg NA NU ME BA ct en i)).2.2.2.2.2.1
noncomputable def qd_u7_2_6 (k s : Int) (sg bg : Bool) (NA NU ME BA : LL) (ct en i : Int) : LL := (sumL (qd_R7 k s sg bg NA NU ME BA ct en i)).2.2.2.2.2.2.1
noncomputable def qd_u7_2_7 (k s : Int) (sg bg : Bool) (NA NU ME BA : LL) (ct en i : Int) : LL := (sumL (qd_R7 k s sg bg NA NU ME BA ct en i)).2.2.2.2.2.2.2.1
noncomputable def qd_u7_2_8 (k s : Int) (sg bg : Bool) (NA NU ME BA : LL) (ct en i : Int) : Int := (sumL (qd_R7 k s sg bg NA NU ME BA ct en i)).2.2.2.2.2.2.2.2.1
noncomputable def qd_u7_2_9 (k s : Int) (sg bg : Bool) (NA NU ME BA : LL) (ct en i : Int) : Int := (sumL (qd_R7 k s sg bg NA NU ME BA ct en i)).2.2.2.2.2.2.2.2.2
noncomputable def qd_o7_3 (k s : Int) (sg bg : Bool) (NA NU ME BA : LL) (ct en i : Int) : Bool := is (i = 0 ∧ Typed tab (.slice 71) (.l ME) ∧ (∀ x : List TC, x ∈ ME → qbk_rc (nth x 2).int (nth x 3).int (nth x 4).bool (nth x 5).bool (nth x 6).list (nth x 7).list (nth x 8).list (nth x 9).list (nth x 10).int = true) ∧ (∀ x : List TC, x ∈ ME → (!(qbk_rv (nth x 2).int (nth x 3).int (nth x 4).bool (nth x 5).bool (nth x 6).list (nth x 7).list (nth x 8).list (nth x 9).list (nth x 10).int)) = false → qt_rc (nth x 2).int (nth x 3).int (nth x 4).bool (nth x 5).bool (nth x 6).list (nth x 7).list (nth x 8).list (nth x 9).list (nth x 10).int = true))
noncomputable def qd_u7_3_0 (k s : Int) (sg bg : Bool) (NA NU ME BA : LL) (ct en i : Int) : Int := (sumR (qd_R7 k s sg bg NA NU ME BA ct en i)).1
noncomputable def qd_u7_3_1 (k s : Int) (sg bg : Bool) (NA NU ME BA : LL) (ct en i : Int) : Int := (sumR (qd_R7 k s sg bg NA NU ME BA ct en i)).2.1
noncomputable def qd_u7_3_2 (k s : Int) (sg bg : Bool) (NA NU ME BA : LL) (ct en i : Int) : Bool := (sumR (qd_R7 k s sg bg NA NU ME BA ct en i)).2.2.1
noncomputable def qd_u7_3_3 (k s : Int) (sg bg : Bool) (NA NU ME BA : LL) (ct en i : Int) : Bool := (sumR (qd_R7 k s sg bg NA NU ME BA ct en i)).2.2.2.1
noncomputable def qd_u7_3_4 (k s : Int) (sg bg : Bool) (NA NU ME BA : LL) (ct en i : Int) : LL := (sumR (qd_R7 k s sg bg NA NU ME BA ct en i)).2.2.2.2.1
noncomputable def qd_u7_3_5 (k s : Int) (sg bg : Bool) (NA NU ME BA : LL) (ct en i : Int) : LL := (sumR (qd_R7 k s sg bg NA NU ME BA ct en i)).2.2.2.2.2.1
noncomputable def qd_u7_3_6 (k s : Int) (sg bg : Bool) (NA NU ME BA : LL) (ct en i : Int) : LL := (sumR (qd_R7 k s sg bg NA NU ME BA ct en i)).2.2.2.2.2.2.1
noncomputable def qd_u7_3_7 (k s : Int) (sg bg : Bool) (NA NU ME BA : LL) (ct en i : Int) : LL := (sumR (qd_R7 k s sg bg NA NU ME BA ct en i)).2.2.2.2.2.2.2.1
noncomputable def qd_u7_3_8 (k s : Int) (sg bg : Bool) (NA NU ME BA : LL) (ct en i : Int) : Int := (sumR (qd_R7 k s sg bg NA NU ME BA ct en i)).2.2.2.2.2.2.2.2.1
noncomputable def qd_u7_3_9 (k s : Int) (sg bg : Bool) (NA NU ME BA : LL) (ct en i : Int) : Int := (sumR (qd_R7 k s sg bg NA NU ME BA ct en i)).2.2.2.2.2.2.2.2.2
noncomputable def qd_7_fin (k s : Int) (sg bg : Bool) (NA NU ME BA : LL) (ct en i : Int) : Told qd_7_ω := (.br (qd_k7_1 k s sg bg NA NU ME BA ct en i) (.leaf (qd_o7_2 k s sg bg NA NU ME BA ct en i) (.inl ((qd_u7_2_0 k s sg bg NA NU ME BA ct en i), (qd_u7_2_1 k s sg bg NA NU ME BA ct en i), (qd_u7_2_2 k s sg bg NA NU ME BA ct en i), (qd_u7_2_3 k s sg bg NA NU ME BA ct en i), (qd_u7_2_4 k s sg bg NA NU ME BA ct en i), (qd_u7_2_5 k s sg bg NA NU ME BA ct en i), (qd_u7_2_6 k s sg bg NA NU ME BA ct en i), (qd_u7_2_7 k s sg bg NA NU ME BA ct en i), (qd_u7_2_8 k s sg bg NA NU ME BA ct en i), (qd_u7_2_9 k s sg bg NA NU ME BA ct en i)))) (.leaf (qd_o7_3 k s sg bg NA NU ME BA ct en i) (.inr ((qd_u7_3_0 k s sg bg NA NU ME BA ct en i), (qd_u7_3_1 k s sg bg NA NU ME BA ct en i), (qd_u7_3_2 k s sg bg NA NU ME BA ct en i), (qd_u7_3_3 k s sg bg NA NU ME BA ct en i), (qd_u7_3_4 k s sg bg NA NU ME BA ct en i), (qd_u7_3_5 k s sg bg NA NU ME BA ct en i), (qd_u7_3_6 k s sg bg NA NU ME BA ct en i), (qd_u7_3_7 k s sg bg NA NU ME BA ct en i), (qd_u7_3_8 k s sg bg NA NU ME BA ct en i), (qd_u7_3_9 k s sg bg NA NU ME BA ct en i)))))
def qd_7_sl (x : qd_7_σ) : List Slot := [⟨.bx 32 [⟨.int .i64, .sh, TC.i (x.1)⟩, ⟨.int .i64, .sh, TC.i (x.2.1)⟩, ⟨.bool, .sh, TC.b (x.2.2.1)⟩, ⟨.bool, .sh, TC.b (x.2.2.2.1)⟩, ⟨.slice 9, .sh, TC.l (x.2.2.2.2.1)⟩, ⟨.slice 2, .sh, TC.l (x.2.2.2.2.2.1)⟩, ⟨.slice 71, .sh, TC.l (x.2.2.2.2.2.2.1)⟩, ⟨.slice 32, .sh, TC.l (x.2.2.2.2.2.2.2.1)⟩, ⟨.int .i64, .sh, TC.i (x.2.2.2.2.2.2.2.2.1)⟩], ⟨0, 0⟩⟩, ⟨.val false [⟨.int .i64, .sh, TC.i (x.2.2.2.2.2.2.2.2.2.1)⟩], ⟨0, 0⟩⟩, ⟨.val false [⟨.int .i64, .sh, TC.i (x.2.2.2.2.2.2.2.2.2.2)⟩], ⟨0, 0⟩⟩]
def qd_7_out : qd_7_ω → Ex × List Slot := (Sum.elim (fun x => (.ret, [⟨.bx 32 [⟨.int .i64, .sh, TC.i (x.1)⟩, ⟨.int .i64, .sh, TC.i (x.2.1)⟩, ⟨.bool, .sh, TC.b (x.2.2.1)⟩, ⟨.bool, .sh, TC.b (x.2.2.2.1)⟩, ⟨.slice 9, .sh, TC.l (x.2.2.2.2.1)⟩, ⟨.slice 2, .sh, TC.l (x.2.2.2.2.2.1)⟩, ⟨.slice 71, .sh, TC.l (x.2.2.2.2.2.2.1)⟩, ⟨.slice 32, .sh, TC.l (x.2.2.2.2.2.2.2.1)⟩, ⟨.int .i64, .sh, TC.i (x.2.2.2.2.2.2.2.2.1)⟩], ⟨0, 0⟩⟩, ⟨.val false [⟨.bool, .sh, TC.b false⟩], ⟨0, 0⟩⟩, ⟨.val false [⟨.int .i64, .sh, TC.i (x.2.2.2.2.2.2.2.2.2)⟩], ⟨0, 0⟩⟩])) (fun x => (.exit 0, [⟨.bx 32 [⟨.int .i64, .sh, TC.i (x.1)⟩, ⟨.int .i64, .sh, TC.i (x.2.1)⟩, ⟨.bool, .sh, TC.b (x.2.2.1)⟩, ⟨.bool, .sh, TC.b (x.2.2.2.1)⟩, ⟨.slice 9, .sh, TC.l (x.2.2.2.2.1)⟩, ⟨.slice 2, .sh, TC.l (x.2.2.2.2.2.1)⟩, ⟨.slice 71, .sh, TC.l (x.2.2.2.2.2.2.1)⟩, ⟨.slice 32, .sh, TC.l (x.2.2.2.2.2.2.2.1)⟩, ⟨.int .i64, .sh, TC.i (x.2.2.2.2.2.2.2.2.1)⟩], ⟨0, 0⟩⟩, Slot.none, ⟨.val false [⟨.int .i64, .sh, TC.i (x.2.2.2.2.2.2.2.2.2)⟩], ⟨0, 0⟩⟩])))
noncomputable def qd_lo7 : List Slot → Option (Told (Ex × List Slot)) := fun s => match s with
  | [⟨.bx 32 [⟨.int .i64, .sh, TC.i k⟩, ⟨.int .i64, .sh, TC.i s⟩, ⟨.bool, .sh, TC.b sg⟩, ⟨.bool, .sh, TC.b bg⟩, ⟨.slice 9, .sh, TC.l NA⟩, ⟨.slice 2, .sh, TC.l NU⟩, ⟨.slice 71, .sh, TC.l ME⟩, ⟨.slice 32, .sh, TC.l BA⟩, ⟨.int .i64, .sh, TC.i ct⟩], ⟨0, 0⟩⟩, ⟨.val false [⟨.int .i64, .sh, TC.i en⟩], ⟨0, 0⟩⟩, ⟨.val false [⟨.int .i64, .sh, TC.i i⟩], ⟨0, 0⟩⟩] => some (((qd_7_fin k s sg bg NA NU ME BA ct en i)).map qd_7_out)
  | _ => .none
noncomputable def qd_lo : LoopTeller := fun r s => bif Nat.beq r 7 then qd_lo7 s else bif Nat.beq r 13 then qd_lo13 s else .none
theorem qd_13_r (k s : Int) (sg bg : Bool) (NA NU ME BA : LL) (ct en ix : Int) (mn : BS) (mo mk ms : Int) (msg mbg : Bool) (mNA mNU mME mBA : LL) (mct q : Int) (fuel : Nat) : rounds (rnd tab FT D24 live 66 qd_lo 1 13) leave (fuel + 1) (qd_13_sl (k, s, sg, bg, NA, NU, ME, BA, ct, en, ix, mn, mo, mk, ms, msg, mbg, mNA, mNU, mME, mBA, mct, q)) = ((qd_13_step k s sg bg NA NU ME BA ct en ix mn mo mk ms msg mbg mNA mNU mME mBA mct q)).run (goOn (fun s => rounds (rnd tab FT D24 live 66 qd_lo 1 13) leave fuel (qd_13_sl s)) fun w => some (qd_13_out w)) := by kernel_rfl
theorem qd_f13_eq (k s : Int) (sg bg : Bool) (NA NU ME BA : LL) (ct : Int) (en ix : Int) (mn : BS) (mo mk ms : Int) (msg mbg : Bool) (mNA mNU mME mBA : LL) (mct i : Int) : qd_f13 k s sg bg NA NU ME BA ct en ix mn mo mk ms msg mbg mNA mNU mME mBA mct i = bif !(strAt ME i == mn) then Sum.inl () else Sum.inr (Sum.inl (k, s, sg, bg, NA, NU, ME, BA, ct, en, ix, mn, mo, mk, ms, msg, mbg, mNA, mNU, mME, mBA, mct)) := by
  unfold qd_f13 strAt
  skip
  generalize ((nth (row ME i) 0).str == mn) = p0
  cases p0 <;> rfl
theorem qd_R13_eq (k s : Int) (sg bg : Bool) (NA NU ME BA : LL) (ct : Int) (en ix : Int) (mn : BS) (mo mk ms : Int) (msg mbg : Bool) (mNA mNU mME mBA : LL) (mct : Int)  : qd_R13 k s sg bg NA NU ME BA ct en ix mn mo mk ms msg mbg mNA mNU mME mBA mct 0 = bif allI (fun i : Nat => !(strAt ME (i : Int) == mn)) (ix.toNat) then Sum.inr (k, s, sg, bg, NA, NU, ME, BA, ct, en, ix, mn, mo, mk, ms, msg, mbg, mNA, mNU, mME, mBA, mct) else (Sum.inl (k, s, sg, bg, NA, NU, ME, BA, ct, en, ix, mn, mo, mk, ms, msg, mbg, mNA, mNU, mME, mBA, mct)) := by
  unfold qd_R13
  exact (iter_all (P := (fun i : Nat => !(strAt ME (i : Int) == mn))) (g := fun _ a => a) (w := Sum.inl (k, s, sg, bg, NA, NU, ME, BA, ct, en, ix, mn, mo, mk, ms, msg, mbg, mNA, mNU, mME, mBA, mct)) fun j a _ => qd_f13_eq k s sg bg NA NU ME BA ct en ix mn mo mk ms msg mbg mNA mNU mME mBA mct _)
theorem qd_13_h (k s : Int) (sg bg : Bool) (NA NU ME BA : LL) (ct en ix : Int) (mn : BS) (mo mk ms : Int) (msg mbg : Bool) (mNA mNU mME mBA : LL) (mct q : Int) (ow : qd_13_ω) : ((qd_13_fin k s sg bg NA NU ME BA ct en ix mn mo mk ms msg mbg mNA mNU mME mBA mct q)).val = some ow → ∃ fuel, loopN qd_13_st fuel (k, s, sg, bg, NA, NU, ME, BA, ct, en, ix, mn, mo, mk, ms, msg, mbg, mNA, mNU, mME, mBA, mct, q) = some ow := by
  refine auto_const (R := (qd_R13 k s sg bg NA NU ME BA ct en ix mn mo mk ms msg mbg mNA mNU mME mBA mct q)) rfl (iter_onR (f := (fun i a => (qd_f13 k s sg bg NA NU ME BA ct en ix mn mo mk ms msg mbg mNA mNU mME mBA mct (i : Int)))) (fin := (fun a => (qd_e13 k s sg bg NA NU ME BA ct en ix mn mo mk ms msg mbg mNA mNU mME mBA mct))) (Q := endsAs (k, s, sg, bg, NA, NU, ME, BA, ct, en, ix, mn, mo, mk, ms, msg, mbg, mNA, mNU, mME, mBA, mct) (k, s, sg, bg, NA, NU, ME, BA, ct, en, ix, mn, mo, mk, ms, msg, mbg, mNA, mNU, mME, mBA, mct)) (fun i a => by unfold qd_f13; exact (onR_bif rfl trivial)) (fun _ => rfl) _ _ _) ?_
  intro ho
  have ho : is (q = 0 ∧ 0 ≤ ix ∧ ix < (ME.length : Int) ∧ ME.length ≤ 140737488355328) = true := ho.elim id id
  obtain ⟨rfl, h0, h1, h2⟩ := is_iff.1 ho
  skip
  refine ⟨(ix.toNat) + 1, ?_⟩
  refine iter_loop (step := qd_13_st) (ix.toNat) (fun i a => (qd_f13 k s sg bg NA NU ME BA ct en ix mn mo mk ms msg mbg mNA mNU mME mBA mct (i : Int))) (fun a => (qd_e13 k s sg bg NA NU ME BA ct en ix mn mo mk ms msg mbg mNA mNU mME mBA mct)) (fun i a => (k, s, sg, bg, NA, NU, ME, BA, ct, en, ix, mn, mo, mk, ms, msg, mbg, mNA, mNU, mME, mBA, mct, (i : Int))) (fun _ _ => True) trivial (fun i a hi hI => ⟨?_, fun _ _ => trivial⟩) (fun a hI => ?_)
  · show (qd_13_step k s sg bg NA NU ME BA ct en ix mn mo mk ms msg mbg mNA mNU mME mBA mct (i : Int)).val = _
    unfold qd_13_step qd_f13
    skip
    refine Tr.t (by simp; omega) ?_
    exact (Tr.t (by first | omega | (constructor <;> omega)) (Tr.bf rfl (by rw [Tr.val_ok, wrap64 (i := (i : Int) + 1) (by omega) (by omega)]; rfl)))
  · show (qd_13_step k s sg bg NA NU ME BA ct en ix mn mo mk ms msg mbg mNA mNU mME mBA mct (ix.toNat : Int)).val = _
    refine Tr.n (by first | (simp; done) | (simp; omega) | omega) ?_
    rfl
theorem qd_is13 : LoopIs tab FT D24 live 66 qd_lo 1 13 := by
  refine loop_told (sl := qd_13_sl) (step := qd_13_st) (out := qd_13_out) (lor := qd_lo13) (fin := fun x => (qd_13_fin (x.1) (x.2.1) (x.2.2.1) (x.2.2.2.1) (x.2.2.2.2.1) (x.2.2.2.2.2.1) (x.2.2.2.2.2.2.1) (x.2.2.2.2.2.2.2.1) (x.2.2.2.2.2.2.2.2.1) (x.2.2.2.2.2.2.2.2.2.1) (x.2.2.2.2.2.2.2.2.2.2.1) (x.2.2.2.2.2.2.2.2.2.2.2.1) (x.2.2.2.2.2.2.2.2.2.2.2.2.1) (x.2.2.2.2.2.2.2.2.2.2.2.2.2.1) (x.2.2.2.2.2.2.2.2.2.2.2.2.2.2.1) (x.2.2.2.2.2.2.2.2.2.2.2.2.2.2.2.1) (x.2.2.2.2.2.2.2.2.2.2.2.2.2.2.2.2.1) (x.2.2.2.2.2.2.2.2.2.2.2.2.2.2.2.2.2.1) (x.2.2.2.2.2.2.2.2.2.2.2.2.2.2.2.2.2.2.1) (x.2.2.2.2.2.2.2.2.2.2.2.2.2.2.2.2.2.2.2.1) (x.2.2.2.2.2.2.2.2.2.2.2.2.2.2.2.2.2.2.2.2.1) (x.2.2.2.2.2.2.2.2.2.2.2.2.2.2.2.2.2.2.2.2.2.1) (x.2.2.2.2.2.2.2.2.2.2.2.2.2.2.2.2.2.2.2.2.2.2))) (fun _ => rfl) ?_ (fun x n => qd_13_r x.1 x.2.1 x.2.2.1 x.2.2.2.1 x.2.2.2.2.1 x.2.2.2.2.2.1 x.2.2.2.2.2.2.1 x.2.2.2.2.2.2.2.1 x.2.2.2.2.2.2.2.2.1 x.2.2.2.2.2.2.2.2.2.1 x.2.2.2.2.2.2.2.2.2.2.1 x.2.2.2.2.2.2.2.2.2.2.2.1 x.2.2.2.2.2.2.2.2.2.2.2.2.1 x.2.2.2.2.2.2.2.2.2.2.2.2.2.1 x.2.2.2.2.2.2.2.2.2.2.2.2.2.2.1 x.2.2.2.2.2.2.2.2.2.2.2.2.2.2.2.1 x.2.2.2.2.2.2.2.2.2.2.2.2.2.2.2.2.1 x.2.2.2.2.2.2.2.2.2.2.2.2.2.2.2.2.2.1 x.2.2.2.2.2.2.2.2.2.2.2.2.2.2.2.2.2.2.1 x.2.2.2.2.2.2.2.2.2.2.2.2.2.2.2.2.2.2.2.1 x.2.2.2.2.2.2.2.2.2.2.2.2.2.2.2.2.2.2.2.2.1 x.2.2.2.2.2.2.2.2.2.2.2.2.2.2.2.2.2.2.2.2.2.1 x.2.2.2.2.2.2.2.2.2.2.2.2.2.2.2.2.2.2.2.2.2.2 n) (fun x ow => qd_13_h x.1 x.2.1 x.2.2.1 x.2.2.2.1 x.2.2.2.2.1 x.2.2.2.2.2.1 x.2.2.2.2.2.2.1 x.2.2.2.2.2.2.2.1 x.2.2.2.2.2.2.2.2.1 x.2.2.2.2.2.2.2.2.2.1 x.2.2.2.2.2.2.2.2.2.2.1 x.2.2.2.2.2.2.2.2.2.2.2.1 x.2.2.2.2.2.2.2.2.2.2.2.2.1 x.2.2.2.2.2.2.2.2.2.2.2.2.2.1 x.2.2.2.2.2.2.2.2.2.2.2.2.2.2.1 x.2.2.2.2.2.2.2.2.2.2.2.2.2.2.2.1 x.2.2.2.2.2.2.2.2.2.2.2.2.2.2.2.2.1 x.2.2.2.2.2.2.2.2.2.2.2.2.2.2.2.2.2.1 x.2.2.2.2.2.2.2.2.2.2.2.2.2.2.2.2.2.2.1 x.2.2.2.2.2.2.2.2.2.2.2.2.2.2.2.2.2.2.2.1 x.2.2.2.2.2.2.2.2.2.2.2.2.2.2.2.2.2.2.2.2.1 x.2.2.2.2.2.2.2.2.2.2.2.2.2.2.2.2.2.2.2.2.2.1 x.2.2.2.2.2.2.2.2.2.2.2.2.2.2.2.2.2.2.2.2.2.2 ow)
  intro s t h
  unfold qd_lo13 at h
  split at h
  · cases h; exact ⟨(_, _, _, _, _, _, _, _, _, _, _, _, _, _, _, _, _, _, _, _, _, _, _), rfl, rfl⟩
  · cases h
theorem qd_7_r (k s : Int) (sg bg : Bool) (NA NU ME BA : LL) (ct en i : Int) (fuel : Nat) : rounds (rnd tab FT D24 live 66 qd_lo 0 7) leave (fuel + 1) (qd_7_sl (k, s, sg, bg, NA, NU, ME, BA, ct, en, i)) = ((qd_7_step k s sg bg NA NU ME BA ct en i)).run (goOn (fun s => rounds (rnd tab FT D24 live 66 qd_lo 0 7) leave fuel (qd_7_sl s)) fun w => some (qd_7_out w)) := by kernel_rfl
theorem qd_f7_eq (k s : Int) (sg bg : Bool) (NA NU ME BA : LL) (ct : Int) (i e : Int) : qd_f7 k s sg bg NA NU ME BA ct i e = bif (nameOk (strAt ME i) && (!decide ((nth (row ME i) 1).int < e) && (!decide ((nth (row ME i) 1).int > 24) && (okV (nth (row ME i) 2).int (nth (row ME i) 3).int (nth (row ME i) 4).bool (nth (row ME i) 5).bool (nth (row ME i) 6).list (nth (row ME i) 7).list (nth (row ME i) 8).list (nth (row ME i) 9).list (nth (row ME i) 10).int && noDupN ME i)))) then Sum.inl (IntKind.wrap .i64 ((nth (row ME i) 1).int + sizeV (nth (row ME i) 2).int (nth (row ME i) 3).int (nth (row ME i) 9).list (nth (row ME i) 10).int)) else Sum.inr (Sum.inl (k, s, sg, bg, NA, NU, ME, BA, ct, e)) := by
  unfold qd_f7
  rw [show ∀ e, qd_k13_1 k s sg bg NA NU ME BA ct e i (nth (row ME i) 0).str (nth (row ME i) 1).int (nth (row ME i) 2).int (nth (row ME i) 3).int (nth (row ME i) 4).bool (nth (row ME i) 5).bool (nth (row ME i) 6).list (nth (row ME i) 7).list (nth (row ME i) 8).list (nth (row ME i) 9).list (nth (row ME i) 10).int 0 = !(noDupN ME i) from fun e => by unfold qd_k13_1 noDupN; rw [qd_R13_eq]; unfold strAt; generalize allI _ _ = q; cases q <;> rfl]
  rw [qr_vv, show qbk_rv (nth (row ME i) 2).int (nth (row ME i) 3).int (nth (row ME i) 4).bool (nth (row ME i) 5).bool (nth (row ME i) 6).list (nth (row ME i) 7).list (nth (row ME i) 8).list (nth (row ME i) 9).list (nth (row ME i) 10).int = okV (nth (row ME i) 2).int (nth (row ME i) 3).int (nth (row ME i) 4).bool (nth (row ME i) 5).bool (nth (row ME i) 6).list (nth (row ME i) 7).list (nth (row ME i) 8).list (nth (row ME i) 9).list (nth (row ME i) 10).int from rfl, show strAt ME i = (nth (row ME i) 0).str from rfl]
  generalize nameOk _ = p0, decide ((nth (row ME i) 1).int < e) = p1, decide ((nth (row ME i) 1).int > 24) = p2, okV (nth (row ME i) 2).int (nth (row ME i) 3).int (nth (row ME i) 4).bool (nth (row ME i) 5).bool (nth (row ME i) 6).list (nth (row ME i) 7).list (nth (row ME i) 8).list (nth (row ME i) 9).list (nth (row ME i) 10).int = p3, noDupN ME i = p4
  cases p0 <;> cases p1 <;> cases p2 <;> cases p3 <;> cases p4 <;> rfl
theorem qd_R7_eq (k s : Int) (sg bg : Bool) (NA NU ME BA : LL) (ct : Int) : ∃ e, qd_R7 k s sg bg NA NU ME BA ct 0 0 = bif (allI (memP ME) ME.length && ME.all fun x => okV (nth x 2).int (nth x 3).int (nth x 4).bool (nth x 5).bool (nth x 6).list (nth x 7).list (nth x 8).list (nth x 9).list (nth x 10).int) then Sum.inr (k, s, sg, bg, NA, NU, ME, BA, ct, endAt ME ME.length) else Sum.inl (k, s, sg, bg, NA, NU, ME, BA, ct, e) := by
  unfold qd_R7
  obtain ⟨a, ha⟩ := iter_along (f := fun i a => qd_f7 k s sg bg NA NU ME BA ct (i : Int) a) (fin := fun a => qd_e7 k s sg bg NA NU ME BA ct a) (P := fun i : Nat => nameOk (strAt ME (i : Int)) && (!decide ((nth (row ME (i : Int)) 1).int < endAt ME i) && (!decide ((nth (row ME (i : Int)) 1).int > 24) && (okV (nth (row ME (i : Int)) 2).int (nth (row ME (i : Int)) 3).int (nth (row ME (i : Int)) 4).bool (nth (row ME (i : Int)) 5).bool (nth (row ME (i : Int)) 6).list (nth (row ME (i : Int)) 7).list (nth (row ME (i : Int)) 8).list (nth (row ME (i : Int)) 9).list (nth (row ME (i : Int)) 10).int && noDupN ME (i : Int))))) (A := endAt ME) (w := fun e => Sum.inl (k, s, sg, bg, NA, NU, ME, BA, ct, e)) (N := ME.length) (fun j _ => qd_f7_eq k s sg bg NA NU ME BA ct (j : Int) (endAt ME j))
  refine ⟨a, ha.trans ?_⟩
  rw [show allI (fun i : Nat => nameOk (strAt ME (i : Int)) && (!decide ((nth (row ME (i : Int)) 1).int < endAt ME i) && (!decide ((nth (row ME (i : Int)) 1).int > 24) && (okV (nth (row ME (i : Int)) 2).int (nth (row ME (i : Int)) 3).int (nth (row ME (i : Int)) 4).bool (nth (row ME (i : Int)) 5).bool (nth (row ME (i : Int)) 6).list (nth (row ME (i : Int)) 7).list (nth (row ME (i : Int)) 8).list (nth (row ME (i : Int)) 9).list (nth (row ME (i : Int)) 10).int && noDupN ME (i : Int))))) ME.length = (allI (memP ME) ME.length && ME.all fun x => okV (nth x 2).int (nth x 3).int (nth x 4).bool (nth x 5).bool (nth x 6).list (nth x 7).list (nth x 8).list (nth x 9).list (nth x 10).int) from by
    rw [← allI_rows, ← allI_and]
    refine allI_congr fun i _ => ?_
    unfold memP
    generalize nameOk _ = p0, decide ((nth (row ME (i : Int)) 1).int < endAt ME i) = p1, decide ((nth (row ME (i : Int)) 1).int > 24) = p2, okV (nth (row ME (i : Int)) 2).int (nth (row ME (i : Int)) 3).int (nth (row ME (i : Int)) 4).bool (nth (row ME (i : Int)) 5).bool (nth (row ME (i : Int)) 6).list (nth (row ME (i : Int)) 7).list (nth (row ME (i : Int)) 8).list (nth (row ME (i : Int)) 9).list (nth (row ME (i : Int)) 10).int = p3, noDupN ME _ = p4
    cases p0 <;> cases p1 <;> cases p2 <;> cases p3 <;> cases p4 <;> rfl]
  rfl
theorem qd_7_h (k s : Int) (sg bg : Bool) (NA NU ME BA : LL) (ct en i : Int) (ow : qd_7_ω) : ((qd_7_fin k s sg bg NA NU ME BA ct en i)).val = some ow → ∃ fuel, loopN qd_7_st fuel (k, s, sg, bg, NA, NU, ME, BA, ct, en, i) = some ow := by
  refine auto_sum (R := (qd_R7 k s sg bg NA NU ME BA ct en i)) rfl rfl rfl ?_
  intro ho
  have ho : is (i = 0 ∧ Typed tab (.slice 71) (.l ME) ∧ (∀ x : List TC, x ∈ ME → qbk_rc (nth x 2).int (nth x 3).int (nth x 4).bool (nth x 5).bool (nth x 6).list (nth x 7).list (nth x 8).list (nth x 9).list (nth x 10).int = true) ∧ (∀ x : List TC, x ∈ ME → (!(qbk_rv (nth x 2).int (nth x 3).int (nth x 4).bool (nth x 5).bool (nth x 6).list (nth x 7).list (nth x 8).list (nth x 9).list (nth x 10).int)) = false → qt_rc (nth x 2).int (nth x 3).int (nth x 4).bool (nth x 5).bool (nth x 6).list (nth x 7).list (nth x 8).list (nth x 9).list (nth x 10).int = true)) = true := ho.elim id id
  obtain ⟨rfl, ht, hr, hz⟩ := is_iff.1 ho
  have hlen : ME.length ≤ 140737488351232 := by have := typed_room ht; simp only [show (tab 71).bytes = 152 from rfl] at this; omega
  refine ⟨(ME.length) + 1, ?_⟩
  refine iter_loop (step := qd_7_st) (ME.length) (fun i a => (qd_f7 k s sg bg NA NU ME BA ct (i : Int) a)) (fun a => (qd_e7 k s sg bg NA NU ME BA ct a)) (fun i a => (k, s, sg, bg, NA, NU, ME, BA, ct, a, (i : Int))) (fun _ _ => True) trivial (fun i a hi hI => ⟨?_, fun _ _ => trivial⟩) (fun a hI => ?_)
  · show (qd_7_step k s sg bg NA NU ME BA ct a (i : Int)).val = _
    unfold qd_7_step qd_f7
    have c0 : Typed tab (.str) (.s (nth (ME.getD i []) 0).str) := typed_s (typed_cell ht (ME.getD i []) (mem_getD hi) 0 (by decide))
    have c6 : Typed tab (.slice 9) (.l (nth (ME.getD i []) 6).list) := typed_list (typed_cell ht (ME.getD i []) (mem_getD hi) 6 (by decide))
    have c7 : Typed tab (.slice 2) (.l (nth (ME.getD i []) 7).list) := typed_list (typed_cell ht (ME.getD i []) (mem_getD hi) 7 (by decide))
    have c8 : Typed tab (.slice 71) (.l (nth (ME.getD i []) 8).list) := typed_list (typed_cell ht (ME.getD i []) (mem_getD hi) 8 (by decide))
    have c9 : Typed tab (.slice 32) (.l (nth (ME.getD i []) 9).list) := typed_list (typed_cell ht (ME.getD i []) (mem_getD hi) 9 (by decide))
    refine Tr.t (by simp; omega) ?_
    exact (Tr.t (by first | omega | (constructor <;> omega) | (exact is_true ⟨rfl, by omega, by omega, by omega⟩) | (exact hr _ (mem_getD (by omega))) | (exact hz _ (mem_getD (by omega)) (by assumption))) (Tr.t (by first | (exact is_true ⟨rfl, by omega, by omega, by omega⟩) | (exact hr _ (mem_getD (by omega))) | (exact hz _ (mem_getD (by omega)) (by assumption)) | (first | (apply qr_cc <;> assumption) | (first | (apply is_true; and_intros <;> (first | rfl | assumption | (apply ql_cc <;> assumption) | (apply qbb_cc <;> assumption) | (apply qm_cc <;> assumption) | (apply qq_cc <;> assumption) | (apply qv_cc <;> assumption) | (apply qz_cc <;> assumption) | (apply qr_cc <;> assumption) | (apply qh_cc <;> assumption) | (first | (apply is_true; and_intros <;> (first | rfl | assumption | (apply ql_cc <;> assumption) | (apply qbb_cc <;> assumption) | (apply qm_cc <;> assumption) | (apply qq_cc <;> assumption) | (apply qv_cc <;> assumption) | (apply qz_cc <;> assumption) | (apply qr_cc <;> assumption) | (apply qh_cc <;> assumption))) | (apply ql_cc <;> assumption) | (apply qbb_cc <;> assumption) | (apply qm_cc <;> assumption) | (apply qq_cc <;> assumption) | (apply qv_cc <;> assumption) | (apply qz_cc <;> assumption) | (apply qr_cc <;> assumption) | (apply qh_cc <;> assumption)))) | (apply ql_cc <;> assumption) | (apply qbb_cc <;> assumption) | (apply qm_cc <;> assumption) | (apply qq_cc <;> assumption) | (apply qv_cc <;> assumption) | (apply qz_cc <;> assumption) | (apply qr_cc <;> assumption) | (apply qh_cc <;> assumption)))) (Tr.bh (fun _ => rfl) (fun _ => (Tr.bh (fun _ => rfl) (fun _ => (Tr.bh (fun _ => rfl) (fun _ => (Tr.t (by first | omega | (constructor <;> omega) | (exact is_true ⟨rfl, by omega, by omega, by omega⟩) | (exact hr _ (mem_getD (by omega))) | (exact hz _ (mem_getD (by omega)) (by assumption))) (Tr.bh (fun _ => rfl) (fun _ => (Tr.bh (fun _ => (Tr.t (by first | (exact is_true ⟨rfl, by omega, by omega, by omega⟩) | (exact hr _ (mem_getD (by omega))) | (exact hz _ (mem_getD (by omega)) (by assumption)) | (first | (apply is_true; and_intros <;> (first | rfl | assumption | (apply ql_cc <;> assumption) | (apply qbb_cc <;> assumption) | (apply qm_cc <;> assumption) | (apply qq_cc <;> assumption) | (apply qv_cc <;> assumption) | (apply qz_cc <;> assumption) | (apply qr_cc <;> assumption) | (apply qh_cc <;> assumption) | (first | (apply is_true; and_intros <;> (first | rfl | assumption | (apply ql_cc <;> assumption) | (apply qbb_cc <;> assumption) | (apply qm_cc <;> assumption) | (apply qq_cc <;> assumption) | (apply qv_cc <;> assumption) | (apply qz_cc <;> assumption) | (apply qr_cc <;> assumption) | (apply qh_cc <;> assumption) | (first | (apply is_true; and_intros <;> (first | rfl | assumption | (apply ql_cc <;> assumption) | (apply qbb_cc <;> assumption) | (apply qm_cc <;> assumption) | (apply qq_cc <;> assumption) | (apply qv_cc <;> assumption) | (apply qz_cc <;> assumption) | (apply qr_cc <;> assumption) | (apply qh_cc <;> assumption))) | (apply ql_cc <;> assumption) | (apply qbb_cc <;> assumption) | (apply qm_cc <;> assumption) | (apply qq_cc <;> assumption) | (apply qv_cc <;> assumption) | (apply qz_cc <;> assumption) | (apply qr_cc <;> assumption) | (apply qh_cc <;> assumption)))) | (apply ql_cc <;> assumption) | (apply qbb_cc <;> assumption) | (apply qm_cc <;> assumption) | (apply qq_cc <;> assumption) | (apply qv_cc <;> assumption) | (apply qz_cc <;> assumption) | (apply qr_cc <;> assumption) | (apply qh_cc <;> assumption)))) | (apply ql_cc <;> assumption) | (apply qbb_cc <;> assumption) | (apply qm_cc <;> assumption) | (apply qq_cc <;> assumption) | (apply qv_cc <;> assumption) | (apply qz_cc <;> assumption) | (apply qr_cc <;> assumption) | (apply qh_cc <;> assumption))) rfl)) (fun _ => (Tr.t (by first | (exact is_true ⟨rfl, by omega, by omega, by omega⟩) | (exact hr _ (mem_getD (by omega))) | (exact hz _ (mem_getD (by omega)) (by assumption)) | (first | (apply is_true; and_intros <;> (first | rfl | assumption | (apply ql_cc <;> assumption) | (apply qbb_cc <;> assumption) | (apply qm_cc <;> assumption) | (apply qq_cc <;> assumption) | (apply qv_cc <;> assumption) | (apply qz_cc <;> assumption) | (apply qr_cc <;> assumption) | (apply qh_cc <;> assumption) | (first | (apply is_true; and_intros <;> (first | rfl | assumption | (apply ql_cc <;> assumption) | (apply qbb_cc <;> assumption) | (apply qm_cc <;> assumption) | (apply qq_cc <;> assumption) | (apply qv_cc <;> assumption) | (apply qz_cc <;> assumption) | (apply qr_cc <;> assumption) | (apply qh_cc <;> assumption) | (first | (apply is_true; and_intros <;> (first | rfl | assumption | (apply ql_cc <;> assumption) | (apply qbb_cc <;> assumption) | (apply qm_cc <;> assumption) | (apply qq_cc <;> assumption) | (apply qv_cc <;> assumption) | (apply qz_cc <;> assumption) | (apply qr_cc <;> assumption) | (apply qh_cc <;> assumption))) | (apply ql_cc <;> assumption) | (apply qbb_cc <;> assumption) | (apply qm_cc <;> assumption) | (apply qq_cc <;> assumption) | (apply qv_cc <;> assumption) | (apply qz_cc <;> assumption) | (apply qr_cc <;> assumption) | (apply qh_cc <;> assumption)))) | (apply ql_cc <;> assumption) | (apply qbb_cc <;> assumption) | (apply qm_cc <;> assumption) | (apply qq_cc <;> assumption) | (apply qv_cc <;> assumption) | (apply qz_cc <;> assumption) | (apply qr_cc <;> assumption) | (apply qh_cc <;> assumption)))) | (apply ql_cc <;> assumption) | (apply qbb_cc <;> assumption) | (apply qm_cc <;> assumption) | (apply qq_cc <;> assumption) | (apply qv_cc <;> assumption) | (apply qz_cc <;> assumption) | (apply qr_cc <;> assumption) | (apply qh_cc <;> assumption))) (Tr.t (by first | omega | (constructor <;> omega) | (exact is_true ⟨rfl, by omega, by omega, by omega⟩) | (exact hr _ (mem_getD (by omega))) | (exact hz _ (mem_getD (by omega)) (by assumption))) (by rw [Tr.val_ok, wrap64 (i := (i : Int) + 1) (by omega) (by omega)]; rfl))))))))))))))))
  · show (qd_7_step k s sg bg NA NU ME BA ct a (ME.length : Int)).val = _
    refine Tr.n (by first | (simp; done) | (simp; omega) | omega) ?_
    rfl
theorem qd_is7 : LoopIs tab FT D24 live 66 qd_lo 0 7 := by
  refine loop_told (sl := qd_7_sl) (step := qd_7_st) (out := qd_7_out) (lor := qd_lo7) (fin := fun x => (qd_7_fin (x.1) (x.2.1) (x.2.2.1) (x.2.2.2.1) (x.2.2.2.2.1) (x.2.2.2.2.2.1) (x.2.2.2.2.2.2.1) (x.2.2.2.2.2.2.2.1) (x.2.2.2.2.2.2.2.2.1) (x.2.2.2.2.2.2.2.2.2.1) (x.2.2.2.2.2.2.2.2.2.2))) (fun _ => rfl) ?_ (fun x n => qd_7_r x.1 x.2.1 x.2.2.1 x.2.2.2.1 x.2.2.2.2.1 x.2.2.2.2.2.1 x.2.2.2.2.2.2.1 x.2.2.2.2.2.2.2.1 x.2.2.2.2.2.2.2.2.1 x.2.2.2.2.2.2.2.2.2.1 x.2.2.2.2.2.2.2.2.2.2 n) (fun x ow => qd_7_h x.1 x.2.1 x.2.2.1 x.2.2.2.1 x.2.2.2.2.1 x.2.2.2.2.2.1 x.2.2.2.2.2.2.1 x.2.2.2.2.2.2.2.1 x.2.2.2.2.2.2.2.2.1 x.2.2.2.2.2.2.2.2.2.1 x.2.2.2.2.2.2.2.2.2.2 ow)
  intro s t h
  unfold qd_lo7 at h
  split at h
  · cases h; exact ⟨(_, _, _, _, _, _, _, _, _, _, _), rfl, rfl⟩
  · cases h
noncomputable def qd_t (k s : Int) (sg bg : Bool) (NA NU ME BA : LL) (ct : Int) : Tr (Bool) := (.ite ((!(qcl_v s (1 : Int) (24 : Int))) = true) (.ok false)
  (.ite ((!(qbu_v k s sg bg NA NU ME BA ct)) = true) (.ok false)
   (.ite ((decide ((NA.length : Int) > (0 : Int))) = true) (.ok false)
    (.ite ((decide ((NU.length : Int) > (0 : Int))) = true) (.ok false)
     (.ite ((decide ((BA.length : Int) > (0 : Int))) = true) (.ok false)
      (.ite ((!(ct == (0 : Int))) = true) (.ok false)
       (.ite ((decide ((ME.length : Int) < (1 : Int))) = true) (.ok false)
        (.ite ((decide ((ME.length : Int) > (4 : Int))) = true) (.ok false)
         (.ite ((qd_k7_1 k s sg bg NA NU ME BA ct (0 : Int) (0 : Int)) = true) (.ite ((qd_o7_2 k s sg bg NA NU ME BA ct (0 : Int) (0 : Int)) = true) (.ok false)
           .no)
          (.ite ((qd_o7_3 k s sg bg NA NU ME BA ct (0 : Int) (0 : Int)) = true) (.ok (decide ((qd_u7_3_9 k s sg bg NA NU ME BA ct (0 : Int) (0 : Int)) ≤ (qd_u7_3_1 k s sg bg NA NU ME BA ct (0 : Int) (0 : Int)))))
           .no))))))))))
def qd_mk (p : Bool) : Res := [(false, [⟨.bool, .sh, TC.b p⟩])]
noncomputable def qd_c (k s : Int) (sg bg : Bool) (NA NU ME BA : LL) (ct : Int) : Bool := (bif (!(qcl_v s (1 : Int) (24 : Int))) then true else (bif (!(qbu_v k s sg bg NA NU ME BA ct)) then true else (bif (decide ((NA.length : Int) > (0 : Int))) then true else (bif (decide ((NU.length : Int) > (0 : Int))) then true else (bif (decide ((BA.length : Int) > (0 : Int))) then true else (bif (!(ct == (0 : Int))) then true else (bif (decide ((ME.length : Int) < (1 : Int))) then true else (bif (decide ((ME.length : Int) > (4 : Int))) then true else (bif (qd_k7_1 k s sg bg NA NU ME BA ct (0 : Int) (0 : Int)) then ((qd_o7_2 k s sg bg NA NU ME BA ct (0 : Int) (0 : Int)) && true) else ((qd_o7_3 k s sg bg NA NU ME BA ct (0 : Int) (0 : Int)) && true))))))))))
noncomputable def qd_v (k s : Int) (sg bg : Bool) (NA NU ME BA : LL) (ct : Int) : Bool := (bif (!(qcl_v s (1 : Int) (24 : Int))) then false else (bif (!(qbu_v k s sg bg NA NU ME BA ct)) then false else (bif (decide ((NA.length : Int) > (0 : Int))) then false else (bif (decide ((NU.length : Int) > (0 : Int))) then false else (bif (decide ((BA.length : Int) > (0 : Int))) then false else (bif (!(ct == (0 : Int))) then false else (bif (decide ((ME.length : Int) < (1 : Int))) then false else (bif (decide ((ME.length : Int) > (4 : Int))) then false else (bif (qd_k7_1 k s sg bg NA NU ME BA ct (0 : Int) (0 : Int)) then false else (decide ((qd_u7_3_9 k s sg bg NA NU ME BA ct (0 : Int) (0 : Int)) ≤ (qd_u7_3_1 k s sg bg NA NU ME BA ct (0 : Int) (0 : Int)))))))))))))
theorem qd_l (k s : Int) (sg bg : Bool) (NA NU ME BA : LL) (ct : Int) : (qd_c k s sg bg NA NU ME BA ct) = true → (qd_t k s sg bg NA NU ME BA ct).val = some (qd_v k s sg bg NA NU ME BA ct) := by
  unfold qd_t qd_v qd_c
  exact fun h => (Tr.ss h (fun h => rfl) (fun h => (Tr.ss h (fun h => rfl) (fun h => (Tr.ss h (fun h => rfl) (fun h => (Tr.ss h (fun h => rfl) (fun h => (Tr.ss h (fun h => rfl) (fun h => (Tr.ss h (fun h => rfl) (fun h => (Tr.ss h (fun h => rfl) (fun h => (Tr.ss h (fun h => rfl) (fun h => (Tr.ss h (fun h => (Tr.gb h fun h => rfl)) (fun h => (Tr.gb h fun h => rfl)))))))))))))))))))
noncomputable def qd_S : List Arg → Option (Bool × Res) := fun xs => match xs with
  | [(true, [(.int .i64, TC.i k), (.int .i64, TC.i s), (.bool, TC.b sg), (.bool, TC.b bg), (.slice 9, TC.l NA), (.slice 2, TC.l NU), (.slice 71, TC.l ME), (.slice 32, TC.l BA), (.int .i64, TC.i ct)])] => some ((qd_c k s sg bg NA NU ME BA ct), qd_mk (qd_v k s sg bg NA NU ME BA ct))
  | _ => .none
theorem qd_e (k s : Int) (sg bg : Bool) (NA NU ME BA : LL) (ct : Int) : runF tab FT D24 live 66 qd_lo [(true, [(.int .i64, TC.i k), (.int .i64, TC.i s), (.bool, TC.b sg), (.bool, TC.b bg), (.slice 9, TC.l NA), (.slice 2, TC.l NU), (.slice 71, TC.l ME), (.slice 32, TC.l BA), (.int .i64, TC.i ct)])] = (qd_t k s sg bg NA NU ME BA ct).run fun p => some (qd_mk p) := by kernel_rfl
theorem qd_s : ∀ xs r, qd_S xs = some (true, r) → runF tab FT D24 live 66 qd_lo xs = some r := by
  intro xs r h
  unfold qd_S at h
  split at h
  · simp only [Option.some.injEq, Prod.mk.injEq] at h
    obtain ⟨h1, rfl⟩ := h
    exact fun_told (qd_e _ _ _ _ _ _ _ _ _) (qd_l _ _ _ _ _ _ _ _ _) h1
  · cases h
noncomputable def D25 : Dt := also D24 66 qd_S
theorem d25 : DOk Go.Proofs.Try.prog tab D25 := d24.also mixed_ok tab_ok names_ok (fnLoops_two (by kernel_rfl) qd_is7 qd_is13) qd_s
theorem qd_cc {k : Int} {s : Int} {sg : Bool} {bg : Bool} {NA : LL} {NU : LL} {ME : LL} {BA : LL} {ct : Int} (ht : Typed tab (.slice 71) (.l ME)) (hr : (∀ x : List TC, x ∈ ME → qbk_rc (nth x 2).int (nth x 3).int (nth x 4).bool (nth x 5).bool (nth x 6).list (nth x 7).list (nth x 8).list (nth x 9).list (nth x 10).int = true)) (hz : (∀ x : List TC, x ∈ ME → (!(qbk_rv (nth x 2).int (nth x 3).int (nth x 4).bool (nth x 5).bool (nth x 6).list (nth x 7).list (nth x 8).list (nth x 9).list (nth x 10).int)) = false → qt_rc (nth x 2).int (nth x 3).int (nth x 4).bool (nth x 5).bool (nth x 6).list (nth x 7).list (nth x 8).list (nth x 9).list (nth x 10).int = true)) : (qd_c k s sg bg NA NU ME BA ct) = true := by
  unfold qd_c
  refine bifT (fun b1 => ?_) (fun b1 => ?_)
  · skip
    rfl
  · skip
    refine bifT (fun b2 => ?_) (fun b2 => ?_)
    · skip
      rfl
    · skip
      refine bifT (fun b3 => ?_) (fun b3 => ?_)
      · skip
        rfl
      · skip
        refine bifT (fun b4 => ?_) (fun b4 => ?_)
        · skip
          rfl
        · skip
          refine bifT (fun b5 => ?_) (fun b5 => ?_)
          · skip
            rfl
          · skip
            refine bifT (fun b6 => ?_) (fun b6 => ?_)
            · skip
              rfl
            · skip
              refine bifT (fun b7 => ?_) (fun b7 => ?_)
              · skip
                rfl
              · skip
                refine bifT (fun b8 => ?_) (fun b8 => ?_)
                · skip
                  rfl
                · skip
                  refine bifT (fun b9 => ?_) (fun b9 => ?_)
                  · skip
                    refine andT (by exact is_true ⟨rfl, ht, hr, hz⟩) ?_
                    rfl
                  · skip
                    refine andT (by exact is_true ⟨rfl, ht, hr, hz⟩) ?_
                    rfl
theorem qd_vv (k s : Int) (sg bg : Bool) (NA NU ME BA : LL) (ct : Int) : qd_v k s sg bg NA NU ME BA ct = (compS s sg bg NA NU ME BA ct && ((allI (memP ME) ME.length && ME.all fun x => okV (nth x 2).int (nth x 3).int (nth x 4).bool (nth x 5).bool (nth x 6).list (nth x 7).list (nth x 8).list (nth x 9).list (nth x 10).int) && decide (endAt ME ME.length ≤ s))) := by
  unfold qd_v compS
  rw [show qbu_v k s sg bg NA NU ME BA ct = plain sg bg from by unfold qbu_v plain; cases sg <;> cases bg <;> rfl, show qcl_v s 1 24 = inB s 1 24 from rfl]
  obtain ⟨e, he⟩ := qd_R7_eq k s sg bg NA NU ME BA ct
  have hv : (bif qd_k7_1 k s sg bg NA NU ME BA ct 0 0 then false else decide (qd_u7_3_9 k s sg bg NA NU ME BA ct 0 0 ≤ qd_u7_3_1 k s sg bg NA NU ME BA ct 0 0)) = ((allI (memP ME) ME.length && ME.all fun x => okV (nth x 2).int (nth x 3).int (nth x 4).bool (nth x 5).bool (nth x 6).list (nth x 7).list (nth x 8).list (nth x 9).list (nth x 10).int) && decide (endAt ME ME.length ≤ s)) := by
    unfold qd_k7_1 qd_u7_3_9 qd_u7_3_1
    rw [he]
    generalize (allI (memP ME) ME.length && ME.all fun x => okV (nth x 2).int (nth x 3).int (nth x 4).bool (nth x 5).bool (nth x 6).list (nth x 7).list (nth x 8).list (nth x 9).list (nth x 10).int) = q
    cases q <;> rfl
  rw [hv]
  simp only [bif_nf, bif_tf, bif_ft, Bool.not_not, Bool.and_assoc]
noncomputable def qbm_t (k s : Int) (sg bg : Bool) (NA NU ME BA : LL) (ct : Int) : Tr (Bool) := (.ite ((!(s == (0 : Int))) = true) (.ok false)
  (.ite ((!(qbu_v k s sg bg NA NU ME BA ct)) = true) (.ok false)
   (.ite ((decide ((NA.length : Int) > (0 : Int))) = true) (.ok false)
    (.ite ((decide ((NU.length : Int) > (0 : Int))) = true) (.ok false)
     (.ite ((decide ((ME.length : Int) > (0 : Int))) = true) (.ok false)
      (.ite ((!((BA.length : Int) == (1 : Int))) = true) (.ok false)
       (.ite ((qcl_v ct (1 : Int) (4 : Int)) = true) (.ite ((0 : Int) ≤ (0 : Int) ∧ (0 : Int) < (BA.length : Int)) (.ite ((qbk_rc ((nth (row BA (0 : Int)) 0).int) ((nth (row BA (0 : Int)) 1).int) ((nth (row BA (0 : Int)) 2).bool) ((nth (row BA (0 : Int)) 3).bool) ((nth (row BA (0 : Int)) 4).list) ((nth (row BA (0 : Int)) 5).list) ((nth (row BA (0 : Int)) 6).list) ((nth (row BA (0 : Int)) 7).list) ((nth (row BA (0 : Int)) 8).int)) = true) (.ok (qbk_rv ((nth (row BA (0 : Int)) 0).int) ((nth (row BA (0 : Int)) 1).int) ((nth (row BA (0 : Int)) 2).bool) ((nth (row BA (0 : Int)) 3).bool) ((nth (row BA (0 : Int)) 4).list) ((nth (row BA (0 : Int)) 5).list) ((nth (row BA (0 : Int)) 6).list) ((nth (row BA (0 : Int)) 7).list) ((nth (row BA (0 : Int)) 8).int)))
          .no)
         .no)
        (.ok false))))))))
def qbm_mk (p : Bool) : Res := [(false, [⟨.bool, .sh, TC.b p⟩])]
noncomputable def qbm_c (k s : Int) (sg bg : Bool) (NA NU ME BA : LL) (ct : Int) : Bool := (bif (!(s == (0 : Int))) then true else (bif (!(qbu_v k s sg bg NA NU ME BA ct)) then true else (bif (decide ((NA.length : Int) > (0 : Int))) then true else (bif (decide ((NU.length : Int) > (0 : Int))) then true else (bif (decide ((ME.length : Int) > (0 : Int))) then true else (bif (!((BA.length : Int) == (1 : Int))) then true else (bif (qcl_v ct (1 : Int) (4 : Int)) then (is ((0 : Int) ≤ (0 : Int) ∧ (0 : Int) < (BA.length : Int)) && ((qbk_rc ((nth (row BA (0 : Int)) 0).int) ((nth (row BA (0 : Int)) 1).int) ((nth (row BA (0 : Int)) 2).bool) ((nth (row BA (0 : Int)) 3).bool) ((nth (row BA (0 : Int)) 4).list) ((nth (row BA (0 : Int)) 5).list) ((nth (row BA (0 : Int)) 6).list) ((nth (row BA (0 : Int)) 7).list) ((nth (row BA (0 : Int)) 8).int)) && true)) else true)))))))
noncomputable def qbm_v (k s : Int) (sg bg : Bool) (NA NU ME BA : LL) (ct : Int) : Bool := (bif (!(s == (0 : Int))) then false else (bif (!(qbu_v k s sg bg NA NU ME BA ct)) then false else (bif (decide ((NA.length : Int) > (0 : Int))) then false else (bif (decide ((NU.length : Int) > (0 : Int))) then false else (bif (decide ((ME.length : Int) > (0 : Int))) then false else (bif (!((BA.length : Int) == (1 : Int))) then false else (bif (qcl_v ct (1 : Int) (4 : Int)) then (qbk_rv ((nth (row BA (0 : Int)) 0).int) ((nth (row BA (0 : Int)) 1).int) ((nth (row BA (0 : Int)) 2).bool) ((nth (row BA (0 : Int)) 3).bool) ((nth (row BA (0 : Int)) 4).list) ((nth (row BA (0 : Int)) 5).list) ((nth (row BA (0 : Int)) 6).list) ((nth (row BA (0 : Int)) 7).list) ((nth (row BA (0 : Int)) 8).int)) else false)))))))
theorem qbm_l (k s : Int) (sg bg : Bool) (NA NU ME BA : LL) (ct : Int) : (qbm_c k s sg bg NA NU ME BA ct) = true → (qbm_t k s sg bg NA NU ME BA ct).val = some (qbm_v k s sg bg NA NU ME BA ct) := by
  unfold qbm_t qbm_v qbm_c
  exact fun h => (Tr.ss h (fun h => rfl) (fun h => (Tr.ss h (fun h => rfl) (fun h => (Tr.ss h (fun h => rfl) (fun h => (Tr.ss h (fun h => rfl) (fun h => (Tr.ss h (fun h => rfl) (fun h => (Tr.ss h (fun h => rfl) (fun h => (Tr.ss h (fun h => (Tr.gs h fun h => (Tr.gb h fun h => rfl))) (fun h => rfl))))))))))))))
noncomputable def qbm_S : List Arg → Option (Bool × Res) := fun xs => match xs with
  | [(true, [(.int .i64, TC.i k), (.int .i64, TC.i s), (.bool, TC.b sg), (.bool, TC.b bg), (.slice 9, TC.l NA), (.slice 2, TC.l NU), (.slice 71, TC.l ME), (.slice 32, TC.l BA), (.int .i64, TC.i ct)])] => some ((qbm_c k s sg bg NA NU ME BA ct), qbm_mk (qbm_v k s sg bg NA NU ME BA ct))
  | _ => .none
theorem qbm_e (k s : Int) (sg bg : Bool) (NA NU ME BA : LL) (ct : Int) : runF tab FT D25 live 67 noLoops [(true, [(.int .i64, TC.i k), (.int .i64, TC.i s), (.bool, TC.b sg), (.bool, TC.b bg), (.slice 9, TC.l NA), (.slice 2, TC.l NU), (.slice 71, TC.l ME), (.slice 32, TC.l BA), (.int .i64, TC.i ct)])] = (qbm_t k s sg bg NA NU ME BA ct).run fun p => some (qbm_mk p) := by kernel_rfl
theorem qbm_s : ∀ xs r, qbm_S xs = some (true, r) → runF tab FT D25 live 67 noLoops xs = some r := by
  intro xs r h
  unfold qbm_S at h
  split at h
  · simp only [Option.some.injEq, Prod.mk.injEq] at h
    obtain ⟨h1, rfl⟩ := h
    exact fun_told (qbm_e _ _ _ _ _ _ _ _ _) (qbm_l _ _ _ _ _ _ _ _ _) h1
  · cases h
noncomputable def D26 : Dt := also D25 67 qbm_S
theorem d26 : DOk Go.Proofs.Try.prog tab D26 := d25.also mixed_ok tab_ok names_ok noLoops_ok qbm_s
theorem qbm_cc {k : Int} {s : Int} {sg : Bool} {bg : Bool} {NA : LL} {NU : LL} {ME : LL} {BA : LL} {ct : Int} (hr : 0 < BA.length → qbk_rc (nth (row BA (0 : Int)) 0).int (nth (row BA (0 : Int)) 1).int (nth (row BA (0 : Int)) 2).bool (nth (row BA (0 : Int)) 3).bool (nth (row BA (0 : Int)) 4).list (nth (row BA (0 : Int)) 5).list (nth (row BA (0 : Int)) 6).list (nth (row BA (0 : Int)) 7).list (nth (row BA (0 : Int)) 8).int = true) : (qbm_c k s sg bg NA NU ME BA ct) = true := by
  unfold qbm_c
  refine bifT (fun b1 => ?_) (fun b1 => ?_)
  · skip
    rfl
  · skip
    refine bifT (fun b2 => ?_) (fun b2 => ?_)
    · skip
      rfl
    · skip
      refine bifT (fun b3 => ?_) (fun b3 => ?_)
      · skip
        rfl
      · skip
        refine bifT (fun b4 => ?_) (fun b4 => ?_)
        · skip
          rfl
        · skip
          refine bifT (fun b5 => ?_) (fun b5 => ?_)
          · skip
            rfl
          · skip
            refine bifT (fun b6 => ?_) (fun b6 => ?_)
            · skip
              rfl
            · skip
              refine bifT (fun b7 => ?_) (fun b7 => ?_)
              · skip
                refine andT (is_true (by have e6 := bneF b6; omega)) ?_
                refine andT (by have e6 := bneF b6; exact hr (by omega)) ?_
                rfl
              · skip
                rfl
theorem qbm_vv (k s : Int) (sg bg : Bool) (NA NU ME BA : LL) (ct : Int) : qbm_v k s sg bg NA NU ME BA ct = (arrS s sg bg NA NU ME BA ct && (if h : 0 < BA.length then okV (nth (row BA (0 : Int)) 0).int (nth (row BA (0 : Int)) 1).int (nth (row BA (0 : Int)) 2).bool (nth (row BA (0 : Int)) 3).bool (nth (row BA (0 : Int)) 4).list (nth (row BA (0 : Int)) 5).list (nth (row BA (0 : Int)) 6).list (nth (row BA (0 : Int)) 7).list (nth (row BA (0 : Int)) 8).int else false)) := by
  unfold qbm_v arrS
  rw [show qbu_v k s sg bg NA NU ME BA ct = plain sg bg from by unfold qbu_v plain; cases sg <;> cases bg <;> rfl, show qcl_v ct 1 4 = inB ct 1 4 from rfl, show qbk_rv (nth (row BA (0 : Int)) 0).int (nth (row BA (0 : Int)) 1).int (nth (row BA (0 : Int)) 2).bool (nth (row BA (0 : Int)) 3).bool (nth (row BA (0 : Int)) 4).list (nth (row BA (0 : Int)) 5).list (nth (row BA (0 : Int)) 6).list (nth (row BA (0 : Int)) 7).list (nth (row BA (0 : Int)) 8).int = okV (nth (row BA (0 : Int)) 0).int (nth (row BA (0 : Int)) 1).int (nth (row BA (0 : Int)) 2).bool (nth (row BA (0 : Int)) 3).bool (nth (row BA (0 : Int)) 4).list (nth (row BA (0 : Int)) 5).list (nth (row BA (0 : Int)) 6).list (nth (row BA (0 : Int)) 7).list (nth (row BA (0 : Int)) 8).int from rfl]
  simp only [bif_nf, bif_tf, bif_ft, Bool.not_not, Bool.and_assoc]
  cases hb : ((BA.length : Int) == 1) with
  | true => rw [dif_pos (by have := beq_iff_eq.1 hb; omega)]
  | false => simp only [Bool.false_and, Bool.and_false]
noncomputable def qbk_t (k s : Int) (sg bg : Bool) (NA NU ME BA : LL) (ct : Int) : Tr (Bool) := (.ite ((k == (1 : Int)) = true) (.ite ((k == (2 : Int)) = true) (.ite ((qcn_v k s sg bg NA NU ME BA ct) = true) (.ite ((qbu_v k s sg bg NA NU ME BA ct) = true) (.ite (((NA.length : Int) == (0 : Int)) = true) (.ite (((NU.length : Int) == (0 : Int)) = true) (.ite (((ME.length : Int) == (0 : Int)) = true) (.ite (((BA.length : Int) == (0 : Int)) = true) (.ite ((ct == (0 : Int)) = true) (.ite ((qt_rc k s sg bg NA NU ME BA ct) = true) (.ite ((decide ((qt_rv k s sg bg NA NU ME BA ct) ≤ (24 : Int))) = true) (.ite ((qi_rc k s sg bg NA NU ME BA ct) = true) (.ok (decide ((qi_rv k s sg bg NA NU ME BA ct) ≤ (3 : Int))))
             .no)
            (.ok false))
           .no)
          (.ok false))
         (.ok false))
        (.ok false))
       (.ok false))
      (.ok false))
     (.ok false))
    (.ok false))
   (.ite ((k == (6 : Int)) = true) (.ite ((qcn_v k s sg bg NA NU ME BA ct) = true) (.ite ((qbu_v k s sg bg NA NU ME BA ct) = true) (.ite (((NA.length : Int) == (0 : Int)) = true) (.ite (((NU.length : Int) == (0 : Int)) = true) (.ite (((ME.length : Int) == (0 : Int)) = true) (.ite (((BA.length : Int) == (0 : Int)) = true) (.ite ((ct == (0 : Int)) = true) (.ite ((qt_rc k s sg bg NA NU ME BA ct) = true) (.ite ((decide ((qt_rv k s sg bg NA NU ME BA ct) ≤ (24 : Int))) = true) (.ite ((qi_rc k s sg bg NA NU ME BA ct) = true) (.ok (decide ((qi_rv k s sg bg NA NU ME BA ct) ≤ (3 : Int))))
              .no)
             (.ok false))
            .no)
           (.ok false))
          (.ok false))
         (.ok false))
        (.ok false))
       (.ok false))
      (.ok false))
     (.ok false))
    (.ite ((qcn_v k s sg bg NA NU ME BA ct) = true) (.ite ((qt_rc k s sg bg NA NU ME BA ct) = true) (.ite ((decide ((qt_rv k s sg bg NA NU ME BA ct) ≤ (24 : Int))) = true) (.ite ((qi_rc k s sg bg NA NU ME BA ct) = true) (.ok (decide ((qi_rv k s sg bg NA NU ME BA ct) ≤ (3 : Int))))
        .no)
       (.ok false))
      .no)
     (.ok false))))
  (.ite ((k == (2 : Int)) = true) (.ite ((k == (2 : Int)) = true) (.ite ((qcl_v s (1 : Int) (16 : Int)) = true) (.ite ((qbu_v k s sg bg NA NU ME BA ct) = true) (.ite (((NA.length : Int) == (0 : Int)) = true) (.ite (((NU.length : Int) == (0 : Int)) = true) (.ite (((ME.length : Int) == (0 : Int)) = true) (.ite (((BA.length : Int) == (0 : Int)) = true) (.ite ((ct == (0 : Int)) = true) (.ite ((qt_rc k s sg bg NA NU ME BA ct) = true) (.ite ((decide ((qt_rv k s sg bg NA NU ME BA ct) ≤ (24 : Int))) = true) (.ite ((qi_rc k s sg bg NA NU ME BA ct) = true) (.ok (decide ((qi_rv k s sg bg NA NU ME BA ct) ≤ (3 : Int))))
              .no)
             (.ok false))
            .no)
           (.ok false))
          (.ok false))
         (.ok false))
        (.ok false))
       (.ok false))
      (.ok false))
     (.ok false))
    (.ite ((k == (6 : Int)) = true) (.ite ((qcl_v s (1 : Int) (16 : Int)) = true) (.ite ((qbu_v k s sg bg NA NU ME BA ct) = true) (.ite (((NA.length : Int) == (0 : Int)) = true) (.ite (((NU.length : Int) == (0 : Int)) = true) (.ite (((ME.length : Int) == (0 : Int)) = true) (.ite (((BA.length : Int) == (0 : Int)) = true) (.ite ((ct == (0 : Int)) = true) (.ite ((qt_rc k s sg bg NA NU ME BA ct) = true) (.ite ((decide ((qt_rv k s sg bg NA NU ME BA ct) ≤ (24 : Int))) = true) (.ite ((qi_rc k s sg bg NA NU ME BA ct) = true) (.ok (decide ((qi_rv k s sg bg NA NU ME BA ct) ≤ (3 : Int))))
               .no)
              (.ok false))
             .no)
            (.ok false))
           (.ok false))
          (.ok false))
         (.ok false))
        (.ok false))
       (.ok false))
      (.ok false))
     (.ite ((qcl_v s (1 : Int) (16 : Int)) = true) (.ite ((qt_rc k s sg bg NA NU ME BA ct) = true) (.ite ((decide ((qt_rv k s sg bg NA NU ME BA ct) ≤ (24 : Int))) = true) (.ite ((qi_rc k s sg bg NA NU ME BA ct) = true) (.ok (decide ((qi_rv k s sg bg NA NU ME BA ct) ≤ (3 : Int))))
         .no)
        (.ok false))
       .no)
      (.ok false))))
   (.ite ((k == (3 : Int)) = true) (.ite ((qh_c k s sg bg NA NU ME BA ct) = true) (.ite ((k == (2 : Int)) = true) (.ite ((qh_v k s sg bg NA NU ME BA ct) = true) (.ite ((qbu_v k s sg bg NA NU ME BA ct) = true) (.ite (((NA.length : Int) == (0 : Int)) = true) (.ite (((NU.length : Int) == (0 : Int)) = true) (.ite (((ME.length : Int) == (0 : Int)) = true) (.ite (((BA.length : Int) == (0 : Int)) = true) (.ite ((ct == (0 : Int)) = true) (.ite ((qt_rc k s sg bg NA NU ME BA ct) = true) (.ite ((decide ((qt_rv k s sg bg NA NU ME BA ct) ≤ (24 : Int))) = true) (.ite ((qi_rc k s sg bg NA NU ME BA ct) = true) (.ok (decide ((qi_rv k s sg bg NA NU ME BA ct) ≤ (3 : Int))))
                .no)
               (.ok false))
              .no)
             (.ok false))
            (.ok false))
           (.ok false))
          (.ok false))
         (.ok false))
        (.ok false))
       (.ok false))
      (.ite ((k == (6 : Int)) = true) (.ite ((qh_v k s sg bg NA NU ME BA ct) = true) (.ite ((qbu_v k s sg bg NA NU ME BA ct) = true) (.ite (((NA.length : Int) == (0 : Int)) = true) (.ite (((NU.length : Int) == (0 : Int)) = true) (.ite (((ME.length : Int) == (0 : Int)) = true) (.ite (((BA.length : Int) == (0 : Int)) = true) (.ite ((ct == (0 : Int)) = true) (.ite ((qt_rc k s sg bg NA NU ME BA ct) = true) (.ite ((decide ((qt_rv k s sg bg NA NU ME BA ct) ≤ (24 : Int))) = true) (.ite ((qi_rc k s sg bg NA NU ME BA ct) = true) (.ok (decide ((qi_rv k s sg bg NA NU ME BA ct) ≤ (3 : Int))))
                 .no)
                (.ok false))
               .no)
              (.ok false))
             (.ok false))
            (.ok false))
           (.ok false))
          (.ok false))
         (.ok false))
        (.ok false))
       (.ite ((qh_v k s sg bg NA NU ME BA ct) = true) (.ite ((qt_rc k s sg bg NA NU ME BA ct) = true) (.ite ((decide ((qt_rv k s sg bg NA NU ME BA ct) ≤ (24 : Int))) = true) (.ite ((qi_rc k s sg bg NA NU ME BA ct) = true) (.ok (decide ((qi_rv k s sg bg NA NU ME BA ct) ≤ (3 : Int))))
           .no)
          (.ok false))
         .no)
        (.ok false))))
     .no)
    (.ite ((k == (4 : Int)) = true) (.ite ((qd_c k s sg bg NA NU ME BA ct) = true) (.ite ((k == (2 : Int)) = true) (.ite ((qd_v k s sg bg NA NU ME BA ct) = true) (.ite ((qbu_v k s sg bg NA NU ME BA ct) = true) (.ite (((NA.length : Int) == (0 : Int)) = true) (.ite (((NU.length : Int) == (0 : Int)) = true) (.ite (((ME.length : Int) == (0 : Int)) = true) (.ite (((BA.length : Int) == (0 : Int)) = true) (.ite ((ct == (0 : Int)) = true) (.ite ((qt_rc k s sg bg NA NU ME BA ct) = true) (.ite ((decide ((qt_rv k s sg bg NA NU ME BA ct) ≤ (24 : Int))) = true) (.ite ((qi_rc k s sg bg NA NU ME BA ct) = true) (.ok (decide ((qi_rv k s sg bg NA NU ME BA ct) ≤ (3 : Int))))
                 .no)
                (.ok false))
               .no)
              (.ok false))
             (.ok false))
            (.ok false))
           (.ok false))
          (.ok false))
         (.ok false))
        (.ok false))
       (.ite ((k == (6 : Int)) = true) (.ite ((qd_v k s sg bg NA NU ME BA ct) = true) (.ite ((qbu_v k s sg bg NA NU ME BA ct) = true) (.ite (((NA.length : Int) == (0 : Int)) = true) (.ite (((NU.length : Int) == (0 : Int)) = true) (.ite (((ME.length : Int) == (0 : Int)) = true) (.ite (((BA.length : Int) == (0 : Int)) = true) (.ite ((ct == (0 : Int)) = true) (.ite ((qt_rc k s sg bg NA NU ME BA ct) = true) (.ite ((decide ((qt_rv k s sg bg NA NU ME BA ct) ≤ (24 : Int))) = true) (.ite ((qi_rc k s sg bg NA NU ME BA ct) = true) (.ok (decide ((qi_rv k s sg bg NA NU ME BA ct) ≤ (3 : Int))))
                  .no)
                 (.ok false))
                .no)
               (.ok false))
              (.ok false))
             (.ok false))
            (.ok false))
           (.ok false))
          (.ok false))
         (.ok false))
        (.ite ((qd_v k s sg bg NA NU ME BA ct) = true) (.ite ((qt_rc k s sg bg NA NU ME BA ct) = true) (.ite ((decide ((qt_rv k s sg bg NA NU ME BA ct) ≤ (24 : Int))) = true) (.ite ((qi_rc k s sg bg NA NU ME BA ct) = true) (.ok (decide ((qi_rv k s sg bg NA NU ME BA ct) ≤ (3 : Int))))
            .no)
           (.ok false))
          .no)
         (.ok false))))
      .no)
     (.ite ((k == (5 : Int)) = true) (.ite ((qbm_c k s sg bg NA NU ME BA ct) = true) (.ite ((k == (2 : Int)) = true) (.ite ((qbm_v k s sg bg NA NU ME BA ct) = true) (.ite ((qbu_v k s sg bg NA NU ME BA ct) = true) (.ite (((NA.length : Int) == (0 : Int)) = true) (.ite (((NU.length : Int) == (0 : Int)) = true) (.ite (((ME.length : Int) == (0 : Int)) = true) (.ite (((BA.length : Int) == (0 : Int)) = true) (.ite ((ct == (0 : Int)) = true) (.ite ((qt_rc k s sg bg NA NU ME BA ct) = true) (.ite ((decide ((qt_rv k s sg bg NA NU ME BA ct) ≤ (24 : Int))) = true) (.ite ((qi_rc k s sg bg NA NU ME BA ct) = true) (.ok (decide ((qi_rv k s sg bg NA NU ME BA ct) ≤ (3 : Int))))
                  .no)
                 (.ok false))
                .no)
               (.ok false))
              (.ok false))
             (.ok false))
            (.ok false))
           (.ok false))
          (.ok false))
         (.ok false))
        (.ite ((k == (6 : Int)) = true) (.ite ((qbm_v k s sg bg NA NU ME BA ct) = true) (.ite ((qbu_v k s sg bg NA NU ME BA ct) = true) (.ite (((NA.length : Int) == (0 : Int)) = true) (.ite (((NU.length : Int) == (0 : Int)) = true) (.ite (((ME.length : Int) == (0 : Int)) = true) (.ite (((BA.length : Int) == (0 : Int)) = true) (.ite ((ct == (0 : Int)) = true) (.ite ((qt_rc k s sg bg NA NU ME BA ct) = true) (.ite ((decide ((qt_rv k s sg bg NA NU ME BA ct) ≤ (24 : Int))) = true) (.ite ((qi_rc k s sg bg NA NU ME BA ct) = true) (.ok (decide ((qi_rv k s sg bg NA NU ME BA ct) ≤ (3 : Int))))
                   .no)
                  (.ok false))
                 .no)
                (.ok false))
               (.ok false))
              (.ok false))
             (.ok false))
            (.ok false))
           (.ok false))
          (.ok false))
         (.ite ((qbm_v k s sg bg NA NU ME BA ct) = true) (.ite ((qt_rc k s sg bg NA NU ME BA ct) = true) (.ite ((decide ((qt_rv k s sg bg NA NU ME BA ct) ≤ (24 : Int))) = true) (.ite ((qi_rc k s sg bg NA NU ME BA ct) = true) (.ok (decide ((qi_rv k s sg bg NA NU ME BA ct) ≤ (3 : Int))))
             .no)
            (.ok false))
           .no)
          (.ok false))))
       .no)
      (.ite ((k == (6 : Int)) = true) (.ite ((k == (2 : Int)) = true) (.ite ((s == (2 : Int)) = true) (.ite ((qbu_v k s sg bg NA NU ME BA ct) = true) (.ite (((NA.length : Int) == (0 : Int)) = true) (.ite (((NU.length : Int) == (0 : Int)) = true) (.ite (((ME.length : Int) == (0 : Int)) = true) (.ite (((BA.length : Int) == (0 : Int)) = true) (.ite ((ct == (0 : Int)) = true) (.ite ((qt_rc k s sg bg NA NU ME BA ct) = true) (.ite ((decide ((qt_rv k s sg bg NA NU ME BA ct) ≤ (24 : Int))) = true) (.ite ((qi_rc k s sg bg NA NU ME BA ct) = true) (.ok (decide ((qi_rv k s sg bg NA NU ME BA ct) ≤ (3 : Int))))
                  .no)
                 (.ok false))
                .no)
               (.ok false))
              (.ok false))
             (.ok false))
            (.ok false))
           (.ok false))
          (.ok false))
         (.ok false))
        (.ite ((k == (6 : Int)) = true) (.ite ((s == (2 : Int)) = true) (.ite ((qbu_v k s sg bg NA NU ME BA ct) = true) (.ite (((NA.length : Int) == (0 : Int)) = true) (.ite (((NU.length : Int) == (0 : Int)) = true) (.ite (((ME.length : Int) == (0 : Int)) = true) (.ite (((BA.length : Int) == (0 : Int)) = true) (.ite ((ct == (0 : Int)) = true) (.ite ((qt_rc k s sg bg NA NU ME BA ct) = true) (.ite ((decide ((qt_rv k s sg bg NA NU ME BA ct) ≤ (24 : Int))) = true) (.ite ((qi_rc k s sg bg NA NU ME BA ct) = true) (.ok (decide ((qi_rv k s sg bg NA NU ME BA ct) ≤ (3 : Int))))
                   .no)
                  (.ok false))
                 .no)
                (.ok false))
               (.ok false))
              (.ok false))
             (.ok false))
            (.ok false))
           (.ok false))
          (.ok false))
         (.ite ((s == (2 : Int)) = true) (.ite ((qt_rc k s sg bg NA NU ME BA ct) = true) (.ite ((decide ((qt_rv k s sg bg NA NU ME BA ct) ≤ (24 : Int))) = true) (.ite ((qi_rc k s sg bg NA NU ME BA ct) = true) (.ok (decide ((qi_rv k s sg bg NA NU ME BA ct) ≤ (3 : Int))))
             .no)
            (.ok false))
           .no)
          (.ok false))))
       (.ite ((k == (2 : Int)) = true) (.ok false)
        (.ite ((k == (6 : Int)) = true) (.ok false)
         (.ok false)))))))))
def qbk_mk (p : Bool) : Res := [(false, [⟨.bool, .sh, TC.b p⟩])]
noncomputable def qbk_c (k s : Int) (sg bg : Bool) (NA NU ME BA : LL) (ct : Int) : Bool := (bif (k == (1 : Int)) then (bif (k == (2 : Int)) then (bif (qcn_v k s sg bg NA NU ME BA ct) then (bif (qbu_v k s sg bg NA NU ME BA ct) then (bif ((NA.length : Int) == (0 : Int)) then (bif ((NU.length : Int) == (0 : Int)) then (bif ((ME.length : Int) == (0 : Int)) then (bif ((BA.length : Int) == (0 : Int)) then (bif (ct == (0 : Int)) then ((qt_rc k s sg bg NA NU ME BA ct) && (bif (decide ((qt_rv k s sg bg NA NU ME BA ct) ≤ (24 : Int))) then ((qi_rc k s sg bg NA NU ME BA ct) && true) else true)) else true) else true) else true) else true) else true) else true) else true) else (bif (k == (6 : Int)) then (bif (qcn_v k s sg bg NA NU ME BA ct) then (bif (qbu_v k s sg bg NA NU ME BA ct) then (bif ((NA.length : Int) == (0 : Int)) then (bif ((NU.length : Int) == (0 : Int)) then (bif ((ME.length : Int) == (0 : Int)) then (bif ((BA.length : Int) == (0 : Int)) then (bif (ct == (0 : Int)) then ((qt_rc k s sg bg NA NU ME BA ct) && (bif (decide ((qt_rv k s sg bg NA NU ME BA ct) ≤ (24 : Int))) then ((qi_rc k s sg bg NA NU ME BA ct) && true) else true)) else true) else true) else true) else true) else true) else true) else true) else (bif (qcn_v k s sg bg NA NU ME BA ct) then ((qt_rc k s sg bg NA NU ME BA ct) && (bif (decide ((qt_rv k s sg bg NA NU ME BA ct) ≤ (24 : Int))) then ((qi_rc k s sg bg NA NU ME BA ct) && true) else true)) else true))) else (bif (k == (2 : Int)) then (bif (k == (2 : Int)) then (bif (qcl_v s (1 : Int) (16 : Int)) then (bif (qbu_v k s sg bg NA NU ME BA ct) then (bif ((NA.length : Int) == (0 : Int)) then (bif ((NU.length : Int) == (0 : Int)) then (bif ((ME.length : Int) == (0 : Int)) then (bif ((BA.length : Int) == (0 : Int)) then (bif (ct == (0 : Int)) then ((qt_rc k s sg bg NA NU ME BA ct) && (bif (decide ((qt_rv k s sg bg NA NU ME BA ct) ≤ (24 : Int))) then ((qi_rc k s sg bg NA NU ME BA ct) && true) else true)) else true) else true) else true) else true) else true) else true) else true) else (bif (k == (6 : Int)) then (bif (qcl_v s (1 : Int) (16 : Int)) then (bif (qbu_v k s sg bg NA NU ME BA ct) then (bif ((NA.length : Int) == (0 : Int)) then (bif ((NU.length : Int) == (0 : Int)) then (bif ((ME.length : Int) == (0 : Int)) then (bif ((BA.length : Int) == (0 : Int)) then (bif (ct == (0 : Int)) then ((qt_rc k s sg bg NA NU ME BA ct) && (bif (decide ((qt_rv k s sg bg NA NU ME BA ct) ≤ (24 : Int))) then ((qi_rc k s sg bg NA NU ME BA ct) && true) else true)) else true) else true) else true) else true) else true) else true) else true) else (bif (qcl_v s (1 : Int) (16 : Int)) then ((qt_rc k s sg bg NA NU ME BA ct) && (bif (decide ((qt_rv k s sg bg NA NU ME BA ct) ≤ (24 : Int))) then ((qi_rc k s sg bg NA NU ME BA ct) && true) else true)) else true))) else (bif (k == (3 : Int)) then ((qh_c k s sg bg NA NU ME BA ct) && (bif (k == (2 : Int)) then (bif (qh_v k s sg bg NA NU ME BA ct) then (bif (qbu_v k s sg bg NA NU ME BA ct) then (bif ((NA.length : Int) == (0 : Int)) then (bif ((NU.length : Int) == (0 : Int)) then (bif ((ME.length : Int) == (0 : Int)) then (bif ((BA.length : Int) == (0 : Int)) then (bif (ct == (0 : Int)) then ((qt_rc k s sg bg NA NU ME BA ct) && (bif (decide ((qt_rv k s sg bg NA NU ME BA ct) ≤ (24 : Int))) then ((qi_rc k s sg bg NA NU ME BA ct) && true) else true)) else true) else true) else true) else true) else true) else true) else true) else (bif (k == (6 : Int)) then (bif (qh_v k s sg bg NA NU ME BA ct) then (bif (qbu_v k s sg bg NA NU ME BA ct) then (bif ((NA.length : Int) == (0 : Int)) then (bif ((NU.length : Int) == (0 : Int)) then (bif ((ME.length : Int) == (0 : Int)) then (bif ((BA.length : Int) == (0 : Int)) then (bif (ct == (0 : Int)) then ((qt_rc k s sg bg NA NU ME BA ct) && (bif (decide ((qt_rv k s sg bg NA NU ME BA ct) ≤ (24 : Int))) then ((qi_rc k s sg bg NA NU ME BA ct) && true) else true)) else true) else true) else true) else true) else true) else true) else true) else (bif (qh_v k s sg bg NA NU ME BA ct) then ((qt_rc k s sg bg NA NU ME BA ct) && (bif (decide ((qt_rv k s sg bg NA NU ME BA ct) ≤ (24 : Int))) then ((qi_rc k s sg bg NA NU ME BA ct) && true) else true)) else true)))) else (bif (k == (4 : Int)) then ((qd_c k s sg bg NA NU ME BA ct) && (bif (k == (2 : Int)) then (bif (qd_v k s sg bg NA NU ME BA ct) then (bif (qbu_v k s sg bg NA NU ME BA ct) then (bif ((NA.length : Int) == (0 : Int)) then (bif ((NU.length : Int) == (0 : Int)) then (bif ((ME.length : Int) == (0 : Int)) then (bif ((BA.length : Int) == (0 : Int)) then (bif (ct == (0 : Int)) then ((qt_rc k s sg bg NA NU ME BA ct) && (bif (decide ((qt_rv k s sg bg NA NU ME BA ct) ≤ (24 : Int))) then ((qi_rc k s sg bg NA NU ME BA ct) && true) else true)) else true) else true) else true) else true) else true) else true) else true) else (bif (k == (6 : Int)) then (bif (qd_v k s sg bg NA NU ME BA ct) then (bif (qbu_v k s sg bg NA NU ME BA ct) then (bif ((NA.length : Int) == (0 : Int)) then (bif ((NU.length : Int) == (0 : Int)) then (bif ((ME.length : Int) == (0 : Int)) then (bif ((BA.length : Int) == (0 : Int)) then (bif (ct == (0 : Int)) then ((qt_rc k s sg bg NA NU ME BA ct) && (bif (decide ((qt_rv k s sg bg NA NU ME BA ct) ≤ (24 : Int))) then ((qi_rc k s sg bg NA NU ME BA ct) && true) else true)) else true) else true) else true) else true) else true) else true) else true) else (bif (qd_v k s sg bg NA NU ME BA ct) then ((qt_rc k s sg bg NA NU ME BA ct) && (bif (decide ((qt_rv k s sg bg NA NU ME BA ct) ≤ (24 : Int))) then ((qi_rc k s sg bg NA NU ME BA ct) && true) else true)) else true)))) else (bif (k == (5 : Int)) then ((qbm_c k s sg bg NA NU ME BA ct) && (bif (k == (2 : Int)) then (bif (qbm_v k s sg bg NA NU ME BA ct) then (bif (qbu_v k s sg bg NA NU ME BA ct) then (bif ((NA.length : Int) == (0 : Int)) then (bif ((NU.length : Int) == (0 : Int)) then (bif ((ME.length : Int) == (0 : Int)) then (bif ((BA.length : Int) == (0 : Int)) then (bif (ct == (0 : Int)) then ((qt_rc k s sg bg NA NU ME BA ct) && (bif (decide ((qt_rv k s sg bg NA NU ME BA ct) ≤ (24 : Int))) then ((qi_rc k s sg bg NA NU ME BA ct) && true) else true)) else true) else true) else true) else true) else true) else true) else true) else (bif (k == (6 : Int)) then (bif (qbm_v k s sg bg NA NU ME BA ct) then (bif (qbu_v k s sg bg NA NU ME BA ct) then (bif ((NA.length : Int) == (0 : Int)) then (bif ((NU.length : Int) == (0 : Int)) then (bif ((ME.length : Int) == (0 : Int)) then (bif ((BA.length : Int) == (0 : Int)) then (bif (ct == (0 : Int)) then ((qt_rc k s sg bg NA NU ME BA ct) && (bif (decide ((qt_rv k s sg bg NA NU ME BA ct) ≤ (24 : Int))) then ((qi_rc k s sg bg NA NU ME BA ct) && true) else true)) else true) else true) else true) else true) else true) else true) else true) else (bif (qbm_v k s sg bg NA NU ME BA ct) then ((qt_rc k s sg bg NA NU ME BA ct) && (bif (decide ((qt_rv k s sg bg NA NU ME BA ct) ≤ (24 : Int))) then ((qi_rc k s sg bg NA NU ME BA ct) && true) else true)) else true)))) else (bif (k == (6 : Int)) then (bif (k == (2 : Int)) then (bif (s == (2 : Int)) then (bif (qbu_v k s sg bg NA NU ME BA ct) then (bif ((NA.length : Int) == (0 : Int)) then (bif ((NU.length : Int) == (0 : Int)) then (bif ((ME.length : Int) == (0 : Int)) then (bif ((BA.length : Int) == (0 : Int)) then (bif (ct == (0 : Int)) then ((qt_rc k s sg bg NA NU ME BA ct) && (bif (decide ((qt_rv k s sg bg NA NU ME BA ct) ≤ (24 : Int))) then ((qi_rc k s sg bg NA NU ME BA ct) && true) else true)) else true) else true) else true) else true) else true) else true) else true) else (bif (k == (6 : Int)) then (bif (s == (2 : Int)) then (bif (qbu_v k s sg bg NA NU ME BA ct) then (bif ((NA.length : Int) == (0 : Int)) then (bif ((NU.length : Int) == (0 : Int)) then (bif ((ME.length : Int) == (0 : Int)) then (bif ((BA.length : Int) == (0 : Int)) then (bif (ct == (0 : Int)) then ((qt_rc k s sg bg NA NU ME BA ct) && (bif (decide ((qt_rv k s sg bg NA NU ME BA ct) ≤ (24 : Int))) then ((qi_rc k s sg bg NA NU ME BA ct) && true) else true)) else true) else true) else true) else true) else true) else true) else true) else (bif (s == (2 : Int)) then ((qt_rc k s sg bg NA NU ME BA ct) && (bif (decide ((qt_rv k s sg bg NA NU ME BA ct) ≤ (24 : Int))) then ((qi_rc k s sg bg NA NU ME BA ct) && true) else true)) else true))) else (bif (k == (2 : Int)) then true else (bif (k == (6 : Int)) then true else true))))))))
noncomputable def qbk_v (k s : Int) (sg bg : Bool) (NA NU ME BA : LL) (ct : Int) : Bool := (bif (k == (1 : Int)) then (bif (k == (2 : Int)) then (bif (qcn_v k s sg bg NA NU ME BA ct) then (bif (qbu_v k s sg bg NA NU ME BA ct) then (bif ((NA.length : Int) == (0 : Int)) then (bif ((NU.length : Int) == (0 : Int)) then (bif ((ME.length : Int) == (0 : Int)) then (bif ((BA.length : Int) == (0 : Int)) then (bif (ct == (0 : Int)) then (bif (decide ((qt_rv k s sg bg NA NU ME BA ct) ≤ (24 : Int))) then (decide ((qi_rv k s sg bg NA NU ME BA ct) ≤ (3 : Int))) else false) else false) else false) else false) else false) else false) else false) else false) else (bif (k == (6 : Int)) then (bif (qcn_v k s sg bg NA NU ME BA ct) then (bif (qbu_v k s sg bg NA NU ME BA ct) then (bif ((NA.length : Int) == (0 : Int)) then (bif ((NU.length : Int) == (0 : Int)) then (bif ((ME.length : Int) == (0 : Int)) then (bif ((BA.length : Int) == (0 : Int)) then (bif (ct == (0 : Int)) then (bif (decide ((qt_rv k s sg bg NA NU ME BA ct) ≤ (24 : Int))) then (decide ((qi_rv k s sg bg NA NU ME BA ct) ≤ (3 : Int))) else false) else false) else false) else false) else false) else false) else false) else false) else (bif (qcn_v k s sg bg NA NU ME BA ct) then (bif (decide ((qt_rv k s sg bg NA NU ME BA ct) ≤ (24 : Int))) then (decide ((qi_rv k s sg bg NA NU ME BA ct) ≤ (3 : Int))) else false) else false))) else (bif (k == (2 : Int)) then (bif (k == (2 : Int)) then (bif (qcl_v s (1 : Int) (16 : Int)) then (bif (qbu_v k s sg bg NA NU ME BA ct) then (bif ((NA.length : Int) == (0 : Int)) then (bif ((NU.length : Int) == (0 : Int)) then (bif ((ME.length : Int) == (0 : Int)) then (bif ((BA.length : Int) == (0 : Int)) then (bif (ct == (0 : Int)) then (bif (decide ((qt_rv k s sg bg NA NU ME BA ct) ≤ (24 : Int))) then (decide ((qi_rv k s sg bg NA NU ME BA ct) ≤ (3 : Int))) else false) else false) else false) else false) else false) else false) else false) else false) else (bif (k == (6 : Int)) then (bif (qcl_v s (1 : Int) (16 : Int)) then (bif (qbu_v k s sg bg NA NU ME BA ct) then (bif ((NA.length : Int) == (0 : Int)) then (bif ((NU.length : Int) == (0 : Int)) then (bif ((ME.length : Int) == (0 : Int)) then (bif ((BA.length : Int) == (0 : Int)) then (bif (ct == (0 : Int)) then (bif (decide ((qt_rv k s sg bg NA NU ME BA ct) ≤ (24 : Int))) then (decide ((qi_rv k s sg bg NA NU ME BA ct) ≤ (3 : Int))) else false) else false) else false) else false) else false) else false) else false) else false) else (bif (qcl_v s (1 : Int) (16 : Int)) then (bif (decide ((qt_rv k s sg bg NA NU ME BA ct) ≤ (24 : Int))) then (decide ((qi_rv k s sg bg NA NU ME BA ct) ≤ (3 : Int))) else false) else false))) else (bif (k == (3 : Int)) then (bif (k == (2 : Int)) then (bif (qh_v k s sg bg NA NU ME BA ct) then (bif (qbu_v k s sg bg NA NU ME BA ct) then (bif ((NA.length : Int) == (0 : Int)) then (bif ((NU.length : Int) == (0 : Int)) then (bif ((ME.length : Int) == (0 : Int)) then (bif ((BA.length : Int) == (0 : Int)) then (bif (ct == (0 : Int)) then (bif (decide ((qt_rv k s sg bg NA NU ME BA ct) ≤ (24 : Int))) then (decide ((qi_rv k s sg bg NA NU ME BA ct) ≤ (3 : Int))) else false) else false) else false) else false) else false) else false) else false) else false) else (bif (k == (6 : Int)) then (bif (qh_v k s sg bg NA NU ME BA ct) then (bif (qbu_v k s sg bg NA NU ME BA ct) then (bif ((NA.length : Int) == (0 : Int)) then (bif ((NU.length : Int) == (0 : Int)) then (bif ((ME.length : Int) == (0 : Int)) then (bif ((BA.length : Int) == (0 : Int)) then (bif (ct == (0 : Int)) then (bif (decide ((qt_rv k s sg bg NA NU ME BA ct) ≤ (24 : Int))) then (decide ((qi_rv k s sg bg NA NU ME BA ct) ≤ (3 : Int))) else false) else false) else false) else false) else false) else false) else false) else false) else (bif (qh_v k s sg bg NA NU ME BA ct) then (bif (decide ((qt_rv k s sg bg NA NU ME BA ct) ≤ (24 : Int))) then (decide ((qi_rv k s sg bg NA NU ME BA ct) ≤ (3 : Int))) else false) else false))) else (bif (k == (4 : Int)) then (bif (k == (2 : Int)) then (bif (qd_v k s sg bg NA NU ME BA ct) then (bif (qbu_v k s sg bg NA NU ME BA ct) then (bif ((NA.length : Int) == (0 : Int)) then (bif ((NU.length : Int) == (0 : Int)) then (bif ((ME.length : Int) == (0 : Int)) then (bif ((BA.length : Int) == (0 : Int)) then (bif (ct == (0 : Int)) then (bif (decide ((qt_rv k s sg bg NA NU ME BA ct) ≤ (24 : Int))) then (decide ((qi_rv k s sg bg NA NU ME BA ct) ≤ (3 : Int))) else false) else false) else false) else false) else false) else false) else false) else false) else (bif (k == (6 : Int)) then (bif (qd_v k s sg bg NA NU ME BA ct) then (bif (qbu_v k s sg bg NA NU ME BA ct) then (bif ((NA.length : Int) == (0 : Int)) then (bif ((NU.length : Int) == (0 : Int)) then (bif ((ME.length : Int) == (0 : Int)) then (bif ((BA.length : Int) == (0 : Int)) then (bif (ct == (0 : Int)) then (bif (decide ((qt_rv k s sg bg NA NU ME BA ct) ≤ (24 : Int))) then (decide ((qi_rv k s sg bg NA NU ME BA ct) ≤ (3 : Int))) else false) else false) else false) else false) else false) else false) else false) else false) else (bif (qd_v k s sg bg NA NU ME BA ct) then (bif (decide ((qt_rv k s sg bg NA NU ME BA ct) ≤ (24 : Int))) then (decide ((qi_rv k s sg bg NA NU ME BA ct) ≤ (3 : Int))) else false) else false))) else (bif (k == (5 : Int)) then (bif (k == (2 : Int)) then (bif (qbm_v k s sg bg NA NU ME BA ct) then (bif (qbu_v k s sg bg NA NU ME BA ct) then (bif ((NA.length : Int) == (0 : Int)) then (bif ((NU.length : Int) == (0 : Int)) then (bif ((ME.length : Int) == (0 : Int)) then (bif ((BA.length : Int) == (0 : Int)) then (bif (ct == (0 : Int)) then (bif (decide ((qt_rv k s sg bg NA NU ME BA ct) ≤ (24 : Int))) then (decide ((qi_rv k s sg bg NA NU ME BA ct) ≤ (3 : Int))) else false) else false) else false) else false) else false) else false) else false) else false) else (bif (k == (6 : Int)) then (bif (qbm_v k s sg bg NA NU ME BA ct) then (bif (qbu_v k s sg bg NA NU ME BA ct) then (bif ((NA.length : Int) == (0 : Int)) then (bif ((NU.length : Int) == (0 : Int)) then (bif ((ME.length : Int) == (0 : Int)) then (bif ((BA.length : Int) == (0 : Int)) then (bif (ct == (0 : Int)) then (bif (decide ((qt_rv k s sg bg NA NU ME BA ct) ≤ (24 : Int))) then (decide ((qi_rv k s sg bg NA NU ME BA ct) ≤ (3 : Int))) else false) else false) else false) else false) else false) else false) else false) else false) else (bif (qbm_v k s sg bg NA NU ME BA ct) then (bif (decide ((qt_rv k s sg bg NA NU ME BA ct) ≤ (24 : Int))) then (decide ((qi_rv k s sg bg NA NU ME BA ct) ≤ (3 : Int))) else false) else false))) else (bif (k == (6 : Int)) then (bif (k == (2 : Int)) then (bif (s == (2 : Int)) then (bif (qbu_v k s sg bg NA NU ME BA ct) then (bif ((NA.length : Int) == (0 : Int)) then (bif ((NU.length : Int) == (0 : Int)) then (bif ((ME.length : Int) == (0 : Int)) then (bif ((BA.length : Int) == (0 : Int)) then (bif (ct == (0 : Int)) then (bif (decide ((qt_rv k s sg bg NA NU ME BA ct) ≤ (24 : Int))) then (decide ((qi_rv k s sg bg NA NU ME BA ct) ≤ (3 : Int))) else false) else false) else false) else false) else false) else false) else false) else false) else (bif (k == (6 : Int)) then (bif (s == (2 : Int)) then (bif (qbu_v k s sg bg NA NU ME BA ct) then (bif ((NA.length : Int) == (0 : Int)) then (bif ((NU.length : Int) == (0 : Int)) then (bif ((ME.length : Int) == (0 : Int)) then (bif ((BA.length : Int) == (0 : Int)) then (bif (ct == (0 : Int)) then (bif (decide ((qt_rv k s sg bg NA NU ME BA ct) ≤ (24 : Int))) then (decide ((qi_rv k s sg bg NA NU ME BA ct) ≤ (3 : Int))) else false) else false) else false) else false) else false) else false) else false) else false) else (bif (s == (2 : Int)) then (bif (decide ((qt_rv k s sg bg NA NU ME BA ct) ≤ (24 : Int))) then (decide ((qi_rv k s sg bg NA NU ME BA ct) ≤ (3 : Int))) else false) else false))) else (bif (k == (2 : Int)) then false else (bif (k == (6 : Int)) then false else false))))))))
theorem qbk_l (k s : Int) (sg bg : Bool) (NA NU ME BA : LL) (ct : Int) : (qbk_c k s sg bg NA NU ME BA ct) = true → (qbk_t k s sg bg NA NU ME BA ct).val = some (qbk_v k s sg bg NA NU ME BA ct) := by
  unfold qbk_t qbk_v qbk_c
  exact fun h => (Tr.ss h (fun h => (Tr.ss h (fun h => (Tr.ss h (fun h => (Tr.ss h (fun h => (Tr.ss h (fun h => (Tr.ss h (fun h => (Tr.ss h (fun h => (Tr.ss h (fun h => (Tr.ss h (fun h => (Tr.gb h fun h => (Tr.ss h (fun h => (Tr.gb h fun h => rfl)) (fun h => rfl)))) (fun h => rfl))) (fun h => rfl))) (fun h => rfl))) (fun h => rfl))) (fun h => rfl))) (fun h => rfl))) (fun h => rfl))) (fun h => (Tr.ss h (fun h => (Tr.ss h (fun h => (Tr.ss h (fun h => (Tr.ss h (fun h => (Tr.ss h (fun h => (Tr.ss h (fun h => (Tr.ss h (fun h => (Tr.ss h (fun h => (Tr.gb h fun h => (Tr.ss h (fun h => (Tr.gb h fun h => rfl)) (fun h => rfl)))) (fun h => rfl))) (fun h => rfl))) (fun h => rfl))) (fun h => rfl))) (fun h => rfl))) (fun h => rfl))) (fun h => rfl))) (fun h => (Tr.ss h (fun h => (Tr.gb h fun h => (Tr.ss h (fun h => (Tr.gb h fun h => rfl)) (fun h => rfl)))) (fun h => rfl))))))) (fun h => (Tr.ss h (fun h => (Tr.ss h (fun h => (Tr.ss h (fun h => (Tr.ss h (fun h => (Tr.ss h (fun h => (Tr.ss h (fun h => (Tr.ss h (fun h => (Tr.ss h (fun h => (Tr.ss h (fun h => (Tr.gb h fun h => (Tr.ss h (fun h => (Tr.gb h fun h => rfl)) (fun h => rfl)))) (fun h => rfl))) (fun h => rfl))) (fun h => rfl))) (fun h => rfl))) (fun h => rfl))) (fun h => rfl))) (fun h => rfl))) (fun h => (Tr.ss h (fun h => (Tr.ss h (fun h => (Tr.ss h (fun h => (Tr.ss h (fun h => (Tr.ss h (fun h => (Tr.ss h (fun h => (Tr.ss h (fun h => (Tr.ss h (fun h => (Tr.gb h fun h => (Tr.ss h (fun h => (Tr.gb h fun h => rfl)) (fun h => rfl)))) (fun h => rfl))) (fun h => rfl))) (fun h => rfl))) (fun h => rfl))) (fun h => rfl))) (fun h => rfl))) (fun h => rfl))) (fun h => (Tr.ss h (fun h => (Tr.gb h fun h => (Tr.ss h (fun h => (Tr.gb h fun h => rfl)) (fun h => rfl)))) (fun h => rfl))))))) (fun h => (Tr.ss h (fun h => (Tr.gb h fun h => (Tr.ss h (fun h => (Tr.ss h (fun h => (Tr.ss h (fun h => (Tr.ss h (fun h => (Tr.ss h (fun h => (Tr.ss h (fun h => (Tr.ss h (fun h => (Tr.ss h (fun h => (Tr.gb h fun h => (Tr.ss h (fun h => (Tr.gb h fun h => rfl)) (fun h => rfl)))) (fun h => rfl))) (fun h => rfl))) (fun h => rfl))) (fun h => rfl))) (fun h => rfl))) (fun h => rfl))) (fun h => rfl))) (fun h => (Tr.ss h (fun h => (Tr.ss h (fun h => (Tr.ss h (fun h => (Tr.ss h (fun h => (Tr.ss h (fun h => (Tr.ss h (fun h => (Tr.ss h (fun h => (Tr.ss h (fun h => (Tr.gb h fun h => (Tr.ss h (fun h => (Tr.gb h fun h => rfl)) (fun h => rfl)))) (fun h => rfl))) (fun h => rfl))) (fun h => rfl))) (fun h => rfl))) (fun h => rfl))) (fun h => rfl))) (fun h => rfl))) (fun h => (Tr.ss h (fun h => (Tr.gb h fun h => (Tr.ss h (fun h => (Tr.gb h fun h => rfl)) (fun h => rfl)))) (fun h => rfl)))))))) (fun h => (Tr.ss h (fun h => (Tr.gb h fun h => (Tr.ss h (fun h => (Tr.ss h (fun h => (Tr.ss h (fun h => (Tr.ss h (fun h => (Tr.ss h (fun h => (Tr.ss h (fun h => (Tr.ss h (fun h => (Tr.ss h (fun h => (Tr.gb h fun h => (Tr.ss h (fun h => (Tr.gb h fun h => rfl)) (fun h => rfl)))) (fun h => rfl))) (fun h => rfl))) (fun h => rfl))) (fun h => rfl))) (fun h => rfl))) (fun h => rfl))) (fun h => rfl))) (fun h => (Tr.ss h (fun h => (Tr.ss h (fun h => (Tr.ss h (fun h => (Tr.ss h (fun h => (Tr.ss h (fun h => (Tr.ss h (fun h => (Tr.ss h (fun h => (Tr.ss h (fun h => (Tr.gb h fun h => (Tr.ss h (fun h => (Tr.gb h fun h => rfl)) (fun h => rfl)))) (fun h => rfl))) (fun h => rfl))) (fun h => rfl))) (fun h => rfl))) (fun h => rfl))) (fun h => rfl))) (fun h => rfl))) (fun h => (Tr.ss h (fun h => (Tr.gb h fun h => (Tr.ss h (fun h => (Tr.gb h fun h => rfl)) (fun h => rfl)))) (fun h => rfl)))))))) (fun h => (Tr.ss h (fun h => (Tr.gb h fun h => (Tr.ss h (fun h => (Tr.ss h (fun h => (Tr.ss h (fun h => (Tr.ss h (fun h => (Tr.ss h (fun h => (Tr.ss h (fun h => (Tr.ss h (fun h => (Tr.ss h (fun h => (Tr.gb h fun h => (Tr.ss h (fun h => (Tr.gb h fun h => rfl)) (fun h => rfl)))) (fun h => rfl))) (fun h => rfl))) (fun h => rfl))) (fun h => rfl))) (fun h => rfl))) (fun h => rfl))) (fun h => rfl))) (fun h => (Tr.ss h (fun h => (Tr.ss h (fun h => (Tr.ss h (fun h => (Tr.ss h (fun h => (Tr.ss h (fun h => (Tr.ss h (fun h => (Tr.ss h (fun h => (Tr.ss h (fun h => (Tr.gb h fun h => (Tr.ss h (fun h => (Tr.gb h fun h => rfl)) (fun h => rfl)))) (fun h => rfl))) (fun h => rfl))) (fun h => rfl))) (fun h => rfl))) (fun h => rfl))) (fun h => rfl))) (fun h => rfl))) (fun h => (Tr.ss h (fun h => (Tr.gb h fun h => (Tr.ss h (fun h => (Tr.gb h fun h => rfl)) (fun h => rfl)))) (fun h => rfl)))))))) (fun h => (Tr.ss h (fun h => (Tr.ss h (fun h => (Tr.ss h (fun h => (Tr.ss h (fun h => (Tr.ss h (fun h => (Tr.ss h (fun h => (Tr.ss h (fun h => (Tr.ss h (fun h => (Tr.ss h (fun h => (Tr.gb h fun h => (Tr.ss h (fun h => (Tr.gb h fun h => rfl)) (fun h => rfl)))) (fun h => rfl))) (fun h => rfl))) (fun h => rfl))) (fun h => rfl))) (fun h => rfl))) (fun h => rfl))) (fun h => rfl))) (fun h => (Tr.ss h (fun h => (Tr.ss h (fun h => (Tr.ss h (fun h => (Tr.ss h (fun h => (Tr.ss h (fun h => (Tr.ss h (fun h => (Tr.ss h (fun h => (Tr.ss h (fun h => (Tr.gb h fun h => (Tr.ss h (fun h => (Tr.gb h fun h => rfl)) (fun h => rfl)))) (fun h => rfl))) (fun h => rfl))) (fun h => rfl))) (fun h => rfl))) (fun h => rfl))) (fun h => rfl))) (fun h => rfl))) (fun h => (Tr.ss h (fun h => (Tr.gb h fun h => (Tr.ss h (fun h => (Tr.gb h fun h => rfl)) (fun h => rfl)))) (fun h => rfl))))))) (fun h => (Tr.ss h (fun h => rfl) (fun h => (Tr.ss h (fun h => rfl) (fun h => rfl))))))))))))))))
theorem qbk_e (k s : Int) (sg bg : Bool) (NA NU ME BA : LL) (ct : Int) : runF tab FT D26 live 30 noLoops [(true, [(.int .i64, TC.i k), (.int .i64, TC.i s), (.bool, TC.b sg), (.bool, TC.b bg), (.slice 9, TC.l NA), (.slice 2, TC.l NU), (.slice 71, TC.l ME), (.slice 32, TC.l BA), (.int .i64, TC.i ct)])] = (qbk_t k s sg bg NA NU ME BA ct).run fun p => some (qbk_mk p) := by kernel_rfl
theorem qbk_nx (k s : Int) (sg bg : Bool) (NA NU ME BA : LL) (ct : Int) : is (max (rowsDep ME) (rowsDep BA) < qbk_O.n + 1 ∧ max (rowsDep ME) (rowsDep BA) < qt_O.n ∧ max (rowsDep ME) (rowsDep BA) < qi_O.n ∧ Typed tab (.slice 9) (.l NA) ∧ Typed tab (.slice 2) (.l NU) ∧ Typed tab (.slice 71) (.l ME) ∧ Typed tab (.slice 32) (.l BA)) = true → (qbk_c k s sg bg NA NU ME BA ct) = true ∧ (qbk_v k s sg bg NA NU ME BA ct) = okV k s sg bg NA NU ME BA ct := by
  intro h
  obtain ⟨hM, hZ, hY, t4, t5, t6, t7⟩ := is_iff.1 h
  have hS : sizeC k BA = true → qt_rc k s sg bg NA NU ME BA ct = true := fun c => is_true ⟨by omega, c⟩
  have hD : depthC k ME BA = true → qi_rc k s sg bg NA NU ME BA ct = true := fun c => is_true ⟨by omega, c, t6, t7⟩
  have hmem : ∀ x, x ∈ ME → qbk_rc (nth x 2).int (nth x 3).int (nth x 4).bool (nth x 5).bool (nth x 6).list (nth x 7).list (nth x 8).list (nth x 9).list (nth x 10).int = true := fun x hx => by
    have := dep_max (BA := BA) hx 8 9
    exact is_true ⟨by omega, by omega, by omega, typed_list ((typed_elem t6 hx).2 6 (by decide)), typed_list ((typed_elem t6 hx).2 7 (by decide)), typed_list ((typed_elem t6 hx).2 8 (by decide)), typed_list ((typed_elem t6 hx).2 9 (by decide))⟩
  have hmz : ∀ x, x ∈ ME → (!(qbk_rv (nth x 2).int (nth x 3).int (nth x 4).bool (nth x 5).bool (nth x 6).list (nth x 7).list (nth x 8).list (nth x 9).list (nth x 10).int)) = false → qt_rc (nth x 2).int (nth x 3).int (nth x 4).bool (nth x 5).bool (nth x 6).list (nth x 7).list (nth x 8).list (nth x 9).list (nth x 10).int = true := fun x hx hk => by
    have := dep_max (BA := BA) hx 8 9
    have hk : qbk_rv (nth x 2).int (nth x 3).int (nth x 4).bool (nth x 5).bool (nth x 6).list (nth x 7).list (nth x 8).list (nth x 9).list (nth x 10).int = true := by simpa using hk
    have hk : okV (nth x 2).int (nth x 3).int (nth x 4).bool (nth x 5).bool (nth x 6).list (nth x 7).list (nth x 8).list (nth x 9).list (nth x 10).int = true := hk
    exact is_true ⟨by omega, okV_size hk⟩
  have hbase : 0 < BA.length → qbk_rc (nth (row BA (0 : Int)) 0).int (nth (row BA (0 : Int)) 1).int (nth (row BA (0 : Int)) 2).bool (nth (row BA (0 : Int)) 3).bool (nth (row BA (0 : Int)) 4).list (nth (row BA (0 : Int)) 5).list (nth (row BA (0 : Int)) 6).list (nth (row BA (0 : Int)) 7).list (nth (row BA (0 : Int)) 8).int = true := fun hb => by
    have := dep_base (ME := ME) hb 6 7
    exact is_true ⟨by omega, by omega, by omega, typed_list ((typed_elem t7 (mem_getD (i := 0) hb)).2 4 (by decide)), typed_list ((typed_elem t7 (mem_getD (i := 0) hb)).2 5 (by decide)), typed_list ((typed_elem t7 (mem_getD (i := 0) hb)).2 6 (by decide)), typed_list ((typed_elem t7 (mem_getD (i := 0) hb)).2 7 (by decide))⟩
  rw [okV, attach_okV]
  unfold qbk_c qbk_v
  rw [qh_cc t4, qd_cc t6 hmem hmz, qbm_cc hbase, qh_vv, qd_vv, qbm_vv, show qbu_v k s sg bg NA NU ME BA ct = plain sg bg from by unfold qbu_v plain; cases sg <;> cases bg <;> rfl, show qcn_v k s sg bg NA NU ME BA ct = intV s sg bg NA NU ME BA ct from rfl, show qcl_v s 1 16 = inB s 1 16 from rfl, show qt_rv k s sg bg NA NU ME BA ct = sizeV k s BA ct from rfl, show qi_rv k s sg bg NA NU ME BA ct = depthV k ME BA from rfl]
  by_cases k1 : k = 1
  · subst k1
    rw [hS (by rw [sizeC]; rfl), hD (by rw [depthC]; rfl)]
    simp only [Int.reduceBEq, cond_true, cond_false, Bool.true_and, Bool.and_true, bif_same, bif_ft, Bool.and_assoc, and_self]
  by_cases k2 : k = 2
  · subst k2
    rw [hS (by rw [sizeC]; rfl), hD (by rw [depthC]; rfl)]
    simp only [Int.reduceBEq, cond_true, cond_false, Bool.true_and, Bool.and_true, bif_same, bif_ft, Bool.and_assoc, and_self, bareV, empt]
  by_cases k6 : k = 6
  · subst k6
    rw [hS (by rw [sizeC]; rfl), hD (by rw [depthC]; rfl)]
    simp only [Int.reduceBEq, cond_true, cond_false, Bool.true_and, Bool.and_true, bif_same, bif_ft, Bool.and_assoc, and_self, bareV, empt]
  by_cases k3 : k = 3
  · subst k3
    rw [hD (by rw [depthC]; rfl)]
    simp only [Int.reduceBEq, cond_true, cond_false, Bool.true_and, Bool.and_true, bif_same, bif_ft, Bool.and_assoc]
    cases hf : enumV s sg bg NA NU ME BA ct with
    | false => exact ⟨rfl, trivial⟩
    | true =>
      have h1 : (BA.length : Int) = 1 := by
        simp only [enumV, Bool.and_eq_true] at hf
        simpa using hf.2.2.2.2.1
      rw [hS (by rw [sizeC]; exact decide_eq_true (by omega))]
      exact ⟨rfl, trivial⟩
  by_cases k4 : k = 4
  · subst k4
    rw [hS (by rw [sizeC]; rfl)]
    simp only [Int.reduceBEq, cond_true, cond_false, Bool.true_and, Bool.and_true, bif_same, bif_ft]
    cases hf : (compS s sg bg NA NU ME BA ct && ((allI (memP ME) ME.length && ME.all fun x => okV (nth x 2).int (nth x 3).int (nth x 4).bool (nth x 5).bool (nth x 6).list (nth x 7).list (nth x 8).list (nth x 9).list (nth x 10).int) && decide (endAt ME ME.length ≤ s))) with
    | false => exact ⟨rfl, trivial⟩
    | true =>
      simp only [Bool.and_eq_true, List.all_eq_true] at hf
      rw [hD (by
        rw [depthC]
        show (ME.attach.all fun x => depthC (nth x.1 2).int (nth x.1 8).list (nth x.1 9).list) = true
        rw [List.all_eq_true]
        exact fun x _ => okV_depth (hf.2.1.2 x.1 x.2))]
      exact ⟨bif_same, trivial⟩
  by_cases k5 : k = 5
  · subst k5
    simp only [Int.reduceBEq, cond_true, cond_false, Bool.true_and, Bool.and_true, bif_same, bif_ft]
    cases hf : (arrS s sg bg NA NU ME BA ct && (if h : 0 < BA.length then okV (nth (row BA (0 : Int)) 0).int (nth (row BA (0 : Int)) 1).int (nth (row BA (0 : Int)) 2).bool (nth (row BA (0 : Int)) 3).bool (nth (row BA (0 : Int)) 4).list (nth (row BA (0 : Int)) 5).list (nth (row BA (0 : Int)) 6).list (nth (row BA (0 : Int)) 7).list (nth (row BA (0 : Int)) 8).int else false)) with
    | false => exact ⟨rfl, trivial⟩
    | true =>
      rw [Bool.and_eq_true] at hf
      have hf := hf.2
      split at hf
      · rename_i hb
        rw [hS (by
          rw [sizeC]
          show (if h : 0 < BA.length then sizeC (nth (row BA (0 : Int)) 0).int (nth (row BA (0 : Int)) 7).list else false) = true
          rw [dif_pos hb]; exact okV_size hf), hD (by
          rw [depthC]
          show (if h : 0 < BA.length then depthC (nth (row BA (0 : Int)) 0).int (nth (row BA (0 : Int)) 6).list (nth (row BA (0 : Int)) 7).list else false) = true
          rw [dif_pos hb]; exact okV_depth hf)]
        exact ⟨bif_same, trivial⟩
      · cases hf
  have e1 : (k == 1) = false := by simpa using k1
  have e2 : (k == 2) = false := by simpa using k2
  have e3 : (k == 3) = false := by simpa using k3
  have e4 : (k == 4) = false := by simpa using k4
  have e5 : (k == 5) = false := by simpa using k5
  have e6 : (k == 6) = false := by simpa using k6
  simp only [e1, e2, e3, e4, e5, e6, cond_false, Bool.false_and, and_self]
theorem qbk_nxr (k s : Int) (sg bg : Bool) (NA NU ME BA : LL) (ct : Int) : qbk_rc (i_spec_l02Ok := ⟨qbk_O.n + 1⟩) k s sg bg NA NU ME BA ct = true → (qbk_c k s sg bg NA NU ME BA ct) = true ∧ (qbk_v k s sg bg NA NU ME BA ct) = (qbk_rv k s sg bg NA NU ME BA ct) := fun h => qbk_nx k s sg bg NA NU ME BA ct h
theorem qbk_rs : ∀ xs r, qbk_rS (i_spec_l02Ok := ⟨qbk_O.n + 1⟩) xs = some (true, r) → runF tab FT D26 live 30 noLoops xs = some r := by
  intro xs r h
  unfold qbk_rS at h
  split at h
  · simp only [Option.some.injEq, Prod.mk.injEq] at h
    obtain ⟨h1, rfl⟩ := h
    have hx := qbk_nxr _ _ _ _ _ _ _ _ _ h1
    have ht := fun_told (qbk_e _ _ _ _ _ _ _ _ _) (qbk_l _ _ _ _ _ _ _ _ _) hx.1
    rw [hx.2] at ht
    exact ht
  · cases h
theorem qbk_step : qbk_G (i_spec_l02Ok := ⟨qbk_O.n + 1⟩) := by
  have h := DOk.also2 (S := qbk_rS (i_spec_l02Ok := ⟨qbk_O.n + 1⟩)) mixed_ok tab_ok names_ok d23 d26 noLoops_ok qbk_rs
  refine qbk_G.mk (i_spec_l02Ok := ⟨qbk_O.n + 1⟩) ?_
  exact h
noncomputable def qcd_t (a0 a1 : Int) (a2 a3 : Bool) (a4 a5 a6 a7 : LL) (a8 : Int) : Tr (Bool) := (.ite ((a0 == (1 : Int)) = true) (.ok true)
  (.ok (a0 == (3 : Int))))
def qcd_mk (p : Bool) : Res := [(false, [⟨.bool, .sh, TC.b p⟩])]
noncomputable def qcd_c (a0 a1 : Int) (a2 a3 : Bool) (a4 a5 a6 a7 : LL) (a8 : Int) : Bool := true
noncomputable def qcd_v (a0 a1 : Int) (a2 a3 : Bool) (a4 a5 a6 a7 : LL) (a8 : Int) : Bool := (bif (a0 == (1 : Int)) then true else (a0 == (3 : Int)))
theorem qcd_l (a0 a1 : Int) (a2 a3 : Bool) (a4 a5 a6 a7 : LL) (a8 : Int) : (qcd_c a0 a1 a2 a3 a4 a5 a6 a7 a8) = true → (qcd_t a0 a1 a2 a3 a4 a5 a6 a7 a8).val = some (qcd_v a0 a1 a2 a3 a4 a5 a6 a7 a8) := by
  intro h
  skip
  unfold qcd_t qcd_v
  exact (Tr.s rfl rfl)
noncomputable def qcd_S : List Arg → Option (Bool × Res) := fun xs => match xs with
  | [(true, [(.int .i64, TC.i a0), (.int .i64, TC.i a1), (.bool, TC.b a2), (.bool, TC.b a3), (.slice 9, TC.l a4), (.slice 2, TC.l a5), (.slice 71, TC.l a6), (.slice 32, TC.l a7), (.int .i64, TC.i a8)])] => some (true, qcd_mk (qcd_v a0 a1 a2 a3 a4 a5 a6 a7 a8))
  | _ => .none
theorem qcd_e (a0 a1 : Int) (a2 a3 : Bool) (a4 a5 a6 a7 : LL) (a8 : Int) : runF tab FT D26 live 78 noLoops [(true, [(.int .i64, TC.i a0), (.int .i64, TC.i a1), (.bool, TC.b a2), (.bool, TC.b a3), (.slice 9, TC.l a4), (.slice 2, TC.l a5), (.slice 71, TC.l a6), (.slice 32, TC.l a7), (.int .i64, TC.i a8)])] = (qcd_t a0 a1 a2 a3 a4 a5 a6 a7 a8).run fun p => some (qcd_mk p) := by kernel_rfl
theorem qcd_s : ∀ xs r, qcd_S xs = some (true, r) → runF tab FT D26 live 78 noLoops xs = some r := by
  intro xs r h
  unfold qcd_S at h
  split at h
  · simp only [Option.some.injEq, Prod.mk.injEq] at h
    obtain ⟨h1, rfl⟩ := h
    exact fun_told (qcd_e _ _ _ _ _ _ _ _ _) (qcd_l _ _ _ _ _ _ _ _ _) rfl
  · cases h
noncomputable def D27 : Dt := also D26 78 qcd_S
theorem d27 : DOk Go.Proofs.Try.prog tab D27 := d26.also mixed_ok tab_ok names_ok noLoops_ok qcd_s
section
class qw_O where n : Nat
variable [i_spec_l04Can : qw_O]
noncomputable def qw_rc (k s : Int) (sg bg : Bool) (NA NU ME BA : LL) (ct k2 s2 : Int) (sg2 bg2 : Bool) (NA2 NU2 ME2 BA2 : LL) (ct2 : Int) : Bool := is (max (rowsDep ME2) (rowsDep BA2) < qw_O.n ∧ okV k s sg bg NA NU ME BA ct = true ∧ okV k2 s2 sg2 bg2 NA2 NU2 ME2 BA2 ct2 = true)
noncomputable def qw_rv (k s : Int) (sg bg : Bool) (NA NU ME BA : LL) (ct k2 s2 : Int) (sg2 bg2 : Bool) (NA2 NU2 ME2 BA2 : LL) (ct2 : Int) : Bool := canV k ME BA ct k2 ME2 BA2 ct2
def qw_rmk (p : Bool) : Res := [(false, [⟨.bool, .sh, TC.b p⟩])]
noncomputable def qw_rS : List Arg → Option (Bool × Res) := fun xs => match xs with
  | [(true, [(.int .i64, TC.i k), (.int .i64, TC.i s), (.bool, TC.b sg), (.bool, TC.b bg), (.slice 9, TC.l NA), (.slice 2, TC.l NU), (.slice 71, TC.l ME), (.slice 32, TC.l BA), (.int .i64, TC.i ct)]), (true, [(.int .i64, TC.i k2), (.int .i64, TC.i s2), (.bool, TC.b sg2), (.bool, TC.b bg2), (.slice 9, TC.l NA2), (.slice 2, TC.l NU2), (.slice 71, TC.l ME2), (.slice 32, TC.l BA2), (.int .i64, TC.i ct2)])] => some ((qw_rc k s sg bg NA NU ME BA ct k2 s2 sg2 bg2 NA2 NU2 ME2 BA2 ct2), qw_rmk (qw_rv k s sg bg NA NU ME BA ct k2 s2 sg2 bg2 NA2 NU2 ME2 BA2 ct2))
  | _ => .none
noncomputable def D28 : Dt := also D27 50 qw_rS
class qw_G : Prop where ok : DOk Go.Proofs.Try.prog tab D28
variable [g_spec_l04Can : qw_G]
theorem d28 : DOk Go.Proofs.Try.prog tab D28 := qw_G.ok
abbrev qp_2_σ := BS × Int × Int × Bool × Bool × LL × LL × LL × LL × Int × Int
abbrev qp_2_ω := (Int) ⊕ (Unit)
noncomputable def qp_2_step (nm : BS) (k s : Int) (sg bg : Bool) (NA NU ME BA : LL) (ct i : Int) : Tr (qp_2_σ ⊕ qp_2_ω) := (.ite ((decide (i < (ME.length : Int))) = true) (.ite ((0 : Int) ≤ i ∧ i < (ME.length : Int)) (.ite (((nth (row ME i) 0).str == nm) = true) (.ok (.inr (.inl i)))
    (.ok (.inl (nm, k, s, sg, bg, NA, NU, ME, BA, ct, (IntKind.wrap .i64 (i + (1 : Int)))))))
   .no)
  (.ok (.inr (.inr ()))))
noncomputable def qp_2_st : qp_2_σ → Tr (qp_2_σ ⊕ qp_2_ω) := fun x => (qp_2_step (x.1) (x.2.1) (x.2.2.1) (x.2.2.2.1) (x.2.2.2.2.1) (x.2.2.2.2.2.1) (x.2.2.2.2.2.2.1) (x.2.2.2.2.2.2.2.1) (x.2.2.2.2.2.2.2.2.1) (x.2.2.2.2.2.2.2.2.2.1) (x.2.2.2.2.2.2.2.2.2.2))
noncomputable def qp_k2_1 (nm : BS) (k s : Int) (sg bg : Bool) (NA NU ME BA : LL) (ct i : Int) : Bool := (ME).all (fun x => !((nth x 0).str == nm))
noncomputable def qp_o2_2 (nm : BS) (k s : Int) (sg bg : Bool) (NA NU ME BA : LL) (ct i : Int) : Bool := is (i = 0 ∧ (ME).length ≤ 140737488351232)
noncomputable def qp_o2_3 (nm : BS) (k s : Int) (sg bg : Bool) (NA NU ME BA : LL) (ct i : Int) : Bool := is (i = 0 ∧ (ME).length ≤ 140737488351232)
noncomputable def qp_u2_3 (nm : BS) (k s : Int) (sg bg : Bool) (NA NU ME BA : LL) (ct i : Int) : Int := (Int.ofNat ((ME).findIdx fun x => !(fun x => !((nth x 0).str == nm)) x))
noncomputable def qp_2_fin (nm : BS) (k s : Int) (sg bg : Bool) (NA NU ME BA : LL) (ct i : Int) : Told qp_2_ω := (.br (qp_k2_1 nm k s sg bg NA NU ME BA ct i) (.leaf (qp_o2_2 nm k s sg bg NA NU ME BA ct i) (.inr ())) (.leaf (qp_o2_3 nm k s sg bg NA NU ME BA ct i) (.inl (qp_u2_3 nm k s sg bg NA NU ME BA ct i))))
def qp_2_sl (x : qp_2_σ) : List Slot := [⟨.val false [⟨.str, .sh, TC.s (x.1)⟩], ⟨0, 0⟩⟩, ⟨.bx 32 [⟨.int .i64, .sh, TC.i (x.2.1)⟩, ⟨.int .i64, .sh, TC.i (x.2.2.1)⟩, ⟨.bool, .sh, TC.b (x.2.2.2.1)⟩, ⟨.bool, .sh, TC.b (x.2.2.2.2.1)⟩, ⟨.slice 9, .sh, TC.l (x.2.2.2.2.2.1)⟩, ⟨.slice 2, .sh, TC.l (x.2.2.2.2.2.2.1)⟩, ⟨.slice 71, .sh, TC.l (x.2.2.2.2.2.2.2.1)⟩, ⟨.slice 32, .sh, TC.l (x.2.2.2.2.2.2.2.2.1)⟩, ⟨.int .i64, .sh, TC.i (x.2.2.2.2.2.2.2.2.2.1)⟩], ⟨0, 0⟩⟩, ⟨.val false [⟨.int .i64, .sh, TC.i (x.2.2.2.2.2.2.2.2.2.2)⟩], ⟨0, 0⟩⟩]
def qp_2_out : qp_2_ω → Ex × List Slot := (Sum.elim (fun x => (.ret, [⟨.val false [⟨.int .i64, .sh, TC.i x⟩], ⟨0, 0⟩⟩])) (fun x => (.exit 0, [Slot.none])))
noncomputable def qp_lo2 : List Slot → Option (Told (Ex × List Slot)) := fun s => match s with
  | [⟨.val false [⟨.str, .sh, TC.s nm⟩], ⟨0, 0⟩⟩, ⟨.bx 32 [⟨.int .i64, .sh, TC.i k⟩, ⟨.int .i64, .sh, TC.i s⟩, ⟨.bool, .sh, TC.b sg⟩, ⟨.bool, .sh, TC.b bg⟩, ⟨.slice 9, .sh, TC.l NA⟩, ⟨.slice 2, .sh, TC.l NU⟩, ⟨.slice 71, .sh, TC.l ME⟩, ⟨.slice 32, .sh, TC.l BA⟩, ⟨.int .i64, .sh, TC.i ct⟩], ⟨0, 0⟩⟩, ⟨.val false [⟨.int .i64, .sh, TC.i i⟩], ⟨0, 0⟩⟩] => some (((qp_2_fin nm k s sg bg NA NU ME BA ct i)).map qp_2_out)
  | _ => .none
noncomputable def qp_lo : LoopTeller := fun r s => bif Nat.beq r 2 then qp_lo2 s else .none
theorem qp_2_r (nm : BS) (k s : Int) (sg bg : Bool) (NA NU ME BA : LL) (ct i : Int) (fuel : Nat) : rounds (rnd tab FT D28 live 79 qp_lo 0 2) leave (fuel + 1) (qp_2_sl (nm, k, s, sg, bg, NA, NU, ME, BA, ct, i)) = ((qp_2_step nm k s sg bg NA NU ME BA ct i)).run (goOn (fun s => rounds (rnd tab FT D28 live 79 qp_lo 0 2) leave fuel (qp_2_sl s)) fun w => some (qp_2_out w)) := by kernel_rfl
theorem qp_2_h (nm : BS) (k s : Int) (sg bg : Bool) (NA NU ME BA : LL) (ct i : Int) (ow : qp_2_ω) : ((qp_2_fin nm k s sg bg NA NU ME BA ct i)).val = some ow → ∃ fuel, loopN qp_2_st fuel (nm, k, s, sg, bg, NA, NU, ME, BA, ct, i) = some ow := by
  intro h
  have key : (ME).length ≤ 140737488351232 → loopN qp_2_st ((ME).length + 1) (nm, k, s, sg, bg, NA, NU, ME, BA, ct, (0 : Int)) = some (if (ME).all (fun x => !((nth x 0).str == nm)) = true then (.inr ()) else (.inl (Int.ofNat ((ME).findIdx fun x => !(fun x => !((nth x 0).str == nm)) x)))) := by
    intro ht
    have hlen : (ME).length ≤ 140737488351232 := ht
    have key := loopN_scan (step := qp_2_st) (ME) [] (fun x => !((nth x 0).str == nm)) (fun a _ => a) (fun i a => (nm, k, s, sg, bg, NA, NU, ME, BA, ct, (i : Int))) (fun a => (.inr ())) (fun i a => (.inl (i : Int))) (fun i a hi => ?_) (fun a => ?_) (ME).length 0 () (by omega)
    · first | (rw [Nat.zero_add] at key; exact key) | exact key
    · skip
      show (qp_2_step nm k s sg bg NA NU ME BA ct (i : Int)).val = _
      unfold qp_2_step
      refine Tr.t (by simp; omega) ?_
      skip
      refine Tr.t (by first | omega | (constructor <;> omega)) ?_
      refine Tr.b2 (fun hP => ?_) (fun _ => rfl)
      rw [Tr.val_ok, wrap64 (i := (i : Int) + 1) (by omega) (by omega)]; rfl
    · show (qp_2_step nm k s sg bg NA NU ME BA ct ((ME).length : Int)).val = _
      refine Tr.n (by simp) ?_
      rfl
  simp only [qp_2_fin, Told.val] at h
  cases hk : (ME).all (fun x => !((nth x 0).str == nm)) with
  | true =>
    rw [if_pos (show qp_k2_1 nm k s sg bg NA NU ME BA ct i = true from hk)] at h
    split at h
    · rename_i ho
      obtain ⟨rfl, ht⟩ := is_iff.1 ho
      cases h
      refine ⟨_, (key ht).trans ?_⟩
      rw [hk]; rfl
    · cases h
  | false =>
    rw [if_neg (show ¬qp_k2_1 nm k s sg bg NA NU ME BA ct i = true from by rw [show qp_k2_1 nm k s sg bg NA NU ME BA ct i = ((ME).all (fun x => !((nth x 0).str == nm))) from rfl, hk]; simp)] at h
    split at h
    · rename_i ho
      obtain ⟨rfl, ht⟩ := is_iff.1 ho
      cases h
      refine ⟨_, (key ht).trans ?_⟩
      rw [hk]; rfl
    · cases h
theorem qp_is2 : LoopIs tab FT D28 live 79 qp_lo 0 2 := by
  refine loop_told (sl := qp_2_sl) (step := qp_2_st) (out := qp_2_out) (lor := qp_lo2) (fin := fun x => (qp_2_fin (x.1) (x.2.1) (x.2.2.1) (x.2.2.2.1) (x.2.2.2.2.1) (x.2.2.2.2.2.1) (x.2.2.2.2.2.2.1) (x.2.2.2.2.2.2.2.1) (x.2.2.2.2.2.2.2.2.1) (x.2.2.2.2.2.2.2.2.2.1) (x.2.2.2.2.2.2.2.2.2.2))) (fun _ => rfl) ?_ (fun x n => qp_2_r x.1 x.2.1 x.2.2.1 x.2.2.2.1 x.2.2.2.2.1 x.2.2.2.2.2.1 x.2.2.2.2.2.2.1 x.2.2.2.2.2.2.2.1 x.2.2.2.2.2.2.2.2.1 x.2.2.2.2.2.2.2.2.2.1 x.2.2.2.2.2.2.2.2.2.2 n) (fun x ow => qp_2_h x.1 x.2.1 x.2.2.1 x.2.2.2.1 x.2.2.2.2.1 x.2.2.2.2.2.1 x.2.2.2.2.2.2.1 x.2.2.2.2.2.2.2.1 x.2.2.2.2.2.2.2.2.1 x.2.2.2.2.2.2.2.2.2.1 x.2.2.2.2.2.2.2.2.2.2 ow)
  intro s t h
  unfold qp_lo2 at h
  split at h
  · cases h; exact ⟨(_, _, _, _, _, _, _, _, _, _, _), rfl, rfl⟩
  · cases h
end
end
end
end
end
end
end Go.Proofs.Ytdcafhfnkblfkaa.V
