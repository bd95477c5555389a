/- What the functions of FnExactEncodeMapping answer. No condition. -/
import Derived.Test.YtjhbfeeaehaniaaDoorVFnExactEncodeMappingP4
namespace Go.Proofs.YtjhbfeeaehaniaaDoor.V
open Go
set_option maxRecDepth 100000
set_option linter.unusedVariables false
set_option linter.unusedSectionVars false
set_option linter.unusedSimpArgs false
set_option maxHeartbeats 2000000
noncomputable section
theorem qb_f5_eq (k : Int) (A S C B P : LL) (m i : Int) : qb_f5 k A S C B P m i = bif slabP A S C B i then Sum.inl () else Sum.inr (Sum.inl ()) := by
  unfold qb_f5 slabP
  show (bif !(inZ (kAt A i) 0 40) then _ else bif !(inZ (kAt C i) 1 40) then _ else bif !(inZ (kAt B i) 1 40) then _ else bif !(inZ (kAt S i) (kAt B i) 40) then _ else bif decide (endZ (kAt A i) (kAt S i) (kAt C i) (kAt B i) > 40) then _ else _) = _
  generalize inZ (kAt A i) 0 40 = p0, inZ (kAt C i) 1 40 = p1, inZ (kAt B i) 1 40 = p2, inZ (kAt S i) (kAt B i) 40 = p3, decide (endZ (kAt A i) (kAt S i) (kAt C i) (kAt B i) > 40) = p4
  cases p0 <;> cases p1 <;> cases p2 <;> cases p3 <;> cases p4 <;> rfl
theorem qb_R5_eq (k : Int) (A S C B P : LL) (m : Int) : qb_R5 k A S C B P m 0 = bif slabAll A S C B then Sum.inr () else Sum.inl () := by
  unfold qb_R5
  exact (iter_all (P := fun i : Nat => slabP A S C B (i : Int)) (g := fun _ a => a) (w := Sum.inl ()) fun j a _ => qb_f5_eq k A S C B P m _)
theorem qb_5_h (k : Int) (A S C B P : LL) (m i : Int) (ow : qb_5_ω) : ((qb_5_fin k A S C B P m i)).val = some ow → ∃ fuel, loopN qb_5_st fuel (k, A, S, C, B, P, m, i) = some ow := by
  refine auto_const (R := (qb_R5 k A S C B P m i)) rfl (iter_onR (f := (fun i a => (qb_f5 k A S C B P m (i : Int)))) (fin := (fun a => (qb_e5 k A S C B P m))) (Q := endsAs () ()) (fun i a => by unfold qb_f5; exact (onR_bif rfl (onR_bif rfl (onR_bif rfl (onR_bif rfl (onR_bif rfl trivial)))))) (fun _ => rfl) _ _ _) ?_
  intro ho
  have ho : is (i = 0 ∧ Typed tab (.slice 2) (.l A) ∧ m = (A.length : Int) ∧ S.length = A.length ∧ C.length = A.length ∧ B.length = A.length) = true := ho.elim id id
  obtain ⟨rfl, ht, rfl, hS, hC, hB⟩ := is_iff.1 ho
  have hlen : A.length ≤ 140737488351232 := by have := typed_room ht; simp only [show (tab 2).bytes = 8 from rfl] at this; omega
  refine ⟨(A.length) + 1, ?_⟩
  refine iter_loop (step := qb_5_st) (A.length) (fun i a => (qb_f5 k A S C B P (A.length : Int) (i : Int))) (fun a => (qb_e5 k A S C B P (A.length : Int))) (fun i a => (k, A, S, C, B, P, (A.length : Int), (i : Int))) (fun _ _ => True) trivial (fun i a hi hI => ⟨?_, fun _ _ => trivial⟩) (fun a hI => ?_)
  · show (qb_5_step k A S C B P (A.length : Int) (i : Int)).val = _
    unfold qb_5_step qb_f5
    skip
    refine Tr.t (by simp; omega) ?_
    exact (Tr.t (by first | omega | (constructor <;> omega) | (exact is_true (by and_intros <;> omega))) (Tr.bf rfl (Tr.t (by first | omega | (constructor <;> omega) | (exact is_true (by and_intros <;> omega))) (Tr.bf rfl (Tr.t (by first | omega | (constructor <;> omega) | (exact is_true (by and_intros <;> omega))) (Tr.bf rfl (Tr.t (by first | omega | (constructor <;> omega) | (exact is_true (by and_intros <;> omega))) (Tr.t (by first | omega | (constructor <;> omega) | (exact is_true (by and_intros <;> omega))) (Tr.bf rfl (Tr.t (by first | (exact is_true (by and_intros <;> omega)) | (first | (apply is_true; and_intros <;> (first | rfl | assumption | (apply qx_cc <;> assumption) | (apply qj_cc <;> assumption) | (apply ql_cc <;> assumption) | (apply qt_cc <;> assumption) | (apply qp_cc <;> assumption) | (apply qi_cc <;> assumption) | (apply qn_cc <;> assumption) | (apply qf_cc <;> assumption) | (apply qw_cc <;> assumption) | (apply qh_cc <;> assumption) | (apply qy_cc <;> assumption) | (apply qq_cc <;> assumption) | (apply qr_cc <;> assumption) | (first | (apply is_true; and_intros <;> (first | rfl | assumption | (apply qx_cc <;> assumption) | (apply qj_cc <;> assumption) | (apply ql_cc <;> assumption) | (apply qt_cc <;> assumption) | (apply qp_cc <;> assumption) | (apply qi_cc <;> assumption) | (apply qn_cc <;> assumption) | (apply qf_cc <;> assumption) | (apply qw_cc <;> assumption) | (apply qh_cc <;> assumption) | (apply qy_cc <;> assumption) | (apply qq_cc <;> assumption) | (apply qr_cc <;> assumption) | (first | (apply is_true; and_intros <;> (first | rfl | assumption | (apply qx_cc <;> assumption) | (apply qj_cc <;> assumption) | (apply ql_cc <;> assumption) | (apply qt_cc <;> assumption) | (apply qp_cc <;> assumption) | (apply qi_cc <;> assumption) | (apply qn_cc <;> assumption) | (apply qf_cc <;> assumption) | (apply qw_cc <;> assumption) | (apply qh_cc <;> assumption) | (apply qy_cc <;> assumption) | (apply qq_cc <;> assumption) | (apply qr_cc <;> assumption))) | (apply qx_cc <;> assumption) | (apply qj_cc <;> assumption) | (apply ql_cc <;> assumption) | (apply qt_cc <;> assumption) | (apply qp_cc <;> assumption) | (apply qi_cc <;> assumption) | (apply qn_cc <;> assumption) | (apply qf_cc <;> assumption) | (apply qw_cc <;> assumption) | (apply qh_cc <;> assumption) | (apply qy_cc <;> assumption) | (apply qq_cc <;> assumption) | (apply qr_cc <;> assumption)))) | (apply qx_cc <;> assumption) | (apply qj_cc <;> assumption) | (apply ql_cc <;> assumption) | (apply qt_cc <;> assumption) | (apply qp_cc <;> assumption) | (apply qi_cc <;> assumption) | (apply qn_cc <;> assumption) | (apply qf_cc <;> assumption) | (apply qw_cc <;> assumption) | (apply qh_cc <;> assumption) | (apply qy_cc <;> assumption) | (apply qq_cc <;> assumption) | (apply qr_cc <;> assumption)))) | (apply qx_cc <;> assumption) | (apply qj_cc <;> assumption) | (apply ql_cc <;> assumption) | (apply qt_cc <;> assumption) | (apply qp_cc <;> assumption) | (apply qi_cc <;> assumption) | (apply qn_cc <;> assumption) | (apply qf_cc <;> assumption) | (apply qw_cc <;> assumption) | (apply qh_cc <;> assumption) | (apply qy_cc <;> assumption) | (apply qq_cc <;> assumption) | (apply qr_cc <;> assumption))) (Tr.bf rfl (by rw [Tr.val_ok, wrap64 (i := (i : Int) + 1) (by omega) (by omega)]; rfl))))))))))))
  · show (qb_5_step k A S C B P (A.length : Int) (A.length : Int)).val = _
    refine Tr.n (by first | (simp; done) | (simp; omega) | omega) ?_
    rfl
theorem qb_is5 : LoopIs tab FT D43 live 38 qb_lo 0 5 := by
  refine loop_told (sl := qb_5_sl) (step := qb_5_st) (out := qb_5_out) (lor := qb_lo5) (fin := fun x => (qb_5_fin (x.1) (x.2.1) (x.2.2.1) (x.2.2.2.1) (x.2.2.2.2.1) (x.2.2.2.2.2.1) (x.2.2.2.2.2.2.1) (x.2.2.2.2.2.2.2))) (fun _ => rfl) ?_ (fun x n => qb_5_r x.1 x.2.1 x.2.2.1 x.2.2.2.1 x.2.2.2.2.1 x.2.2.2.2.2.1 x.2.2.2.2.2.2.1 x.2.2.2.2.2.2.2 n) (fun x ow => qb_5_h x.1 x.2.1 x.2.2.1 x.2.2.2.1 x.2.2.2.2.1 x.2.2.2.2.2.1 x.2.2.2.2.2.2.1 x.2.2.2.2.2.2.2 ow)
  intro s t h
  unfold qb_lo5 at h
  split at h
  · cases h; exact ⟨(_, _, _, _, _, _, _, _), rfl, rfl⟩
  · cases h
def qb_t (k : Int) (A S C B P : LL) : Tr (Bool) := (.ite ((decide ((A.length : Int) > (3 : Int))) = true) (.ok false)
  (.ite ((!((S.length : Int) == (A.length : Int))) = true) (.ok false)
   (.ite ((!((C.length : Int) == (A.length : Int))) = true) (.ok false)
    (.ite ((!((B.length : Int) == (A.length : Int))) = true) (.ok false)
     (.ite ((qb_k5_1 k A S C B P (A.length : Int) (0 : Int)) = true) (.ite ((qb_o5_2 k A S C B P (A.length : Int) (0 : Int)) = true) (.ok false)
       .no)
      (.ite ((qb_o5_3 k A S C B P (A.length : Int) (0 : Int)) = true) (.ok true)
       .no))))))
def qb_mk (p : Bool) : Res := [(false, [⟨.bool, .sh, TC.b p⟩])]
def qb_c (k : Int) (A S C B P : LL) : Bool := (bif (decide ((A.length : Int) > (3 : Int))) then true else (bif (!((S.length : Int) == (A.length : Int))) then true else (bif (!((C.length : Int) == (A.length : Int))) then true else (bif (!((B.length : Int) == (A.length : Int))) then true else (bif (qb_k5_1 k A S C B P (A.length : Int) (0 : Int)) then ((qb_o5_2 k A S C B P (A.length : Int) (0 : Int)) && true) else ((qb_o5_3 k A S C B P (A.length : Int) (0 : Int)) && true))))))
def qb_v (k : Int) (A S C B P : LL) : Bool := (bif (decide ((A.length : Int) > (3 : Int))) then false else (bif (!((S.length : Int) == (A.length : Int))) then false else (bif (!((C.length : Int) == (A.length : Int))) then false else (bif (!((B.length : Int) == (A.length : Int))) then false else (bif (qb_k5_1 k A S C B P (A.length : Int) (0 : Int)) then false else true)))))
theorem qb_l (k : Int) (A S C B P : LL) : (qb_c k A S C B P) = true → (qb_t k A S C B P).val = some (qb_v k A S C B P) := by
  unfold qb_t qb_v qb_c
  exact fun h => (Tr.ss h (fun h => rfl) (fun h => (Tr.ss h (fun h => rfl) (fun h => (Tr.ss h (fun h => rfl) (fun h => (Tr.ss h (fun h => rfl) (fun h => (Tr.ss h (fun h => (Tr.gb h fun h => rfl)) (fun h => (Tr.gb h fun h => rfl)))))))))))
def qb_S : List Arg → Option (Bool × Res) := fun xs => match xs with
  | [(true, [(.int .i64, TC.i k), (.slice 2, TC.l A), (.slice 2, TC.l S), (.slice 2, TC.l C), (.slice 2, TC.l B), (.slice 62, TC.l P)])] => some ((qb_c k A S C B P), qb_mk (qb_v k A S C B P))
  | _ => .none
theorem qb_e (k : Int) (A S C B P : LL) : runF tab FT D43 live 38 qb_lo [(true, [(.int .i64, TC.i k), (.slice 2, TC.l A), (.slice 2, TC.l S), (.slice 2, TC.l C), (.slice 2, TC.l B), (.slice 62, TC.l P)])] = (qb_t k A S C B P).run fun p => some (qb_mk p) := by kernel_rfl
theorem qb_s : ∀ xs r, qb_S xs = some (true, r) → runF tab FT D43 live 38 qb_lo xs = some r := by
  intro xs r h
  unfold qb_S at h
  split at h
  · obtain ⟨h1, rfl⟩ := sp h
    exact fun_told (qb_e ..) (qb_l _ _ _ _ _ _) h1
  · cases h
def D44 : Dt := also D43 38 qb_S
theorem d44 : DOk Go.Proofs.Tryd.prog tab D44 := d43.also mixed_ok tab_ok names_ok (fnLoops_one (by kernel_rfl) qb_is5) qb_s
theorem qb_cc {k : Int} {A : LL} {S : LL} {C : LL} {B : LL} {P : LL} (hA : Typed tab (.slice 2) (.l A)) : (qb_c k A S C B P) = true := by
  unfold qb_c
  refine bifT (fun b1 => ?_) (fun b1 => ?_)
  · skip
    rfl
  · skip
    refine bifT (fun b2 => ?_) (fun b2 => ?_)
    · skip
      rfl
    · skip
      refine bifT (fun b3 => ?_) (fun b3 => ?_)
      · skip
        rfl
      · skip
        refine bifT (fun b4 => ?_) (fun b4 => ?_)
        · skip
          rfl
        · skip
          refine bifT (fun b5 => ?_) (fun b5 => ?_)
          · skip
            refine andT (by exact is_true ⟨rfl, hA, rfl, by have h := bneF b2; omega, by have h := bneF b3; omega, by have h := bneF b4; omega⟩) ?_
            rfl
          · skip
            refine andT (by exact is_true ⟨rfl, hA, rfl, by have h := bneF b2; omega, by have h := bneF b3; omega, by have h := bneF b4; omega⟩) ?_
            rfl
theorem qb_vv (k : Int) (A S C B P : LL) : qb_v k A S C B P = (slabV A S C B) := by
  unfold qb_v
  rw [show qb_k5_1 k A S C B P (A.length : Int) (0 : Int) = sumIs (qb_R5 k A S C B P (A.length : Int) 0) from rfl, qb_R5_eq]
  unfold slabV
  simp only [lenI, gt3, gt0]
  generalize decide (A.length ≤ 3) = p0, (S.length == A.length) = p1, (C.length == A.length) = p2, (B.length == A.length) = p3, decide (P.length = 0) = p4, slabAll A S C B = p5
  cases p0 <;> cases p1 <;> cases p2 <;> cases p3 <;> cases p4 <;> cases p5 <;> rfl
def qcg_t (a0 : Int) (a1 a2 : List TC) : Tr (Bool) := .ok (!(qcf_v a0 ((nth a1 0).int) ((nth a2 0).int)))
def qcg_mk (p : Bool) : Res := [(false, [⟨.bool, .sh, TC.b p⟩])]
def qcg_c (a0 : Int) (a1 a2 : List TC) : Bool := true
def qcg_v (a0 : Int) (a1 a2 : List TC) : Bool := (!(qcf_v a0 ((nth a1 0).int) ((nth a2 0).int)))
theorem qcg_l (a0 : Int) (a1 a2 : List TC) : (qcg_c a0 a1 a2) = true → (qcg_t a0 a1 a2).val = some (qcg_v a0 a1 a2) := by
  intro h
  skip
  unfold qcg_t qcg_v
  exact rfl
def qcg_S : List Arg → Option (Bool × Res) := fun xs => match xs with
  | [(false, [(.int .i64, TC.i a0)]), (false, [(.ptr 2, TC.p a1)]), (false, [(.ptr 2, TC.p a2)])] => some (true, qcg_mk (qcg_v a0 a1 a2))
  | _ => .none
theorem qcg_e (a0 : Int) (a1 a2 : List TC) : runF tab FT D44 live 69 noLoops [(false, [(.int .i64, TC.i a0)]), (false, [(.ptr 2, TC.p a1)]), (false, [(.ptr 2, TC.p a2)])] = (qcg_t a0 a1 a2).run fun p => some (qcg_mk p) := by kernel_rfl
theorem qcg_s : ∀ xs r, qcg_S xs = some (true, r) → runF tab FT D44 live 69 noLoops xs = some r := by
  intro xs r h
  unfold qcg_S at h
  split at h
  · obtain ⟨h1, rfl⟩ := sp h
    exact fun_told (qcg_e ..) (qcg_l _ _ _) rfl
  · cases h
def D45 : Dt := also D44 69 qcg_S
theorem d45 : DOk Go.Proofs.Tryd.prog tab D45 := d44.also mixed_ok tab_ok names_ok noLoops_ok qcg_s
abbrev qm_2_σ := LL × List TC × List TC × Int × Int
abbrev qm_2_ω := (Int) ⊕ (Unit)
def qm_2_step (A : LL) (lw hg : List TC) (m i : Int) : Tr (qm_2_σ ⊕ qm_2_ω) := (.ite ((decide (i < m)) = true) (.ite ((0 : Int) ≤ i ∧ i < (A.length : Int)) (.ite ((!(qcf_v ((nth (row A i) 0).int) ((nth lw 0).int) ((nth hg 0).int))) = true) (.ok (.inr (.inl i)))
    (.ok (.inl (A, lw, hg, m, (IntKind.wrap .i64 (i + (1 : Int)))))))
   .no)
  (.ok (.inr (.inr ()))))
def qm_2_st : qm_2_σ → Tr (qm_2_σ ⊕ qm_2_ω) := fun x => (qm_2_step (x.1) (x.2.1) (x.2.2.1) (x.2.2.2.1) (x.2.2.2.2))
def qm_k2_1 (A : LL) (lw hg : List TC) (m i : Int) : Bool := A.all (inR (nth lw 0).int (nth hg 0).int)
def qm_o2_2 (A : LL) (lw hg : List TC) (m i : Int) : Bool := is (i = 0 ∧ Typed tab (.slice 2) (.l A) ∧ m = (A.length : Int))
def qm_o2_3 (A : LL) (lw hg : List TC) (m i : Int) : Bool := is (i = 0 ∧ Typed tab (.slice 2) (.l A) ∧ m = (A.length : Int))
def qm_u2_3 (A : LL) (lw hg : List TC) (m i : Int) : Int := (Int.ofNat (A.findIdx fun x => !(inR (nth lw 0).int (nth hg 0).int) x))
def qm_2_fin (A : LL) (lw hg : List TC) (m i : Int) : Told qm_2_ω := (.br (qm_k2_1 A lw hg m i) (.leaf (qm_o2_2 A lw hg m i) (.inr ())) (.leaf (qm_o2_3 A lw hg m i) (.inl (qm_u2_3 A lw hg m i))))
def qm_2_sl (x : qm_2_σ) : List Slot := [⟨.val false [⟨.slice 2, .sh, TC.l (x.1)⟩], ⟨0, 0⟩⟩, ⟨.val false [⟨.func, .sh, TC.f 69 [(2, x.2.1), (2, x.2.2.1)]⟩], ⟨0, 0⟩⟩, ⟨.val false [⟨.int .i64, .sh, TC.i (x.2.2.2.1)⟩], ⟨0, 0⟩⟩, ⟨.val false [⟨.int .i64, .sh, TC.i (x.2.2.2.2)⟩], ⟨0, 0⟩⟩]
def qm_2_out : qm_2_ω → Ex × List Slot := (Sum.elim (fun x => (.ret, [⟨.val false [⟨.int .i64, .sh, TC.i x⟩], ⟨0, 0⟩⟩])) (fun x => (.exit 0, [Slot.none])))
def qm_lo2 : List Slot → Option (Told (Ex × List Slot)) := fun s => match s with
  | [⟨.val false [⟨.slice 2, .sh, TC.l A⟩], ⟨0, 0⟩⟩, ⟨.val false [⟨.func, .sh, TC.f 69 [(2, lw), (2, hg)]⟩], ⟨0, 0⟩⟩, ⟨.val false [⟨.int .i64, .sh, TC.i m⟩], ⟨0, 0⟩⟩, ⟨.val false [⟨.int .i64, .sh, TC.i i⟩], ⟨0, 0⟩⟩] => some (((qm_2_fin A lw hg m i)).map qm_2_out)
  | _ => .none
def qm_lo : LoopTeller := fun r s => bif Nat.beq r 2 then qm_lo2 s else .none
theorem qm_2_r (A : LL) (lw hg : List TC) (m i : Int) (fuel : Nat) : rounds (rnd tab FT D45 live 75 qm_lo 0 2) leave (fuel + 1) (qm_2_sl (A, lw, hg, m, i)) = ((qm_2_step A lw hg m i)).run (goOn (fun s => rounds (rnd tab FT D45 live 75 qm_lo 0 2) leave fuel (qm_2_sl s)) fun w => some (qm_2_out w)) := by kernel_rfl
theorem qm_2_h (A : LL) (lw hg : List TC) (m i : Int) (ow : qm_2_ω) : ((qm_2_fin A lw hg m i)).val = some ow → ∃ fuel, loopN qm_2_st fuel (A, lw, hg, m, i) = some ow := by
  intro h
  have key : Typed tab (.slice 2) (.l A) → loopN qm_2_st (A.length + 1) (A, lw, hg, (A.length : Int), (0 : Int)) = some (if A.all (inR (nth lw 0).int (nth hg 0).int) = true then (.inr ()) else (.inl (Int.ofNat (A.findIdx fun x => !(inR (nth lw 0).int (nth hg 0).int) x)))) := by
    intro ht
    have hlen : A.length ≤ 140737488351232 := by have := typed_room ht; simp only [show (tab 2).bytes = 8 from rfl] at this; omega
    have key := loopN_scan (step := qm_2_st) A [] (inR (nth lw 0).int (nth hg 0).int) (fun a _ => a) (fun i a => (A, lw, hg, (A.length : Int), (i : Int))) (fun a => (.inr ())) (fun i a => (.inl (i : Int))) (fun i a hi => ?_) (fun a => ?_) A.length 0 () (by omega)
    · first | (rw [Nat.zero_add] at key; exact key) | exact key
    · skip
      show (qm_2_step A lw hg (A.length : Int) (i : Int)).val = _
      unfold qm_2_step
      refine Tr.t (by simp; omega) ?_
      skip
      refine Tr.t (by first | omega | (constructor <;> omega)) ?_
      refine Tr.b (P := (inR (nth lw 0).int (nth hg 0).int) (A.getD i [])) (fun hP => ?_) (fun _ => rfl)
      rw [Tr.val_ok, wrap64 (i := (i : Int) + 1) (by omega) (by omega)]; rfl
    · show (qm_2_step A lw hg (A.length : Int) (A.length : Int)).val = _
      refine Tr.n (by simp) ?_
      rfl
  simp only [qm_2_fin, Told.val] at h
  cases hk : A.all (inR (nth lw 0).int (nth hg 0).int) with
  | true =>
    rw [if_pos (show qm_k2_1 A lw hg m i = true from hk)] at h
    split at h
    · rename_i ho
      obtain ⟨rfl, ht, rfl⟩ := is_iff.1 ho
      cases h
      refine ⟨_, (key ht).trans ?_⟩
      rw [hk]; rfl
    · cases h
  | false =>
    rw [if_neg (show ¬qm_k2_1 A lw hg m i = true from by rw [show qm_k2_1 A lw hg m i = (A.all (inR (nth lw 0).int (nth hg 0).int)) from rfl, hk]; simp)] at h
    split at h
    · rename_i ho
      obtain ⟨rfl, ht, rfl⟩ := is_iff.1 ho
      cases h
      refine ⟨_, (key ht).trans ?_⟩
      rw [hk]; rfl
    · cases h
theorem qm_is2 : LoopIs tab FT D45 live 75 qm_lo 0 2 := by
  refine loop_told (sl := qm_2_sl) (step := qm_2_st) (out := qm_2_out) (lor := qm_lo2) (fin := fun x => (qm_2_fin (x.1) (x.2.1) (x.2.2.1) (x.2.2.2.1) (x.2.2.2.2))) (fun _ => rfl) ?_ (fun x n => qm_2_r x.1 x.2.1 x.2.2.1 x.2.2.2.1 x.2.2.2.2 n) (fun x ow => qm_2_h x.1 x.2.1 x.2.2.1 x.2.2.2.1 x.2.2.2.2 ow)
  intro s t h
  unfold qm_lo2 at h
  split at h
  · cases h; exact ⟨(_, _, _, _, _), rfl, rfl⟩
  · cases h
def qm_t (A : LL) (lw hg : List TC) : Tr (Int) := (.ite ((qm_k2_1 A lw hg (A.length : Int) (0 : Int)) = true) (.ite ((qm_o2_2 A lw hg (A.length : Int) (0 : Int)) = true) (.ok (-1 : Int))
   .no)
  (.ite ((qm_o2_3 A lw hg (A.length : Int) (0 : Int)) = true) (.ok (qm_u2_3 A lw hg (A.length : Int) (0 : Int)))
   .no))
def qm_mk (p : Int) : Res := [(false, [⟨.int .i64, .sh, TC.i p⟩])]
def qm_c (A : LL) (lw hg : List TC) : Bool := is (Typed tab (.slice 2) (.l A))
def qm_v (A : LL) (lw hg : List TC) : Int := if (A.all (inR (nth lw 0).int (nth hg 0).int)) = true then -1 else (Int.ofNat (A.findIdx fun x => !(inR (nth lw 0).int (nth hg 0).int) x))
theorem qm_l (A : LL) (lw hg : List TC) : (qm_c A lw hg) = true → (qm_t A lw hg).val = some (qm_v A lw hg) := by
  intro h
  have ht := is_iff.1 h
  unfold qm_t
  cases hk : A.all (inR (nth lw 0).int (nth hg 0).int) with
  | true =>
    refine Tr.t (show A.all (inR (nth lw 0).int (nth hg 0).int) = true from hk) ?_
    refine Tr.t (is_true ⟨rfl, ht, rfl⟩) ?_
    show _ = some (qm_v A lw hg); unfold qm_v; rw [if_pos hk]; rfl
  | false =>
    refine Tr.n (show ¬A.all (inR (nth lw 0).int (nth hg 0).int) = true from by rw [hk]; simp) ?_
    refine Tr.t (is_true ⟨rfl, ht, rfl⟩) ?_
    show _ = some (qm_v A lw hg); unfold qm_v; rw [if_neg (by rw [hk]; simp)]; rfl
def qm_S : List Arg → Option (Bool × Res) := fun xs => match xs with
  | [(false, [(.slice 2, TC.l A)]), (false, [(.func, TC.f 69 [(2, lw), (2, hg)])])] => some ((qm_c A lw hg), qm_mk (qm_v A lw hg))
  | _ => .none
theorem qm_e (A : LL) (lw hg : List TC) : runF tab FT D45 live 75 qm_lo [(false, [(.slice 2, TC.l A)]), (false, [(.func, TC.f 69 [(2, lw), (2, hg)])])] = (qm_t A lw hg).run fun p => some (qm_mk p) := by kernel_rfl
theorem qm_s : ∀ xs r, qm_S xs = some (true, r) → runF tab FT D45 live 75 qm_lo xs = some r := by
  intro xs r h
  unfold qm_S at h
  split at h
  · obtain ⟨h1, rfl⟩ := sp h
    exact fun_told (qm_e ..) (qm_l _ _ _) h1
  · cases h
def D46 : Dt := also D45 75 qm_S
theorem d46 : DOk Go.Proofs.Tryd.prog tab D46 := d45.also mixed_ok tab_ok names_ok (fnLoops_one (by kernel_rfl) qm_is2) qm_s
def qbm_t (A : LL) (lw hg : List TC) : Tr (Bool) := (.ite ((qm_c A lw hg) = true) (.ok (decide ((qm_v A lw hg) ≥ (0 : Int))))
  .no)
def qbm_mk (p : Bool) : Res := [(false, [⟨.bool, .sh, TC.b p⟩])]
def qbm_c (A : LL) (lw hg : List TC) : Bool := is (Typed tab (.slice 2) (.l A))
def qbm_v (A : LL) (lw hg : List TC) : Bool := !(A.all (inR (nth lw 0).int (nth hg 0).int))
theorem qbm_l (A : LL) (lw hg : List TC) : (qbm_c A lw hg) = true → (qbm_t A lw hg).val = some (qbm_v A lw hg) := by
  intro h
  have ht := is_iff.1 h
  unfold qbm_t
  refine Tr.t (is_true ht) ?_
  show some (decide (qm_v A lw hg ≥ 0)) = some (!(A.all (inR (nth lw 0).int (nth hg 0).int)))
  unfold qm_v
  cases hk : A.all (inR (nth lw 0).int (nth hg 0).int) <;> simp
def qbm_S : List Arg → Option (Bool × Res) := fun xs => match xs with
  | [(false, [(.slice 2, TC.l A)]), (false, [(.func, TC.f 69 [(2, lw), (2, hg)])])] => some ((qbm_c A lw hg), qbm_mk (qbm_v A lw hg))
  | _ => .none
theorem qbm_e (A : LL) (lw hg : List TC) : runF tab FT D46 live 68 noLoops [(false, [(.slice 2, TC.l A)]), (false, [(.func, TC.f 69 [(2, lw), (2, hg)])])] = (qbm_t A lw hg).run fun p => some (qbm_mk p) := by kernel_rfl
theorem qbm_s : ∀ xs r, qbm_S xs = some (true, r) → runF tab FT D46 live 68 noLoops xs = some r := by
  intro xs r h
  unfold qbm_S at h
  split at h
  · obtain ⟨h1, rfl⟩ := sp h
    exact fun_told (qbm_e ..) (qbm_l _ _ _) h1
  · cases h
def D47 : Dt := also D46 68 qbm_S
theorem d47 : DOk Go.Proofs.Tryd.prog tab D47 := d46.also mixed_ok tab_ok names_ok noLoops_ok qbm_s
def qbp_t (a0 : LL) (a1 a2 : Int) : Tr (Bool) := (.ite ((qbm_c a0 [TC.i a1] [TC.i a2]) = true) (.ok (!(qbm_v a0 [TC.i a1] [TC.i a2])))
  .no)
def qbp_mk (p : Bool) : Res := [(false, [⟨.bool, .sh, TC.b p⟩])]
def qbp_c (a0 : LL) (a1 a2 : Int) : Bool := (qbm_c a0 [TC.i a1] [TC.i a2])
def qbp_v (a0 : LL) (a1 a2 : Int) : Bool := (!(qbm_v a0 [TC.i a1] [TC.i a2]))
theorem qbp_l (a0 : LL) (a1 a2 : Int) : (qbp_c a0 a1 a2) = true → (qbp_t a0 a1 a2).val = some (qbp_v a0 a1 a2) := by
  intro h
  have hc0 : (qbm_c a0 [TC.i a1] [TC.i a2]) = true := h
  unfold qbp_t
  exact (Tr.t hc0 rfl)
def qbp_S : List Arg → Option (Bool × Res) := fun xs => match xs with
  | [(false, [(.slice 2, TC.l a0)]), (false, [(.int .i64, TC.i a1)]), (false, [(.int .i64, TC.i a2)])] => some ((qbp_c a0 a1 a2), qbp_mk (qbp_v a0 a1 a2))
  | _ => .none
theorem qbp_e (a0 : LL) (a1 a2 : Int) : runF tab FT D47 live 60 noLoops [(false, [(.slice 2, TC.l a0)]), (false, [(.int .i64, TC.i a1)]), (false, [(.int .i64, TC.i a2)])] = (qbp_t a0 a1 a2).run fun p => some (qbp_mk p) := by kernel_rfl
theorem qbp_s : ∀ xs r, qbp_S xs = some (true, r) → runF tab FT D47 live 60 noLoops xs = some r := by
  intro xs r h
  unfold qbp_S at h
  split at h
  · obtain ⟨h1, rfl⟩ := sp h
    exact fun_told (qbp_e ..) (qbp_l _ _ _) h1
  · cases h
def D48 : Dt := also D47 60 qbp_S
theorem d48 : DOk Go.Proofs.Tryd.prog tab D48 := d47.also mixed_ok tab_ok names_ok noLoops_ok qbp_s
def qbf_t (a0 : LL) (a1 : List TC) : Tr (Bool) := (.ite ((!((a0.length : Int) == (nth a1 0).int)) = true) (.ok true)
  (.ite ((qbp_c a0 (0 : Int) (39 : Int)) = true) (.ok (!(qbp_v a0 (0 : Int) (39 : Int))))
   .no))
def qbf_mk (p : Bool) : Res := [(false, [⟨.bool, .sh, TC.b p⟩])]
def qbf_c (a0 : LL) (a1 : List TC) : Bool := (qbp_c a0 (0 : Int) (39 : Int))
def qbf_v (a0 : LL) (a1 : List TC) : Bool := (bif (!((a0.length : Int) == (nth a1 0).int)) then true else (!(qbp_v a0 (0 : Int) (39 : Int))))
theorem qbf_l (a0 : LL) (a1 : List TC) : (qbf_c a0 a1) = true → (qbf_t a0 a1).val = some (qbf_v a0 a1) := by
  intro h
  have g0 : (qbp_c a0 (0 : Int) (39 : Int)) = true := h
  unfold qbf_t qbf_v
  exact (Tr.s rfl (Tr.t g0 rfl))
def qbf_S : List Arg → Option (Bool × Res) := fun xs => match xs with
  | [(true, [(.slice 2, TC.l a0)]), (false, [(.ptr 3, TC.p a1)])] => some ((qbf_c a0 a1), qbf_mk (qbf_v a0 a1))
  | _ => .none
theorem qbf_e (a0 : LL) (a1 : List TC) : runF tab FT D48 live 59 noLoops [(true, [(.slice 2, TC.l a0)]), (false, [(.ptr 3, TC.p a1)])] = (qbf_t a0 a1).run fun p => some (qbf_mk p) := by kernel_rfl
theorem qbf_s : ∀ xs r, qbf_S xs = some (true, r) → runF tab FT D48 live 59 noLoops xs = some r := by
  intro xs r h
  unfold qbf_S at h
  split at h
  · obtain ⟨h1, rfl⟩ := sp h
    exact fun_told (qbf_e ..) (qbf_l _ _) h1
  · cases h
def D49 : Dt := also D48 59 qbf_S
theorem d49 : DOk Go.Proofs.Tryd.prog tab D49 := d48.also mixed_ok tab_ok names_ok noLoops_ok qbf_s
abbrev qg_2_σ := LL × List TC × Int × Int
abbrev qg_2_ω := (Int) ⊕ (Unit)
def qg_2_step (A : LL) (cap0 : List TC) (m i : Int) : Tr (qg_2_σ ⊕ qg_2_ω) := (.ite ((decide (i < m)) = true) (.ite ((0 : Int) ≤ i ∧ i < (A.length : Int)) (.ite ((qbf_c ((nth (row A i) 0).list) cap0) = true) (.ite ((qbf_v ((nth (row A i) 0).list) cap0) = true) (.ok (.inr (.inl i)))
     (.ok (.inl (A, cap0, m, (IntKind.wrap .i64 (i + (1 : Int)))))))
    .no)
   .no)
  (.ok (.inr (.inr ()))))
def qg_2_st : qg_2_σ → Tr (qg_2_σ ⊕ qg_2_ω) := fun x => (qg_2_step (x.1) (x.2.1) (x.2.2.1) (x.2.2.2))
def qg_k2_1 (A : LL) (cap0 : List TC) (m i : Int) : Bool := A.all (fun x => !(qbf_v ((nth x 0).list) cap0))
def qg_o2_2 (A : LL) (cap0 : List TC) (m i : Int) : Bool := is (i = 0 ∧ Typed tab (.slice 62) (.l A) ∧ m = (A.length : Int))
def qg_o2_3 (A : LL) (cap0 : List TC) (m i : Int) : Bool := is (i = 0 ∧ Typed tab (.slice 62) (.l A) ∧ m = (A.length : Int))
def qg_u2_3 (A : LL) (cap0 : List TC) (m i : Int) : Int := (Int.ofNat (A.findIdx fun x => !(fun x => !(qbf_v ((nth x 0).list) cap0)) x))
def qg_2_fin (A : LL) (cap0 : List TC) (m i : Int) : Told qg_2_ω := (.br (qg_k2_1 A cap0 m i) (.leaf (qg_o2_2 A cap0 m i) (.inr ())) (.leaf (qg_o2_3 A cap0 m i) (.inl (qg_u2_3 A cap0 m i))))
def qg_2_sl (x : qg_2_σ) : List Slot := [⟨.val false [⟨.slice 62, .sh, TC.l (x.1)⟩], ⟨0, 0⟩⟩, ⟨.val false [⟨.func, .sh, TC.f 59 [(3, x.2.1)]⟩], ⟨0, 0⟩⟩, ⟨.val false [⟨.int .i64, .sh, TC.i (x.2.2.1)⟩], ⟨0, 0⟩⟩, ⟨.val false [⟨.int .i64, .sh, TC.i (x.2.2.2)⟩], ⟨0, 0⟩⟩]
def qg_2_out : qg_2_ω → Ex × List Slot := (Sum.elim (fun x => (.ret, [⟨.val false [⟨.int .i64, .sh, TC.i x⟩], ⟨0, 0⟩⟩])) (fun x => (.exit 0, [Slot.none])))
def qg_lo2 : List Slot → Option (Told (Ex × List Slot)) := fun s => match s with
  | [⟨.val false [⟨.slice 62, .sh, TC.l A⟩], ⟨0, 0⟩⟩, ⟨.val false [⟨.func, .sh, TC.f 59 [(3, cap0)]⟩], ⟨0, 0⟩⟩, ⟨.val false [⟨.int .i64, .sh, TC.i m⟩], ⟨0, 0⟩⟩, ⟨.val false [⟨.int .i64, .sh, TC.i i⟩], ⟨0, 0⟩⟩] => some (((qg_2_fin A cap0 m i)).map qg_2_out)
  | _ => .none
def qg_lo : LoopTeller := fun r s => bif Nat.beq r 2 then qg_lo2 s else .none
theorem qg_2_r (A : LL) (cap0 : List TC) (m i : Int) (fuel : Nat) : rounds (rnd tab FT D49 live 67 qg_lo 0 2) leave (fuel + 1) (qg_2_sl (A, cap0, m, i)) = ((qg_2_step A cap0 m i)).run (goOn (fun s => rounds (rnd tab FT D49 live 67 qg_lo 0 2) leave fuel (qg_2_sl s)) fun w => some (qg_2_out w)) := by kernel_rfl
theorem qg_2_h (A : LL) (cap0 : List TC) (m i : Int) (ow : qg_2_ω) : ((qg_2_fin A cap0 m i)).val = some ow → ∃ fuel, loopN qg_2_st fuel (A, cap0, m, i) = some ow := by
  intro h
  have key : Typed tab (.slice 62) (.l A) → loopN qg_2_st (A.length + 1) (A, cap0, (A.length : Int), (0 : Int)) = some (if A.all (fun x => !(qbf_v ((nth x 0).list) cap0)) = true then (.inr ()) else (.inl (Int.ofNat (A.findIdx fun x => !(fun x => !(qbf_v ((nth x 0).list) cap0)) x)))) := by
    intro ht
    have hlen : A.length ≤ 140737488351232 := by have := typed_room ht; simp only [show (tab 62).bytes = 24 from rfl] at this; omega
    have key := loopN_scan (step := qg_2_st) A [] (fun x => !(qbf_v ((nth x 0).list) cap0)) (fun a _ => a) (fun i a => (A, cap0, (A.length : Int), (i : Int))) (fun a => (.inr ())) (fun i a => (.inl (i : Int))) (fun i a hi => ?_) (fun a => ?_) A.length 0 () (by omega)
    · first | (rw [Nat.zero_add] at key; exact key) | exact key
    · have c0 : Typed tab (.slice 2) (.l (nth (A.getD i []) 0).list) := typed_list (typed_cell ht (A.getD i []) (mem_getD hi) 0 (by decide))
      show (qg_2_step A cap0 (A.length : Int) (i : Int)).val = _
      unfold qg_2_step
      refine Tr.t (by simp; omega) ?_
      skip
      refine Tr.t (by first | omega | (constructor <;> omega)) ?_
      refine Tr.t (by first | (apply is_true; and_intros <;> (first | rfl | assumption | (apply qx_cc <;> assumption) | (apply qj_cc <;> assumption) | (apply ql_cc <;> assumption) | (apply qt_cc <;> assumption) | (apply qp_cc <;> assumption) | (apply qi_cc <;> assumption) | (apply qn_cc <;> assumption) | (apply qf_cc <;> assumption) | (apply qw_cc <;> assumption) | (apply qh_cc <;> assumption) | (apply qy_cc <;> assumption) | (apply qq_cc <;> assumption) | (apply qr_cc <;> assumption) | (apply qb_cc <;> assumption) | (first | (apply is_true; and_intros <;> (first | rfl | assumption | (apply qx_cc <;> assumption) | (apply qj_cc <;> assumption) | (apply ql_cc <;> assumption) | (apply qt_cc <;> assumption) | (apply qp_cc <;> assumption) | (apply qi_cc <;> assumption) | (apply qn_cc <;> assumption) | (apply qf_cc <;> assumption) | (apply qw_cc <;> assumption) | (apply qh_cc <;> assumption) | (apply qy_cc <;> assumption) | (apply qq_cc <;> assumption) | (apply qr_cc <;> assumption) | (apply qb_cc <;> assumption) | (first | (apply is_true; and_intros <;> (first | rfl | assumption | (apply qx_cc <;> assumption) | (apply qj_cc <;> assumption) | (apply ql_cc <;> assumption) | (apply qt_cc <;> assumption) | (apply qp_cc <;> assumption) | (apply qi_cc <;> assumption) | (apply qn_cc <;> assumption) | (apply qf_cc <;> assumption) | (apply qw_cc <;> assumption) | (apply qh_cc <;> assumption) | (apply qy_cc <;> assumption) | (apply qq_cc <;> assumption) | (apply qr_cc <;> assumption) | (apply qb_cc <;> assumption) | (first | (apply is_true; and_intros <;> (first | rfl | assumption | (apply qx_cc <;> assumption) | (apply qj_cc <;> assumption) | (apply ql_cc <;> assumption) | (apply qt_cc <;> assumption) | (apply qp_cc <;> assumption) | (apply qi_cc <;> assumption) | (apply qn_cc <;> assumption) | (apply qf_cc <;> assumption) | (apply qw_cc <;> assumption) | (apply qh_cc <;> assumption) | (apply qy_cc <;> assumption) | (apply qq_cc <;> assumption) | (apply qr_cc <;> assumption) | (apply qb_cc <;> assumption))) | (apply qx_cc <;> assumption) | (apply qj_cc <;> assumption) | (apply ql_cc <;> assumption) | (apply qt_cc <;> assumption) | (apply qp_cc <;> assumption) | (apply qi_cc <;> assumption) | (apply qn_cc <;> assumption) | (apply qf_cc <;> assumption) | (apply qw_cc <;> assumption) | (apply qh_cc <;> assumption) | (apply qy_cc <;> assumption) | (apply qq_cc <;> assumption) | (apply qr_cc <;> assumption) | (apply qb_cc <;> assumption)))) | (apply qx_cc <;> assumption) | (apply qj_cc <;> assumption) | (apply ql_cc <;> assumption) | (apply qt_cc <;> assumption) | (apply qp_cc <;> assumption) | (apply qi_cc <;> assumption) | (apply qn_cc <;> assumption) | (apply qf_cc <;> assumption) | (apply qw_cc <;> assumption) | (apply qh_cc <;> assumption) | (apply qy_cc <;> assumption) | (apply qq_cc <;> assumption) | (apply qr_cc <;> assumption) | (apply qb_cc <;> assumption)))) | (apply qx_cc <;> assumption) | (apply qj_cc <;> assumption) | (apply ql_cc <;> assumption) | (apply qt_cc <;> assumption) | (apply qp_cc <;> assumption) | (apply qi_cc <;> assumption) | (apply qn_cc <;> assumption) | (apply qf_cc <;> assumption) | (apply qw_cc <;> assumption) | (apply qh_cc <;> assumption) | (apply qy_cc <;> assumption) | (apply qq_cc <;> assumption) | (apply qr_cc <;> assumption) | (apply qb_cc <;> assumption)))) | (apply qx_cc <;> assumption) | (apply qj_cc <;> assumption) | (apply ql_cc <;> assumption) | (apply qt_cc <;> assumption) | (apply qp_cc <;> assumption) | (apply qi_cc <;> assumption) | (apply qn_cc <;> assumption) | (apply qf_cc <;> assumption) | (apply qw_cc <;> assumption) | (apply qh_cc <;> assumption) | (apply qy_cc <;> assumption) | (apply qq_cc <;> assumption) | (apply qr_cc <;> assumption) | (apply qb_cc <;> assumption)) ?_
      refine Tr.b2 (fun hP => ?_) (fun _ => rfl)
      rw [Tr.val_ok, wrap64 (i := (i : Int) + 1) (by omega) (by omega)]; rfl
    · show (qg_2_step A cap0 (A.length : Int) (A.length : Int)).val = _
      refine Tr.n (by simp) ?_
      rfl
  simp only [qg_2_fin, Told.val] at h
  cases hk : A.all (fun x => !(qbf_v ((nth x 0).list) cap0)) with
  | true =>
    rw [if_pos (show qg_k2_1 A cap0 m i = true from hk)] at h
    split at h
    · rename_i ho
      obtain ⟨rfl, ht, rfl⟩ := is_iff.1 ho
      cases h
      refine ⟨_, (key ht).trans ?_⟩
      rw [hk]; rfl
    · cases h
  | false =>
    rw [if_neg (show ¬qg_k2_1 A cap0 m i = true from by rw [show qg_k2_1 A cap0 m i = (A.all (fun x => !(qbf_v ((nth x 0).list) cap0))) from rfl, hk]; simp)] at h
    split at h
    · rename_i ho
      obtain ⟨rfl, ht, rfl⟩ := is_iff.1 ho
      cases h
      refine ⟨_, (key ht).trans ?_⟩
      rw [hk]; rfl
    · cases h
theorem qg_is2 : LoopIs tab FT D49 live 67 qg_lo 0 2 := by
  refine loop_told (sl := qg_2_sl) (step := qg_2_st) (out := qg_2_out) (lor := qg_lo2) (fin := fun x => (qg_2_fin (x.1) (x.2.1) (x.2.2.1) (x.2.2.2))) (fun _ => rfl) ?_ (fun x n => qg_2_r x.1 x.2.1 x.2.2.1 x.2.2.2 n) (fun x ow => qg_2_h x.1 x.2.1 x.2.2.1 x.2.2.2 ow)
  intro s t h
  unfold qg_lo2 at h
  split at h
  · cases h; exact ⟨(_, _, _, _), rfl, rfl⟩
  · cases h
def qg_t (A : LL) (cap0 : List TC) : Tr (Int) := (.ite ((qg_k2_1 A cap0 (A.length : Int) (0 : Int)) = true) (.ite ((qg_o2_2 A cap0 (A.length : Int) (0 : Int)) = true) (.ok (-1 : Int))
   .no)
  (.ite ((qg_o2_3 A cap0 (A.length : Int) (0 : Int)) = true) (.ok (qg_u2_3 A cap0 (A.length : Int) (0 : Int)))
   .no))
def qg_mk (p : Int) : Res := [(false, [⟨.int .i64, .sh, TC.i p⟩])]
def qg_c (A : LL) (cap0 : List TC) : Bool := is (Typed tab (.slice 62) (.l A))
def qg_v (A : LL) (cap0 : List TC) : Int := if (A.all (fun x => !(qbf_v ((nth x 0).list) cap0))) = true then -1 else (Int.ofNat (A.findIdx fun x => !(fun x => !(qbf_v ((nth x 0).list) cap0)) x))
theorem qg_l (A : LL) (cap0 : List TC) : (qg_c A cap0) = true → (qg_t A cap0).val = some (qg_v A cap0) := by
  intro h
  have ht := is_iff.1 h
  unfold qg_t
  cases hk : A.all (fun x => !(qbf_v ((nth x 0).list) cap0)) with
  | true =>
    refine Tr.t (show A.all (fun x => !(qbf_v ((nth x 0).list) cap0)) = true from hk) ?_
    refine Tr.t (is_true ⟨rfl, ht, rfl⟩) ?_
    show _ = some (qg_v A cap0); unfold qg_v; rw [if_pos hk]; rfl
  | false =>
    refine Tr.n (show ¬A.all (fun x => !(qbf_v ((nth x 0).list) cap0)) = true from by rw [hk]; simp) ?_
    refine Tr.t (is_true ⟨rfl, ht, rfl⟩) ?_
    show _ = some (qg_v A cap0); unfold qg_v; rw [if_neg (by rw [hk]; simp)]; rfl
def qg_S : List Arg → Option (Bool × Res) := fun xs => match xs with
  | [(false, [(.slice 62, TC.l A)]), (false, [(.func, TC.f 59 [(3, cap0)])])] => some ((qg_c A cap0), qg_mk (qg_v A cap0))
  | _ => .none
theorem qg_e (A : LL) (cap0 : List TC) : runF tab FT D49 live 67 qg_lo [(false, [(.slice 62, TC.l A)]), (false, [(.func, TC.f 59 [(3, cap0)])])] = (qg_t A cap0).run fun p => some (qg_mk p) := by kernel_rfl
theorem qg_s : ∀ xs r, qg_S xs = some (true, r) → runF tab FT D49 live 67 qg_lo xs = some r := by
  intro xs r h
  unfold qg_S at h
  split at h
  · obtain ⟨h1, rfl⟩ := sp h
    exact fun_told (qg_e ..) (qg_l _ _) h1
  · cases h
def D50 : Dt := also D49 67 qg_S
theorem d50 : DOk Go.Proofs.Tryd.prog tab D50 := d49.also mixed_ok tab_ok names_ok (fnLoops_one (by kernel_rfl) qg_is2) qg_s
def qbg_t (A : LL) (cap0 : List TC) : Tr (Bool) := (.ite ((qg_c A cap0) = true) (.ok (decide ((qg_v A cap0) ≥ (0 : Int))))
  .no)
def qbg_mk (p : Bool) : Res := [(false, [⟨.bool, .sh, TC.b p⟩])]
def qbg_c (A : LL) (cap0 : List TC) : Bool := is (Typed tab (.slice 62) (.l A))
def qbg_v (A : LL) (cap0 : List TC) : Bool := !(A.all (fun x => !(qbf_v ((nth x 0).list) cap0)))
theorem qbg_l (A : LL) (cap0 : List TC) : (qbg_c A cap0) = true → (qbg_t A cap0).val = some (qbg_v A cap0) := by
  intro h
  have ht := is_iff.1 h
  unfold qbg_t
  refine Tr.t (is_true ht) ?_
  show some (decide (qg_v A cap0 ≥ 0)) = some (!(A.all (fun x => !(qbf_v ((nth x 0).list) cap0))))
  unfold qg_v
  cases hk : A.all (fun x => !(qbf_v ((nth x 0).list) cap0)) <;> simp
def qbg_S : List Arg → Option (Bool × Res) := fun xs => match xs with
  | [(false, [(.slice 62, TC.l A)]), (false, [(.func, TC.f 59 [(3, cap0)])])] => some ((qbg_c A cap0), qbg_mk (qbg_v A cap0))
  | _ => .none
theorem qbg_e (A : LL) (cap0 : List TC) : runF tab FT D50 live 58 noLoops [(false, [(.slice 62, TC.l A)]), (false, [(.func, TC.f 59 [(3, cap0)])])] = (qbg_t A cap0).run fun p => some (qbg_mk p) := by kernel_rfl
theorem qbg_s : ∀ xs r, qbg_S xs = some (true, r) → runF tab FT D50 live 58 noLoops xs = some r := by
  intro xs r h
  unfold qbg_S at h
  split at h
  · obtain ⟨h1, rfl⟩ := sp h
    exact fun_told (qbg_e ..) (qbg_l _ _) h1
  · cases h
def D51 : Dt := also D50 58 qbg_S
theorem d51 : DOk Go.Proofs.Tryd.prog tab D51 := d50.also mixed_ok tab_ok names_ok noLoops_ok qbg_s
def qd_t (k : Int) (A S C B P : LL) : Tr (Bool) := (.ite ((!(qcf_v (P.length : Int) (1 : Int) (24 : Int))) = true) (.ok false)
  (.ite ((0 : Int) ≤ (0 : Int) ∧ (0 : Int) < (P.length : Int)) (.ite ((decide ((((nth (row P (0 : Int)) 0).list).length : Int) ≤ (3 : Int))) = true) (.ite ((qbg_c P [TC.i (((nth (row P (0 : Int)) 0).list).length : Int)]) = true) (.ok (!(qbg_v P [TC.i (((nth (row P (0 : Int)) 0).list).length : Int)])))
     .no)
    (.ok false))
   .no))
def qd_mk (p : Bool) : Res := [(false, [⟨.bool, .sh, TC.b p⟩])]
def qd_c (k : Int) (A S C B P : LL) : Bool := (bif (!(qcf_v (P.length : Int) (1 : Int) (24 : Int))) then true else (is ((0 : Int) ≤ (0 : Int) ∧ (0 : Int) < (P.length : Int)) && (bif (decide ((((nth (row P (0 : Int)) 0).list).length : Int) ≤ (3 : Int))) then ((qbg_c P [TC.i (((nth (row P (0 : Int)) 0).list).length : Int)]) && true) else true)))
def qd_v (k : Int) (A S C B P : LL) : Bool := (bif (!(qcf_v (P.length : Int) (1 : Int) (24 : Int))) then false else (bif (decide ((((nth (row P (0 : Int)) 0).list).length : Int) ≤ (3 : Int))) then (!(qbg_v P [TC.i (((nth (row P (0 : Int)) 0).list).length : Int)])) else false))
theorem qd_l (k : Int) (A S C B P : LL) : (qd_c k A S C B P) = true → (qd_t k A S C B P).val = some (qd_v k A S C B P) := by
  unfold qd_t qd_v qd_c
  exact fun h => (Tr.ss h (fun h => rfl) (fun h => (Tr.gs h fun h => (Tr.ss h (fun h => (Tr.gb h fun h => rfl)) (fun h => rfl)))))
def qd_S : List Arg → Option (Bool × Res) := fun xs => match xs with
  | [(true, [(.int .i64, TC.i k), (.slice 2, TC.l A), (.slice 2, TC.l S), (.slice 2, TC.l C), (.slice 2, TC.l B), (.slice 62, TC.l P)])] => some ((qd_c k A S C B P), qd_mk (qd_v k A S C B P))
  | _ => .none
theorem qd_e (k : Int) (A S C B P : LL) : runF tab FT D51 live 39 noLoops [(true, [(.int .i64, TC.i k), (.slice 2, TC.l A), (.slice 2, TC.l S), (.slice 2, TC.l C), (.slice 2, TC.l B), (.slice 62, TC.l P)])] = (qd_t k A S C B P).run fun p => some (qd_mk p) := by kernel_rfl
theorem qd_s : ∀ xs r, qd_S xs = some (true, r) → runF tab FT D51 live 39 noLoops xs = some r := by
  intro xs r h
  unfold qd_S at h
  split at h
  · obtain ⟨h1, rfl⟩ := sp h
    exact fun_told (qd_e ..) (qd_l _ _ _ _ _ _) h1
  · cases h
def D52 : Dt := also D51 39 qd_S
theorem d52 : DOk Go.Proofs.Tryd.prog tab D52 := d51.also mixed_ok tab_ok names_ok noLoops_ok qd_s
theorem qd_cc {k : Int} {A : LL} {S : LL} {C : LL} {B : LL} {P : LL} (hP : Typed tab (.slice 62) (.l P)) : (qd_c k A S C B P) = true := by
  unfold qd_c
  refine bifT (fun b1 => ?_) (fun b1 => ?_)
  · skip
    rfl
  · skip
    refine andT (is_true (by have h := notF b1; unfold qcf_v at h; cases hp : decide ((P.length : Int) ≥ 1) with | true => (have := of_decide_eq_true hp; omega) | false => (rw [hp] at h; cases h))) ?_
    refine bifT (fun b2 => ?_) (fun b2 => ?_)
    · skip
      refine andT (by exact is_true hP) ?_
      rfl
    · skip
      rfl
theorem qd_vv (k : Int) (A S C B P : LL) : qd_v k A S C B P = ptsV P := by
  unfold qd_v qbg_v ptsV
  rw [show (fun x : List TC => !(qbf_v (nth x 0).list [TC.i (((nth (row P (0 : Int)) 0).list).length : Int)])) = ptB (pAt P 0).length from by
    funext x
    unfold qbf_v ptB
    rw [show qbp_v (nth x 0).list 0 39 = atB (nth x 0).list from by
      unfold atB
      rw [show (fun t : Nat => inZ (kAt (nth x 0).list (t : Int)) 0 39) = fun t : Nat => inR 0 39 (row (nth x 0).list (t : Int)) from rfl, allI_rows]
      show (!(!((nth x 0).list.all (inR 0 39)))) = _
      rw [Bool.not_not], show ((((nth x 0).list).length : Int) == (nth [TC.i (((nth (row P (0 : Int)) 0).list).length : Int)] 0).int) = ((nth x 0).list.length == (pAt P 0).length) from lenI]
    generalize ((nth x 0).list.length == (pAt P 0).length) = p0, atB (nth x 0).list = p1
    cases p0 <;> cases p1 <;> rfl]
  rw [show qcf_v (P.length : Int) 1 24 = (decide (1 ≤ P.length) && decide (P.length ≤ 24)) from by
    show (bif decide ((P.length : Int) ≥ 1) then decide ((P.length : Int) ≤ 24) else false) = _
    rw [show decide ((P.length : Int) ≥ 1) = decide (1 ≤ P.length) from decide_eq_decide.2 (by omega), show decide ((P.length : Int) ≤ 24) = decide (P.length ≤ 24) from decide_eq_decide.2 (by omega)]
    cases decide (1 ≤ P.length) <;> rfl, show decide ((((nth (row P (0 : Int)) 0).list).length : Int) ≤ (3 : Int)) = decide ((pAt P 0).length ≤ 3) from decide_eq_decide.2 (by unfold pAt; omega)]
  generalize (decide (1 ≤ P.length) && decide (P.length ≤ 24)) = p0, decide ((pAt P 0).length ≤ 3) = p1, P.all (ptB (pAt P 0).length) = p2
  cases p0 <;> cases p1 <;> cases p2 <;> rfl
def qo_t (k : Int) (A S C B P : LL) : Tr (Bool) := (.ite ((qbr_c k [] [] [] [] P k A S C B P) = true) (.ite ((k == (1 : Int)) = true) (.ite ((qbr_v k [] [] [] [] P k A S C B P) = true) (.ok ((P.length : Int) == (0 : Int)))
    (.ok false))
   (.ite ((k == (2 : Int)) = true) (.ite ((qbr_v k [] [] [] [] P k A S C B P) = true) (.ok ((P.length : Int) == (0 : Int)))
     (.ok false))
    (.ite ((k == (3 : Int)) = true) (.ite (((P.length : Int) == (0 : Int)) = true) (.ite ((qb_c k A S C B P) = true) (.ok (qb_v k A S C B P))
       .no)
      (.ok false))
     (.ite ((k == (4 : Int)) = true) (.ite ((qbr_v k [] [] [] [] P k A S C B P) = true) (.ite ((qd_c k A S C B P) = true) (.ok (qd_v k A S C B P))
        .no)
       (.ok false))
      (.ok false)))))
  .no)
def qo_mk (p : Bool) : Res := [(false, [⟨.bool, .sh, TC.b p⟩])]
def qo_c (k : Int) (A S C B P : LL) : Bool := ((qbr_c k [] [] [] [] P k A S C B P) && (bif (k == (1 : Int)) then (bif (qbr_v k [] [] [] [] P k A S C B P) then true else true) else (bif (k == (2 : Int)) then (bif (qbr_v k [] [] [] [] P k A S C B P) then true else true) else (bif (k == (3 : Int)) then (bif ((P.length : Int) == (0 : Int)) then ((qb_c k A S C B P) && true) else true) else (bif (k == (4 : Int)) then (bif (qbr_v k [] [] [] [] P k A S C B P) then ((qd_c k A S C B P) && true) else true) else true)))))
def qo_v (k : Int) (A S C B P : LL) : Bool := (bif (k == (1 : Int)) then (bif (qbr_v k [] [] [] [] P k A S C B P) then ((P.length : Int) == (0 : Int)) else false) else (bif (k == (2 : Int)) then (bif (qbr_v k [] [] [] [] P k A S C B P) then ((P.length : Int) == (0 : Int)) else false) else (bif (k == (3 : Int)) then (bif ((P.length : Int) == (0 : Int)) then (qb_v k A S C B P) else false) else (bif (k == (4 : Int)) then (bif (qbr_v k [] [] [] [] P k A S C B P) then (qd_v k A S C B P) else false) else false))))
theorem qo_l (k : Int) (A S C B P : LL) : (qo_c k A S C B P) = true → (qo_t k A S C B P).val = some (qo_v k A S C B P) := by
  unfold qo_t qo_v qo_c
  intro h
  repeat' first | refine Tr.gb h fun h => ?_ | refine Tr.gs h fun h => ?_ | refine Tr.ss h (fun h => ?_) fun h => ?_ | exact rfl
def qo_S : List Arg → Option (Bool × Res) := fun xs => match xs with
  | [(true, [(.int .i64, TC.i k), (.slice 2, TC.l A), (.slice 2, TC.l S), (.slice 2, TC.l C), (.slice 2, TC.l B), (.slice 62, TC.l P)])] => some ((qo_c k A S C B P), qo_mk (qo_v k A S C B P))
  | _ => .none
theorem qo_e (k : Int) (A S C B P : LL) : runF tab FT D52 live 25 noLoops [(true, [(.int .i64, TC.i k), (.slice 2, TC.l A), (.slice 2, TC.l S), (.slice 2, TC.l C), (.slice 2, TC.l B), (.slice 62, TC.l P)])] = (qo_t k A S C B P).run fun p => some (qo_mk p) := by kernel_rfl
theorem qo_s : ∀ xs r, qo_S xs = some (true, r) → runF tab FT D52 live 25 noLoops xs = some r := by
  intro xs r h
  unfold qo_S at h
  split at h
  · obtain ⟨h1, rfl⟩ := sp h
    exact fun_told (qo_e ..) (qo_l _ _ _ _ _ _) h1
  · cases h
def D53 : Dt := also D52 25 qo_S
theorem d53 : DOk Go.Proofs.Tryd.prog tab D53 := d52.also mixed_ok tab_ok names_ok noLoops_ok qo_s
theorem qo_cc {k : Int} {A : LL} {S : LL} {C : LL} {B : LL} {P : LL} (tA : Typed tab (.slice 2) (.l A)) (tS : Typed tab (.slice 2) (.l S)) (tC : Typed tab (.slice 2) (.l C)) (tB : Typed tab (.slice 2) (.l B)) (tP : Typed tab (.slice 62) (.l P)) : (qo_c k A S C B P) = true := by
  unfold qo_c
  refine andT (by exact qbr_cc (.slice _ _ (by simp) (by simp) (fun _ h => by cases h) (fun _ h => by cases h)) (.slice _ _ (by simp) (by simp) (fun _ h => by cases h) (fun _ h => by cases h)) (.slice _ _ (by simp) (by simp) (fun _ h => by cases h) (fun _ h => by cases h)) (.slice _ _ (by simp) (by simp) (fun _ h => by cases h) (fun _ h => by cases h)) tP) ?_
  refine bifT (fun b1 => ?_) (fun b1 => ?_)
  · skip
    refine bifT (fun b2 => ?_) (fun b2 => ?_)
    · skip
      rfl
    · skip
      rfl
  · skip
    refine bifT (fun b3 => ?_) (fun b3 => ?_)
    · skip
      refine bifT (fun b4 => ?_) (fun b4 => ?_)
      · skip
        rfl
      · skip
        rfl
    · skip
      refine bifT (fun b5 => ?_) (fun b5 => ?_)
      · skip
        refine bifT (fun b6 => ?_) (fun b6 => ?_)
        · skip
          refine andT (by exact qb_cc tA) ?_
          rfl
        · skip
          rfl
      · skip
        refine bifT (fun b7 => ?_) (fun b7 => ?_)
        · skip
          refine bifT (fun b8 => ?_) (fun b8 => ?_)
          · skip
            refine andT (by exact qd_cc tP) ?_
            rfl
          · skip
            rfl
        · skip
          rfl
theorem eqL_nil {A : LL} : eqL [] A = ((A.length : Int) == (0 : Int)) := by
  rw [Bool.eq_iff_iff, eqL_iff, beq_iff_eq]
  constructor
  · rintro rfl; rfl
  · intro h
    cases A with
    | nil => rfl
    | cons x y => simp at h; omega
theorem qo_q {k : Int} {A S C B P : LL} (tA : Typed tab (.slice 2) (.l A)) (tS : Typed tab (.slice 2) (.l S)) (tC : Typed tab (.slice 2) (.l C)) (tB : Typed tab (.slice 2) (.l B)) (tP : Typed tab (.slice 62) (.l P)) : qo_v k A S C B P = formV k A S C B P := by
  unfold qo_v
  rw [qbr_q (.slice _ _ (by simp) (by simp) (fun _ h => by cases h) (fun _ h => by cases h)) (.slice _ _ (by simp) (by simp) (fun _ h => by cases h) (fun _ h => by cases h)) (.slice _ _ (by simp) (by simp) (fun _ h => by cases h) (fun _ h => by cases h)) (.slice _ _ (by simp) (by simp) (fun _ h => by cases h) (fun _ h => by cases h)) tP tA tS tC tB tP, qb_vv, qd_vv, eq0]
  rw [show selV k [] [] [] [] P k A S C B P = plainB A S C B from by
    unfold selV plainB
    rw [eqL_nil, eqL_nil, eqL_nil, eqL_nil, eqL_refl, beq_self_eq_true]
    generalize ((A.length : Int) == (0 : Int)) = p0, ((S.length : Int) == (0 : Int)) = p1, ((C.length : Int) == (0 : Int)) = p2, ((B.length : Int) == (0 : Int)) = p3
    cases p0 <;> cases p1 <;> cases p2 <;> cases p3 <;> rfl]
  unfold formV
  generalize plainB A S C B = p0, decide (P.length = 0) = p1, slabV A S C B = p2, ptsV P = p3, (k == 1) = q1, (k == 2) = q2, (k == 3) = q3, (k == 4) = q4
  cases q1 <;> cases q2 <;> cases q3 <;> cases q4 <;> cases p0 <;> cases p1 <;> cases p2 <;> cases p3 <;> rfl
abbrev qz_3_σ := Int × LL × Int × Int
abbrev qz_3_ω := (LL)
def qz_3_step (n : Int) (X : LL) (m k : Int) : Tr (qz_3_σ ⊕ qz_3_ω) := (.ite ((decide (k < m)) = true) (.ite (0 ≤ (IntKind.wrap .i64 ((8 : Int) * k))) (.ite ((0 : Int) ≤ k ∧ k < (X.length : Int)) (.ok (.inl (n, (X.set (k).toNat (splice (row X k) 0 [TC.i (IntKind.wrap .u8 (Int.fdiv n (2 ^ (min ((IntKind.wrap .i64 ((8 : Int) * k))).toNat 64))))])), m, (IntKind.wrap .i64 (k + (1 : Int))))))
    .no)
   .no)
  (.ok (.inr X)))
def qz_3_st : qz_3_σ → Tr (qz_3_σ ⊕ qz_3_ω) := fun x => (qz_3_step (x.1) (x.2.1) (x.2.2.1) (x.2.2.2))
def qz_o3_1 (n : Int) (X : LL) (m k : Int) : Bool := is (∃ sz : Nat, m = (sz : Int) ∧ sz ≤ 8 ∧ X = List.replicate sz [TC.i 0] ∧ k = 0)
def qz_u3_1 (n : Int) (X : LL) (m k : Int) : LL := bRows n m.toNat
def qz_3_fin (n : Int) (X : LL) (m k : Int) : Told qz_3_ω := (.leaf (qz_o3_1 n X m k) (qz_u3_1 n X m k))
def qz_3_sl (x : qz_3_σ) : List Slot := [⟨.val false [⟨.int .i64, .sh, TC.i (x.1)⟩], ⟨0, 0⟩⟩, ⟨.val false [⟨.slice 5, .own true, TC.l (x.2.1)⟩], ⟨0, 0⟩⟩, ⟨.val false [⟨.int .i64, .sh, TC.i (x.2.2.1)⟩], ⟨0, 0⟩⟩, ⟨.val false [⟨.int .i64, .sh, TC.i (x.2.2.2)⟩], ⟨0, 0⟩⟩]
def qz_3_out : qz_3_ω → Ex × List Slot := (fun x => (.exit 0, [Slot.none, ⟨.val false [⟨.slice 5, .own true, TC.l x⟩], ⟨0, 0⟩⟩]))
def qz_lo3 : List Slot → Option (Told (Ex × List Slot)) := fun s => match s with
  | [⟨.val false [⟨.int .i64, .sh, TC.i n⟩], ⟨0, 0⟩⟩, ⟨.val false [⟨.slice 5, .own true, TC.l X⟩], ⟨0, 0⟩⟩, ⟨.val false [⟨.int .i64, .sh, TC.i m⟩], ⟨0, 0⟩⟩, ⟨.val false [⟨.int .i64, .sh, TC.i k⟩], ⟨0, 0⟩⟩] => some (((qz_3_fin n X m k)).map qz_3_out)
  | _ => .none
def qz_lo : LoopTeller := fun r s => bif Nat.beq r 3 then qz_lo3 s else .none
theorem qz_3_r (n : Int) (X : LL) (m k : Int) (fuel : Nat) : rounds (rnd tab FT D53 live 40 qz_lo 0 3) leave (fuel + 1) (qz_3_sl (n, X, m, k)) = ((qz_3_step n X m k)).run (goOn (fun s => rounds (rnd tab FT D53 live 40 qz_lo 0 3) leave fuel (qz_3_sl s)) fun w => some (qz_3_out w)) := by kernel_rfl
theorem qz_3_h (n : Int) (X : LL) (m k : Int) (ow : qz_3_ω) : ((qz_3_fin n X m k)).val = some ow → ∃ fuel, loopN qz_3_st fuel (n, X, m, k) = some ow := by
  intro h
  refine auto_leaf (R := bRows n m.toNat) (fun ho => ?_) h
  obtain ⟨sz, rfl, h8, rfl, rfl⟩ := is_iff.1 ho
  rw [wr_zero (n := n)]
  refine ⟨sz + 1, loopN_run (step := qz_3_st) (N := sz) (fun j => (n, (wr sz (bAt n) (fun _ => [TC.i 0]) (fun p => decide (p < j))), (sz : Int), (j : Int))) (fun j hj => ?_) ?_ sz 0 (by omega)⟩
  · have e := wr_step (L := sz) (p0 := j) (F := bAt n) (O := fun _ => [TC.i 0]) (vis := fun p => decide (p < j)) (vis' := fun p => decide (p < j + 1)) hj (fun _ => rfl) (fun _ => rfl) (fun p _ => by
      rw [Bool.eq_iff_iff]; simp only [Bool.or_eq_true, decide_eq_true_eq, beq_iff_eq]; omega)
    show (qz_3_step n (wr sz (bAt n) (fun _ => [TC.i 0]) (fun p => decide (p < j))) (sz : Int) (j : Int)).val = _
    unfold qz_3_step
    rw [bAt_i64 (by omega)]
    refine Tr.t (by simp; omega) ?_
    refine Tr.t (by rw [wrap64 (by omega) (by omega)]; omega) ?_
    refine Tr.t ⟨by omega, by rw [wr_len]; omega⟩ ?_
    rw [Tr.val_ok, wrap64 (i := (j : Int) + 1) (by omega) (by omega)]
    show some (Sum.inl (n, (wr sz (bAt n) (fun _ => [TC.i 0]) (fun p => decide (p < j))).set j (splice ((wr sz (bAt n) (fun _ => [TC.i 0]) (fun p => decide (p < j))).getD j []) 0 (bAt n j)), (sz : Int), ((j + 1 : Nat) : Int))) = _
    rw [e]
  · show (qz_3_step n (wr sz (bAt n) (fun _ => [TC.i 0]) (fun p => decide (p < sz))) (sz : Int) (sz : Int)).val = _
    refine Tr.n (by simp) ?_
    rw [wr_bRows]
    rfl
theorem qz_is3 : LoopIs tab FT D53 live 40 qz_lo 0 3 := by
  refine loop_told (sl := qz_3_sl) (step := qz_3_st) (out := qz_3_out) (lor := qz_lo3) (fin := fun x => (qz_3_fin (x.1) (x.2.1) (x.2.2.1) (x.2.2.2))) (fun _ => rfl) ?_ (fun x n => qz_3_r x.1 x.2.1 x.2.2.1 x.2.2.2 n) (fun x ow => qz_3_h x.1 x.2.1 x.2.2.1 x.2.2.2 ow)
  intro s t h
  unfold qz_lo3 at h
  split at h
  · cases h; exact ⟨(_, _, _, _), rfl, rfl⟩
  · cases h
def qz_t (n size : Int) : Tr (BS) := (.ite (0 ≤ size ∧ size ≤ size ∧ size * 1 ≤ 140737488355328 ∧ size ≤ 140737488355328) (.ite ((qz_o3_1 n (List.replicate (size).toNat [TC.i (0 : Int)]) ((List.replicate (size).toNat [TC.i (0 : Int)]).length : Int) (0 : Int)) = true) (.ok ((qz_u3_1 n (List.replicate (size).toNat [TC.i (0 : Int)]) ((List.replicate (size).toNat [TC.i (0 : Int)]).length : Int) (0 : Int)).map byteOf))
   .no)
  .no)
def qz_mk (p : BS) : Res := [(false, [⟨.str, .sh, TC.s p⟩])]
def qz_c (n size : Int) : Bool := is (∃ sz : Nat, size = (sz : Int) ∧ sz ≤ 8)
def qz_v (n size : Int) : BS := hid (bytesL n size.toNat)
theorem qz_l (n size : Int) : (qz_c n size) = true → (qz_t n size).val = some (qz_v n size) := by
  intro h
  obtain ⟨sz, rfl, h8⟩ := is_iff.1 h
  unfold qz_t
  refine Tr.t (by omega) ?_
  refine Tr.t (is_true ⟨sz, by simp, h8, rfl, rfl⟩) ?_
  unfold qz_v
  rw [hid_eq]; simp; rfl
def qz_S : List Arg → Option (Bool × Res) := fun xs => match xs with
  | [(false, [(.int .i64, TC.i n)]), (false, [(.int .i64, TC.i size)])] => some ((qz_c n size), qz_mk (qz_v n size))
  | _ => .none
theorem qz_e (n size : Int) : runF tab FT D53 live 40 qz_lo [(false, [(.int .i64, TC.i n)]), (false, [(.int .i64, TC.i size)])] = (qz_t n size).run fun p => some (qz_mk p) := by kernel_rfl
theorem qz_s : ∀ xs r, qz_S xs = some (true, r) → runF tab FT D53 live 40 qz_lo xs = some r := by
  intro xs r h
  unfold qz_S at h
  split at h
  · obtain ⟨h1, rfl⟩ := sp h
    exact fun_told (qz_e ..) (qz_l _ _) h1
  · cases h
def D54 : Dt := also D53 40 qz_S
theorem d54 : DOk Go.Proofs.Tryd.prog tab D54 := d53.also mixed_ok tab_ok names_ok (fnLoops_one (by kernel_rfl) qz_is3) qz_s
theorem qz_h {n size : Int} : qz_v n size = bytesL n size.toNat := hid_eq _
theorem qz_len {n : Int} {sz : Nat} : (qz_v n (sz : Int)).length = sz := by rw [qz_h]; exact bytesL_len
def qbc_t (s : BS) : Tr (BS) := (.ite ((qz_c (s.length : Int) (1 : Int)) = true) (.ite ((((qz_v (s.length : Int) (1 : Int)).length + s.length : Nat) : Int) ≤ 9223372036854775807) (.ok ((qz_v (s.length : Int) (1 : Int)) ++ s))
   .no)
  .no)
def qbc_mk (p : BS) : Res := [(false, [⟨.str, .sh, TC.s p⟩])]
def qbc_c (s : BS) : Bool := ((qz_c (s.length : Int) (1 : Int)) && (is ((((qz_v (s.length : Int) (1 : Int)).length + s.length : Nat) : Int) ≤ 9223372036854775807) && true))
def qbc_v (s : BS) : BS := ((qz_v (s.length : Int) (1 : Int)) ++ s)
theorem qbc_l (s : BS) : (qbc_c s) = true → (qbc_t s).val = some (qbc_v s) := by
  unfold qbc_t qbc_v qbc_c
  exact fun h => (Tr.gb h fun h => (Tr.gs h fun h => rfl))
def qbc_S : List Arg → Option (Bool × Res) := fun xs => match xs with
  | [(false, [(.str, TC.s s)])] => some ((qbc_c s), qbc_mk (qbc_v s))
  | _ => .none
theorem qbc_e (s : BS) : runF tab FT D54 live 26 noLoops [(false, [(.str, TC.s s)])] = (qbc_t s).run fun p => some (qbc_mk p) := by kernel_rfl
theorem qbc_s : ∀ xs r, qbc_S xs = some (true, r) → runF tab FT D54 live 26 noLoops xs = some r := by
  intro xs r h
  unfold qbc_S at h
  split at h
  · obtain ⟨h1, rfl⟩ := sp h
    exact fun_told (qbc_e _) (qbc_l _) h1
  · cases h
def D55 : Dt := also D54 26 qbc_S
theorem d55 : DOk Go.Proofs.Tryd.prog tab D55 := d54.also mixed_ok tab_ok names_ok noLoops_ok qbc_s
theorem qbc_cc {s : BS} (hs : s.length ≤ 140737488351232) : (qbc_c s) = true := by
  unfold qbc_c
  refine andT (by exact is_true ⟨1, rfl, by omega⟩) ?_
  refine andT (is_true (by rw [show (qz_v (s.length : Int) 1).length = 1 from qz_len (sz := 1)]; omega)) ?_
  rfl
theorem qbc_h {s : BS} : qbc_v s = bytesL (s.length : Int) 1 ++ s := by unfold qbc_v; rw [qz_h]; rfl
abbrev qbd_3_σ := BS × LL × Int × Int
abbrev qbd_3_ω := (BS)
def qbd_3_step (s : BS) (A : LL) (m i : Int) : Tr (qbd_3_σ ⊕ qbd_3_ω) := (.ite ((decide (i < m)) = true) (.ite ((0 : Int) ≤ i ∧ i < (A.length : Int)) (.ite ((qz_c ((nth (row A i) 0).int) (1 : Int)) = true) (.ite (fits (s.length + (qz_v ((nth (row A i) 0).int) (1 : Int)).length)) (.ok (.inl ((s ++ (qz_v ((nth (row A i) 0).int) (1 : Int))), A, m, (IntKind.wrap .i64 (i + (1 : Int))))))
     .no)
    .no)
   .no)
  (.ok (.inr s)))
def qbd_3_st : qbd_3_σ → Tr (qbd_3_σ ⊕ qbd_3_ω) := fun x => (qbd_3_step (x.1) (x.2.1) (x.2.2.1) (x.2.2.2))
def qbd_o3_1 (s : BS) (A : LL) (m i : Int) : Bool := is (s = [] ∧ m = (A.length : Int) ∧ i = 0 ∧ A.length ≤ 140737488351232)
def qbd_u3_1 (s : BS) (A : LL) (m i : Int) : BS := numBy A
def qbd_3_fin (s : BS) (A : LL) (m i : Int) : Told qbd_3_ω := (.leaf (qbd_o3_1 s A m i) (qbd_u3_1 s A m i))
def qbd_3_sl (x : qbd_3_σ) : List Slot := [⟨.bld 83 5 (x.1), ⟨0, 0⟩⟩, ⟨.val false [⟨.slice 2, .sh, TC.l (x.2.1)⟩], ⟨0, 0⟩⟩, ⟨.val false [⟨.int .i64, .sh, TC.i (x.2.2.1)⟩], ⟨0, 0⟩⟩, ⟨.val false [⟨.int .i64, .sh, TC.i (x.2.2.2)⟩], ⟨0, 0⟩⟩]
def qbd_3_out : qbd_3_ω → Ex × List Slot := (fun x => (.exit 0, [Slot.none, ⟨.bld 83 5 x, ⟨0, 0⟩⟩]))
def qbd_lo3 : List Slot → Option (Told (Ex × List Slot)) := fun s => match s with
  | [⟨.bld 83 5 s, ⟨0, 0⟩⟩, ⟨.val false [⟨.slice 2, .sh, TC.l A⟩], ⟨0, 0⟩⟩, ⟨.val false [⟨.int .i64, .sh, TC.i m⟩], ⟨0, 0⟩⟩, ⟨.val false [⟨.int .i64, .sh, TC.i i⟩], ⟨0, 0⟩⟩] => some (((qbd_3_fin s A m i)).map qbd_3_out)
  | _ => .none
def qbd_lo : LoopTeller := fun r s => bif Nat.beq r 3 then qbd_lo3 s else .none
theorem qbd_3_r (s : BS) (A : LL) (m i : Int) (fuel : Nat) : rounds (rnd tab FT D55 live 42 qbd_lo 0 3) leave (fuel + 1) (qbd_3_sl (s, A, m, i)) = ((qbd_3_step s A m i)).run (goOn (fun s => rounds (rnd tab FT D55 live 42 qbd_lo 0 3) leave fuel (qbd_3_sl s)) fun w => some (qbd_3_out w)) := by kernel_rfl
theorem qbd_3_h (s : BS) (A : LL) (m i : Int) (ow : qbd_3_ω) : ((qbd_3_fin s A m i)).val = some ow → ∃ fuel, loopN qbd_3_st fuel (s, A, m, i) = some ow := by
  intro h
  refine auto_leaf (R := numBy A) (fun ho => ?_) h
  obtain ⟨rfl, rfl, rfl, hl⟩ := is_iff.1 ho
  have key := loopN_run (step := qbd_3_st) (N := A.length) (fun j => (numBy (A.take j), A, (A.length : Int), (j : Int))) (w := numBy A) (fun j hj => ?_) ?_ A.length 0 (by omega)
  · exact ⟨_, key⟩
  · show (qbd_3_step (numBy (A.take j)) A (A.length : Int) (j : Int)).val = _
    unfold qbd_3_step
    have e1 : (qz_v ((nth (row A (j : Int)) 0).int) (1 : Int)).length = 1 := qz_len (sz := 1)
    have e2 : (numBy (A.take j)).length = j := by rw [numBy_len, List.length_take]; omega
    refine Tr.t (by simp; omega) (Tr.t (by omega) (Tr.t (is_true ⟨1, rfl, by omega⟩) (Tr.t (by unfold fits; omega) ?_)))
    rw [Tr.val_ok, wrap64 (i := (j : Int) + 1) (by omega) (by omega), List.take_succ_eq_append_getElem hj, numBy_app, numBy_x, qz_h, row_nat, getD_at hj]
    rfl
  · show (qbd_3_step (numBy (A.take A.length)) A (A.length : Int) (A.length : Int)).val = _
    unfold qbd_3_step
    rw [List.take_length]
    refine Tr.n (by simp) ?_
    rfl
theorem qbd_is3 : LoopIs tab FT D55 live 42 qbd_lo 0 3 := by
  refine loop_told (sl := qbd_3_sl) (step := qbd_3_st) (out := qbd_3_out) (lor := qbd_lo3) (fin := fun x => (qbd_3_fin (x.1) (x.2.1) (x.2.2.1) (x.2.2.2))) (fun _ => rfl) ?_ (fun x n => qbd_3_r x.1 x.2.1 x.2.2.1 x.2.2.2 n) (fun x ow => qbd_3_h x.1 x.2.1 x.2.2.1 x.2.2.2 ow)
  intro s t h
  unfold qbd_lo3 at h
  split at h
  · cases h; exact ⟨(_, _, _, _), rfl, rfl⟩
  · cases h
def qbd_t (A : LL) : Tr (BS) := (.ite ((qbd_o3_1 [] A (A.length : Int) (0 : Int)) = true) (.ok (qbd_u3_1 [] A (A.length : Int) (0 : Int)))
  .no)
def qbd_mk (p : BS) : Res := [(false, [⟨.str, .sh, TC.s p⟩])]
def qbd_c (A : LL) : Bool := is (A.length ≤ 140737488351232)
def qbd_v (A : LL) : BS := hid (numBy A)
theorem qbd_l (A : LL) : (qbd_c A) = true → (qbd_t A).val = some (qbd_v A) := by
  intro h
  have hl := is_iff.1 h
  unfold qbd_t
  refine Tr.t (is_true ⟨rfl, rfl, rfl, hl⟩) ?_
  unfold qbd_v
  rw [hid_eq]; rfl
def qbd_S : List Arg → Option (Bool × Res) := fun xs => match xs with
  | [(false, [(.slice 2, TC.l A)])] => some ((qbd_c A), qbd_mk (qbd_v A))
  | _ => .none
theorem qbd_e (A : LL) : runF tab FT D55 live 42 qbd_lo [(false, [(.slice 2, TC.l A)])] = (qbd_t A).run fun p => some (qbd_mk p) := by kernel_rfl
theorem qbd_s : ∀ xs r, qbd_S xs = some (true, r) → runF tab FT D55 live 42 qbd_lo xs = some r := by
  intro xs r h
  unfold qbd_S at h
  split at h
  · obtain ⟨h1, rfl⟩ := sp h
    exact fun_told (qbd_e _) (qbd_l _) h1
  · cases h
def D56 : Dt := also D55 42 qbd_S
theorem d56 : DOk Go.Proofs.Tryd.prog tab D56 := d55.also mixed_ok tab_ok names_ok (fnLoops_one (by kernel_rfl) qbd_is3) qbd_s
theorem qbd_h {A : LL} : qbd_v A = numBy A := hid_eq _
theorem qbd_cc {A : LL} (h : A.length ≤ 140737488351232) : qbd_c A = true := is_true h
abbrev qc_13_σ := Int × LL × LL × LL × LL × LL × BS × LL × Int × Int
abbrev qc_13_ω := (BS)
def qc_13_step (k : Int) (A S C B P : LL) (s : BS) (X : LL) (m i : Int) : Tr (qc_13_σ ⊕ qc_13_ω) := (.ite ((decide (i < m)) = true) (.ite ((0 : Int) ≤ i ∧ i < (X.length : Int)) (.ite ((qbd_c ((nth (row X i) 0).list)) = true) (.ite (((s.length + (qbd_v ((nth (row X i) 0).list)).length : Nat) : Int) ≤ 9223372036854775807) (.ok (.inl (k, A, S, C, B, P, (s ++ (qbd_v ((nth (row X i) 0).list))), X, m, (IntKind.wrap .i64 (i + (1 : Int))))))
     .no)
    .no)
   .no)
  (.ok (.inr s)))
def qc_13_st : qc_13_σ → Tr (qc_13_σ ⊕ qc_13_ω) := fun x => (qc_13_step (x.1) (x.2.1) (x.2.2.1) (x.2.2.2.1) (x.2.2.2.2.1) (x.2.2.2.2.2.1) (x.2.2.2.2.2.2.1) (x.2.2.2.2.2.2.2.1) (x.2.2.2.2.2.2.2.2.1) (x.2.2.2.2.2.2.2.2.2))
def qc_o13_1 (k : Int) (A S C B P : LL) (s : BS) (X : LL) (m i : Int) : Bool := is (i = 0 ∧ s.length ≤ 8 ∧ X.length ≤ 64 ∧ At3 X ∧ m = (X.length : Int))
def qc_u13_1 (k : Int) (A S C B P : LL) (s : BS) (X : LL) (m i : Int) : BS := s ++ allBy X
def qc_13_fin (k : Int) (A S C B P : LL) (s : BS) (X : LL) (m i : Int) : Told qc_13_ω := (.leaf (qc_o13_1 k A S C B P s X m i) (qc_u13_1 k A S C B P s X m i))
def qc_13_sl (x : qc_13_σ) : List Slot := [⟨.bx 32 [⟨.int .i64, .sh, TC.i (x.1)⟩, ⟨.slice 2, .sh, TC.l (x.2.1)⟩, ⟨.slice 2, .sh, TC.l (x.2.2.1)⟩, ⟨.slice 2, .sh, TC.l (x.2.2.2.1)⟩, ⟨.slice 2, .sh, TC.l (x.2.2.2.2.1)⟩, ⟨.slice 62, .sh, TC.l (x.2.2.2.2.2.1)⟩], ⟨0, 0⟩⟩, ⟨.val false [⟨.str, .sh, TC.s (x.2.2.2.2.2.2.1)⟩], ⟨0, 0⟩⟩, ⟨.val false [⟨.slice 62, .sh, TC.l (x.2.2.2.2.2.2.2.1)⟩], ⟨0, 0⟩⟩, ⟨.val false [⟨.int .i64, .sh, TC.i (x.2.2.2.2.2.2.2.2.1)⟩], ⟨0, 0⟩⟩, ⟨.val false [⟨.int .i64, .sh, TC.i (x.2.2.2.2.2.2.2.2.2)⟩], ⟨0, 0⟩⟩]
def qc_13_out : qc_13_ω → Ex × List Slot := (fun x => (.exit 3, [Slot.none, ⟨.val false [⟨.str, .sh, TC.s x⟩], ⟨0, 0⟩⟩]))
def qc_lo13 : List Slot → Option (Told (Ex × List Slot)) := fun s => match s with
  | [⟨.bx 32 [⟨.int .i64, .sh, TC.i k⟩, ⟨.slice 2, .sh, TC.l A⟩, ⟨.slice 2, .sh, TC.l S⟩, ⟨.slice 2, .sh, TC.l C⟩, ⟨.slice 2, .sh, TC.l B⟩, ⟨.slice 62, .sh, TC.l P⟩], ⟨0, 0⟩⟩, ⟨.val false [⟨.str, .sh, TC.s s⟩], ⟨0, 0⟩⟩, ⟨.val false [⟨.slice 62, .sh, TC.l X⟩], ⟨0, 0⟩⟩, ⟨.val false [⟨.int .i64, .sh, TC.i m⟩], ⟨0, 0⟩⟩, ⟨.val false [⟨.int .i64, .sh, TC.i i⟩], ⟨0, 0⟩⟩] => some (((qc_13_fin k A S C B P s X m i)).map qc_13_out)
  | _ => .none
abbrev qc_6_σ := BS × LL × Int × Int
abbrev qc_6_ω := (BS)
def qc_6_step (s : BS) (X : LL) (m i : Int) : Tr (qc_6_σ ⊕ qc_6_ω) := (.ite ((decide (i < m)) = true) (.ite ((0 : Int) ≤ i ∧ i < (X.length : Int)) (.ite ((qbd_c ((nth (row X i) 0).list)) = true) (.ite (((s.length + (qbd_v ((nth (row X i) 0).list)).length : Nat) : Int) ≤ 9223372036854775807) (.ok (.inl ((s ++ (qbd_v ((nth (row X i) 0).list))), X, m, (IntKind.wrap .i64 (i + (1 : Int))))))
     .no)
    .no)
   .no)
  (.ok (.inr s)))
def qc_6_st : qc_6_σ → Tr (qc_6_σ ⊕ qc_6_ω) := fun x => (qc_6_step (x.1) (x.2.1) (x.2.2.1) (x.2.2.2))
def qc_o6_1 (s : BS) (X : LL) (m i : Int) : Bool := is (i = 0 ∧ s.length ≤ 8 ∧ X.length ≤ 64 ∧ At3 X ∧ m = (X.length : Int))
def qc_u6_1 (s : BS) (X : LL) (m i : Int) : BS := s ++ allBy X
def qc_6_fin (s : BS) (X : LL) (m i : Int) : Told qc_6_ω := (.leaf (qc_o6_1 s X m i) (qc_u6_1 s X m i))
def qc_6_sl (x : qc_6_σ) : List Slot := [⟨.val false [⟨.str, .sh, TC.s (x.1)⟩], ⟨0, 0⟩⟩, ⟨.val false [⟨.slice 22, .own false, TC.l (x.2.1)⟩], ⟨0, 0⟩⟩, ⟨.val false [⟨.int .i64, .sh, TC.i (x.2.2.1)⟩], ⟨0, 0⟩⟩, ⟨.val false [⟨.int .i64, .sh, TC.i (x.2.2.2)⟩], ⟨0, 0⟩⟩]
def qc_6_out : qc_6_ω → Ex × List Slot := (fun x => (.exit 1, [Slot.none, ⟨.val false [⟨.str, .sh, TC.s x⟩], ⟨0, 0⟩⟩]))
def qc_lo6 : List Slot → Option (Told (Ex × List Slot)) := fun s => match s with
  | [⟨.val false [⟨.str, .sh, TC.s s⟩], ⟨0, 0⟩⟩, ⟨.val false [⟨.slice 22, .own false, TC.l X⟩], ⟨0, 0⟩⟩, ⟨.val false [⟨.int .i64, .sh, TC.i m⟩], ⟨0, 0⟩⟩, ⟨.val false [⟨.int .i64, .sh, TC.i i⟩], ⟨0, 0⟩⟩] => some (((qc_6_fin s X m i)).map qc_6_out)
  | _ => .none
def qc_lo : LoopTeller := fun r s => bif Nat.beq r 6 then qc_lo6 s else bif Nat.beq r 13 then qc_lo13 s else .none
theorem qc_13_r (k : Int) (A S C B P : LL) (s : BS) (X : LL) (m i : Int) (fuel : Nat) : rounds (rnd tab FT D56 live 27 qc_lo 1 13) leave (fuel + 1) (qc_13_sl (k, A, S, C, B, P, s, X, m, i)) = ((qc_13_step k A S C B P s X m i)).run (goOn (fun s => rounds (rnd tab FT D56 live 27 qc_lo 1 13) leave fuel (qc_13_sl s)) fun w => some (qc_13_out w)) := by kernel_rfl
theorem qc_13_h (k : Int) (A S C B P : LL) (s : BS) (X : LL) (m i : Int) (ow : qc_13_ω) : ((qc_13_fin k A S C B P s X m i)).val = some ow → ∃ fuel, loopN qc_13_st fuel (k, A, S, C, B, P, s, X, m, i) = some ow := by
  intro h
  refine auto_leaf (R := s ++ allBy X) (fun ho => ?_) h
  obtain ⟨rfl, hs, hl, hp, rfl⟩ := is_iff.1 ho
  have key := loopN_run (step := qc_13_st) (N := X.length) (fun j => (k, A, S, C, B, P, s ++ allBy (X.take j), X, (X.length : Int), (j : Int))) (w := s ++ allBy X) (fun j hj => ?_) ?_ X.length 0 (by omega)
  · rw [List.take_zero, show allBy [] = [] from rfl, List.append_nil] at key
    exact ⟨_, key⟩
  · show (qc_13_step k A S C B P (s ++ allBy (X.take j)) X (X.length : Int) (j : Int)).val = _
    unfold qc_13_step
    have e1 := allBy_take hp j
    have e2 : (nth (row X (j : Int)) 0).list.length ≤ 3 := hp _ (by rw [row_nat]; exact mem_getD hj)
    have e3 : (qbd_v ((nth (row X (j : Int)) 0).list)).length = (nth (row X (j : Int)) 0).list.length := by rw [qbd_h]; exact numBy_len
    refine Tr.t (by simp; omega) (Tr.t (by omega) (Tr.t (qbd_cc (by omega)) (Tr.t (by simp only [List.length_append]; omega) ?_)))
    rw [Tr.val_ok, wrap64 (i := (j : Int) + 1) (by omega) (by omega), allBy_snoc hj, List.append_assoc, qbd_h]
    rfl
  · show (qc_13_step k A S C B P (s ++ allBy (X.take X.length)) X (X.length : Int) (X.length : Int)).val = _
    unfold qc_13_step
    rw [List.take_length]
    refine Tr.n (by simp) ?_
    rfl
theorem qc_is13 : LoopIs tab FT D56 live 27 qc_lo 1 13 := by
  refine loop_told (sl := qc_13_sl) (step := qc_13_st) (out := qc_13_out) (lor := qc_lo13) (fin := fun x => (qc_13_fin (x.1) (x.2.1) (x.2.2.1) (x.2.2.2.1) (x.2.2.2.2.1) (x.2.2.2.2.2.1) (x.2.2.2.2.2.2.1) (x.2.2.2.2.2.2.2.1) (x.2.2.2.2.2.2.2.2.1) (x.2.2.2.2.2.2.2.2.2))) (fun _ => rfl) ?_ (fun x n => qc_13_r x.1 x.2.1 x.2.2.1 x.2.2.2.1 x.2.2.2.2.1 x.2.2.2.2.2.1 x.2.2.2.2.2.2.1 x.2.2.2.2.2.2.2.1 x.2.2.2.2.2.2.2.2.1 x.2.2.2.2.2.2.2.2.2 n) (fun x ow => qc_13_h x.1 x.2.1 x.2.2.1 x.2.2.2.1 x.2.2.2.2.1 x.2.2.2.2.2.1 x.2.2.2.2.2.2.1 x.2.2.2.2.2.2.2.1 x.2.2.2.2.2.2.2.2.1 x.2.2.2.2.2.2.2.2.2 ow)
  intro s t h
  unfold qc_lo13 at h
  split at h
  · cases h; exact ⟨(_, _, _, _, _, _, _, _, _, _), rfl, rfl⟩
  · cases h
theorem qc_6_r (s : BS) (X : LL) (m i : Int) (fuel : Nat) : rounds (rnd tab FT D56 live 27 qc_lo 0 6) leave (fuel + 1) (qc_6_sl (s, X, m, i)) = ((qc_6_step s X m i)).run (goOn (fun s => rounds (rnd tab FT D56 live 27 qc_lo 0 6) leave fuel (qc_6_sl s)) fun w => some (qc_6_out w)) := by kernel_rfl
theorem qc_6_h (s : BS) (X : LL) (m i : Int) (ow : qc_6_ω) : ((qc_6_fin s X m i)).val = some ow → ∃ fuel, loopN qc_6_st fuel (s, X, m, i) = some ow := by
  intro h
  refine auto_leaf (R := s ++ allBy X) (fun ho => ?_) h
  obtain ⟨rfl, hs, hl, hp, rfl⟩ := is_iff.1 ho
  have key := loopN_run (step := qc_6_st) (N := X.length) (fun j => (s ++ allBy (X.take j), X, (X.length : Int), (j : Int))) (w := s ++ allBy X) (fun j hj => ?_) ?_ X.length 0 (by omega)
  · rw [List.take_zero, show allBy [] = [] from rfl, List.append_nil] at key
    exact ⟨_, key⟩
  · show (qc_6_step (s ++ allBy (X.take j)) X (X.length : Int) (j : Int)).val = _
    unfold qc_6_step
    have e1 := allBy_take hp j
    have e2 : (nth (row X (j : Int)) 0).list.length ≤ 3 := hp _ (by rw [row_nat]; exact mem_getD hj)
    have e3 : (qbd_v ((nth (row X (j : Int)) 0).list)).length = (nth (row X (j : Int)) 0).list.length := by rw [qbd_h]; exact numBy_len
    refine Tr.t (by simp; omega) (Tr.t (by omega) (Tr.t (qbd_cc (by omega)) (Tr.t (by simp only [List.length_append]; omega) ?_)))
    rw [Tr.val_ok, wrap64 (i := (j : Int) + 1) (by omega) (by omega), allBy_snoc hj, List.append_assoc, qbd_h]
    rfl
  · show (qc_6_step (s ++ allBy (X.take X.length)) X (X.length : Int) (X.length : Int)).val = _
    unfold qc_6_step
    rw [List.take_length]
    refine Tr.n (by simp) ?_
    rfl
theorem qc_is6 : LoopIs tab FT D56 live 27 qc_lo 0 6 := by
  refine loop_told (sl := qc_6_sl) (step := qc_6_st) (out := qc_6_out) (lor := qc_lo6) (fin := fun x => (qc_6_fin (x.1) (x.2.1) (x.2.2.1) (x.2.2.2))) (fun _ => rfl) ?_ (fun x n => qc_6_r x.1 x.2.1 x.2.2.1 x.2.2.2 n) (fun x ow => qc_6_h x.1 x.2.1 x.2.2.1 x.2.2.2 ow)
  intro s t h
  unfold qc_lo6 at h
  split at h
  · cases h; exact ⟨(_, _, _, _), rfl, rfl⟩
  · cases h
def qc_t (k : Int) (A S C B P : LL) : Tr (BS) := (.ite ((qz_c k (1 : Int)) = true) (.ite ((k == (3 : Int)) = true) (.ite ((qz_c (A.length : Int) (1 : Int)) = true) (.ite ((((qz_v k (1 : Int)).length + (qz_v (A.length : Int) (1 : Int)).length : Nat) : Int) ≤ 9223372036854775807) (.ite ((qc_o6_1 ((qz_v k (1 : Int)) ++ (qz_v (A.length : Int) (1 : Int))) [[TC.l A], [TC.l S], [TC.l C], [TC.l B]] (4 : Int) (0 : Int)) = true) (.ok (qc_u6_1 ((qz_v k (1 : Int)) ++ (qz_v (A.length : Int) (1 : Int))) [[TC.l A], [TC.l S], [TC.l C], [TC.l B]] (4 : Int) (0 : Int)))
      .no)
     .no)
    .no)
   (.ite ((k == (4 : Int)) = true) (.ite ((qz_c (P.length : Int) (1 : Int)) = true) (.ite ((0 : Int) ≤ (0 : Int) ∧ (0 : Int) < (P.length : Int)) (.ite ((qz_c (((nth (row P (0 : Int)) 0).list).length : Int) (1 : Int)) = true) (.ite ((((qz_v (P.length : Int) (1 : Int)).length + (qz_v (((nth (row P (0 : Int)) 0).list).length : Int) (1 : Int)).length : Nat) : Int) ≤ 9223372036854775807) (.ite ((((qz_v k (1 : Int)).length + ((qz_v (P.length : Int) (1 : Int)) ++ (qz_v (((nth (row P (0 : Int)) 0).list).length : Int) (1 : Int))).length : Nat) : Int) ≤ 9223372036854775807) (.ite ((qc_o13_1 k A S C B P ((qz_v k (1 : Int)) ++ ((qz_v (P.length : Int) (1 : Int)) ++ (qz_v (((nth (row P (0 : Int)) 0).list).length : Int) (1 : Int)))) P (P.length : Int) (0 : Int)) = true) (.ok (qc_u13_1 k A S C B P ((qz_v k (1 : Int)) ++ ((qz_v (P.length : Int) (1 : Int)) ++ (qz_v (((nth (row P (0 : Int)) 0).list).length : Int) (1 : Int)))) P (P.length : Int) (0 : Int)))
          .no)
         .no)
        .no)
       .no)
      .no)
     .no)
    (.ok (qz_v k (1 : Int)))))
  .no)
def qc_mk (p : BS) : Res := [(false, [⟨.str, .sh, TC.s p⟩])]
def qc_c (k : Int) (A S C B P : LL) : Bool := ((qz_c k (1 : Int)) && (bif (k == (3 : Int)) then ((qz_c (A.length : Int) (1 : Int)) && (is ((((qz_v k (1 : Int)).length + (qz_v (A.length : Int) (1 : Int)).length : Nat) : Int) ≤ 9223372036854775807) && ((qc_o6_1 ((qz_v k (1 : Int)) ++ (qz_v (A.length : Int) (1 : Int))) [[TC.l A], [TC.l S], [TC.l C], [TC.l B]] (4 : Int) (0 : Int)) && true))) else (bif (k == (4 : Int)) then ((qz_c (P.length : Int) (1 : Int)) && (is ((0 : Int) ≤ (0 : Int) ∧ (0 : Int) < (P.length : Int)) && ((qz_c (((nth (row P (0 : Int)) 0).list).length : Int) (1 : Int)) && (is ((((qz_v (P.length : Int) (1 : Int)).length + (qz_v (((nth (row P (0 : Int)) 0).list).length : Int) (1 : Int)).length : Nat) : Int) ≤ 9223372036854775807) && (is ((((qz_v k (1 : Int)).length + ((qz_v (P.length : Int) (1 : Int)) ++ (qz_v (((nth (row P (0 : Int)) 0).list).length : Int) (1 : Int))).length : Nat) : Int) ≤ 9223372036854775807) && ((qc_o13_1 k A S C B P ((qz_v k (1 : Int)) ++ ((qz_v (P.length : Int) (1 : Int)) ++ (qz_v (((nth (row P (0 : Int)) 0).list).length : Int) (1 : Int)))) P (P.length : Int) (0 : Int)) && true)))))) else true)))
def qc_v (k : Int) (A S C B P : LL) : BS := (bif (k == (3 : Int)) then (qc_u6_1 ((qz_v k (1 : Int)) ++ (qz_v (A.length : Int) (1 : Int))) [[TC.l A], [TC.l S], [TC.l C], [TC.l B]] (4 : Int) (0 : Int)) else (bif (k == (4 : Int)) then (qc_u13_1 k A S C B P ((qz_v k (1 : Int)) ++ ((qz_v (P.length : Int) (1 : Int)) ++ (qz_v (((nth (row P (0 : Int)) 0).list).length : Int) (1 : Int)))) P (P.length : Int) (0 : Int)) else (qz_v k (1 : Int))))
theorem qc_l (k : Int) (A S C B P : LL) : (qc_c k A S C B P) = true → (qc_t k A S C B P).val = some (qc_v k A S C B P) := by
  unfold qc_t qc_v qc_c
  exact fun h => (Tr.gb h fun h => (Tr.ss h (fun h => (Tr.gb h fun h => (Tr.gs h fun h => (Tr.gb h fun h => rfl)))) (fun h => (Tr.ss h (fun h => (Tr.gb h fun h => (Tr.gs h fun h => (Tr.gb h fun h => (Tr.gs h fun h => (Tr.gs h fun h => (Tr.gb h fun h => rfl))))))) (fun h => rfl)))))
def qc_S : List Arg → Option (Bool × Res) := fun xs => match xs with
  | [(true, [(.int .i64, TC.i k), (.slice 2, TC.l A), (.slice 2, TC.l S), (.slice 2, TC.l C), (.slice 2, TC.l B), (.slice 62, TC.l P)])] => some ((qc_c k A S C B P), qc_mk (qc_v k A S C B P))
  | _ => .none
theorem qc_e (k : Int) (A S C B P : LL) : runF tab FT D56 live 27 qc_lo [(true, [(.int .i64, TC.i k), (.slice 2, TC.l A), (.slice 2, TC.l S), (.slice 2, TC.l C), (.slice 2, TC.l B), (.slice 62, TC.l P)])] = (qc_t k A S C B P).run fun p => some (qc_mk p) := by kernel_rfl
theorem qc_s : ∀ xs r, qc_S xs = some (true, r) → runF tab FT D56 live 27 qc_lo xs = some r := by
  intro xs r h
  unfold qc_S at h
  split at h
  · obtain ⟨h1, rfl⟩ := sp h
    exact fun_told (qc_e ..) (qc_l _ _ _ _ _ _) h1
  · cases h
def D57 : Dt := also D56 27 qc_S
theorem d57 : DOk Go.Proofs.Tryd.prog tab D57 := d56.also mixed_ok tab_ok names_ok (fnLoops_two (by kernel_rfl) qc_is6 qc_is13) qc_s
theorem qc_cc {k : Int} {A : LL} {S : LL} {C : LL} {B : LL} {P : LL} (hf : FitS k A S C B P) : (qc_c k A S C B P) = true := by
  unfold qc_c
  refine andT (by exact is_true ⟨1, rfl, by omega⟩) ?_
  refine bifT (fun b1 => ?_) (fun b1 => ?_)
  · skip
    refine andT (by exact is_true ⟨1, rfl, by omega⟩) ?_
    refine andT (is_true (by have e : ∀ n, (qz_v n (1 : Int)).length = 1 := fun n => qz_len (sz := 1); simp only [List.length_append, e]; omega)) ?_
    refine andT (by exact is_true ⟨rfl, by rw [List.length_append, show (qz_v k (1 : Int)).length = 1 from qz_len (sz := 1), show (qz_v (A.length : Int) (1 : Int)).length = 1 from qz_len (sz := 1)]; omega, by simp, fun x hx => by
    have h3 := hf.1 (by simpa using b1)
    simp only [List.mem_cons, List.not_mem_nil, or_false] at hx
    rcases hx with rfl | rfl | rfl | rfl
    · exact h3.1
    · exact h3.2.1
    · exact h3.2.2.1
    · exact h3.2.2.2, rfl⟩) ?_
    rfl
  · skip
    refine bifT (fun b2 => ?_) (fun b2 => ?_)
    · skip
      refine andT (by exact is_true ⟨1, rfl, by omega⟩) ?_
      refine andT (is_true (by have h4 := hf.2 (by simpa using b2); omega)) ?_
      refine andT (by exact is_true ⟨1, rfl, by omega⟩) ?_
      refine andT (is_true (by have e : ∀ n, (qz_v n (1 : Int)).length = 1 := fun n => qz_len (sz := 1); simp only [List.length_append, e]; omega)) ?_
      refine andT (is_true (by have e : ∀ n, (qz_v n (1 : Int)).length = 1 := fun n => qz_len (sz := 1); simp only [List.length_append, e]; omega)) ?_
      refine andT (by have h4 := hf.2 (by simpa using b2); exact is_true ⟨rfl, by rw [List.length_append, List.length_append, show (qz_v k (1 : Int)).length = 1 from qz_len (sz := 1), show (qz_v (P.length : Int) (1 : Int)).length = 1 from qz_len (sz := 1), show (qz_v (((nth (row P (0 : Int)) 0).list).length : Int) (1 : Int)).length = 1 from qz_len (sz := 1)]; omega, by omega, h4.2.2, rfl⟩) ?_
      rfl
    · skip
      rfl
theorem qc_vv (k : Int) (A S C B P : LL) : qc_v k A S C B P = selBy k A S C B P := by
  unfold qc_v selBy
  simp only [qz_h]
  cases k == 3 with
  | true => show (bytesL k 1 ++ bytesL (A.length : Int) 1) ++ allBy [[TC.l A], [TC.l S], [TC.l C], [TC.l B]] = bytesL k 1 ++ (bytesL (A.length : Int) 1 ++ allBy [[TC.l A], [TC.l S], [TC.l C], [TC.l B]]); rw [List.append_assoc]
  | false =>
    cases k == 4 with
    | true =>
      show (bytesL k 1 ++ (bytesL (P.length : Int) 1 ++ bytesL ((pAt P 0).length : Int) 1)) ++ allBy P = bytesL k 1 ++ ((bytesL (P.length : Int) 1 ++ bytesL ((pAt P 0).length : Int) 1) ++ allBy P)
      rw [List.append_assoc]
    | false => show bytesL k 1 = bytesL k 1 ++ []; rw [List.append_nil]
def qbs_t (pa : BS) (k : Int) (A S C B P : LL) (k2 : Int) (A2 S2 C2 B2 P2 : LL) : Tr (BS) := (.ite ((qbc_c pa) = true) (.ite ((qc_c k A S C B P) = true) (.ite ((((qbc_v pa).length + (qc_v k A S C B P).length : Nat) : Int) ≤ 9223372036854775807) (.ite ((qc_c k2 A2 S2 C2 B2 P2) = true) (.ite (((((qbc_v pa) ++ (qc_v k A S C B P)).length + (qc_v k2 A2 S2 C2 B2 P2).length : Nat) : Int) ≤ 9223372036854775807) (.ok (((qbc_v pa) ++ (qc_v k A S C B P)) ++ (qc_v k2 A2 S2 C2 B2 P2)))
      .no)
     .no)
    .no)
   .no)
  .no)
def qbs_mk (p : BS) : Res := [(false, [⟨.str, .sh, TC.s p⟩])]
def qbs_c (pa : BS) (k : Int) (A S C B P : LL) (k2 : Int) (A2 S2 C2 B2 P2 : LL) : Bool := is (((qbc_c pa) = true) ∧ ((qc_c k A S C B P) = true) ∧ ((((qbc_v pa).length + (qc_v k A S C B P).length : Nat) : Int) ≤ 9223372036854775807) ∧ ((qc_c k2 A2 S2 C2 B2 P2) = true) ∧ (((((qbc_v pa) ++ (qc_v k A S C B P)).length + (qc_v k2 A2 S2 C2 B2 P2).length : Nat) : Int) ≤ 9223372036854775807))
def qbs_v (pa : BS) (k : Int) (A S C B P : LL) (k2 : Int) (A2 S2 C2 B2 P2 : LL) : BS := (((qbc_v pa) ++ (qc_v k A S C B P)) ++ (qc_v k2 A2 S2 C2 B2 P2))
theorem qbs_l (pa : BS) (k : Int) (A S C B P : LL) (k2 : Int) (A2 S2 C2 B2 P2 : LL) : (qbs_c pa k A S C B P k2 A2 S2 C2 B2 P2) = true → (qbs_t pa k A S C B P k2 A2 S2 C2 B2 P2).val = some (qbs_v pa k A S C B P k2 A2 S2 C2 B2 P2) := by
  intro h
  obtain ⟨hc0, hc1, hc2, hc3, hc4⟩ := is_iff.1 h
  unfold qbs_t
  exact (Tr.t hc0 (Tr.t hc1 (Tr.t hc2 (Tr.t hc3 (Tr.t hc4 rfl)))))
def qbs_S : List Arg → Option (Bool × Res) := fun xs => match xs with
  | [(true, [(.str, TC.s pa), (.int .i64, TC.i k), (.slice 2, TC.l A), (.slice 2, TC.l S), (.slice 2, TC.l C), (.slice 2, TC.l B), (.slice 62, TC.l P), (.int .i64, TC.i k2), (.slice 2, TC.l A2), (.slice 2, TC.l S2), (.slice 2, TC.l C2), (.slice 2, TC.l B2), (.slice 62, TC.l P2)])] => some ((qbs_c pa k A S C B P k2 A2 S2 C2 B2 P2), qbs_mk (qbs_v pa k A S C B P k2 A2 S2 C2 B2 P2))
  | _ => .none
theorem qbs_e (pa : BS) (k : Int) (A S C B P : LL) (k2 : Int) (A2 S2 C2 B2 P2 : LL) : runF tab FT D57 live 14 noLoops [(true, [(.str, TC.s pa), (.int .i64, TC.i k), (.slice 2, TC.l A), (.slice 2, TC.l S), (.slice 2, TC.l C), (.slice 2, TC.l B), (.slice 62, TC.l P), (.int .i64, TC.i k2), (.slice 2, TC.l A2), (.slice 2, TC.l S2), (.slice 2, TC.l C2), (.slice 2, TC.l B2), (.slice 62, TC.l P2)])] = (qbs_t pa k A S C B P k2 A2 S2 C2 B2 P2).run fun p => some (qbs_mk p) := by kernel_rfl
theorem qbs_s : ∀ xs r, qbs_S xs = some (true, r) → runF tab FT D57 live 14 noLoops xs = some r := by
  intro xs r h
  unfold qbs_S at h
  split at h
  · obtain ⟨h1, rfl⟩ := sp h
    exact fun_told (qbs_e ..) (qbs_l _ _ _ _ _ _ _ _ _ _ _ _ _) h1
  · cases h
def D58 : Dt := also D57 14 qbs_S
theorem d58 : DOk Go.Proofs.Tryd.prog tab D58 := d57.also mixed_ok tab_ok names_ok noLoops_ok qbs_s
theorem qbs_cc {pa : BS} {k : Int} {A S C B P : LL} {k2 : Int} {A2 S2 C2 B2 P2 : LL} (hp : pa.length ≤ 1048576) (f1 : FitS k A S C B P) (f2 : FitS k2 A2 S2 C2 B2 P2) : qbs_c pa k A S C B P k2 A2 S2 C2 B2 P2 = true := by
  have s1 := selBy_len f1
  have s2 := selBy_len f2
  refine is_true ⟨qbc_cc (by omega), qc_cc f1, ?_, qc_cc f2, ?_⟩ <;> (simp only [qbc_h, qc_vv, List.length_append, bytesL_len]; omega)
theorem qbs_vv (pa : BS) (k : Int) (A S C B P : LL) (k2 : Int) (A2 S2 C2 B2 P2 : LL) : qbs_v pa k A S C B P k2 A2 S2 C2 B2 P2 = mapBy pa (selBy k A S C B P) (selBy k2 A2 S2 C2 B2 P2) := by
  unfold qbs_v
  rw [qbc_h, qc_vv, qc_vv]
  rfl
def qba_t (pa : BS) (k : Int) (A S C B P : LL) (k2 : Int) (A2 S2 C2 B2 P2 : LL) : Tr (Bool) := (.ite ((qcc_c pa) = true) (.ite ((qcc_v pa) = true) (.ite ((qo_c k A S C B P) = true) (.ite ((qo_v k A S C B P) = true) (.ite ((qo_c k2 A2 S2 C2 B2 P2) = true) (.ite ((qo_v k2 A2 S2 C2 B2 P2) = true) (.ite ((!(k == (2 : Int))) = true) (.ite ((!(k2 == (2 : Int))) = true) (.ite ((qbs_c pa k A S C B P k2 A2 S2 C2 B2 P2) = true) (.ok (decide (((qbs_v pa k A S C B P k2 A2 S2 C2 B2 P2).length : Int) ≤ (200 : Int))))
          .no)
         (.ok false))
        (.ok false))
       (.ok false))
      .no)
     (.ok false))
    .no)
   (.ok false))
  .no)
def qba_mk (p : Bool) : Res := [(false, [⟨.bool, .sh, TC.b p⟩])]
def qba_c (pa : BS) (k : Int) (A S C B P : LL) (k2 : Int) (A2 S2 C2 B2 P2 : LL) : Bool := ((qcc_c pa) && (bif (qcc_v pa) then ((qo_c k A S C B P) && (bif (qo_v k A S C B P) then ((qo_c k2 A2 S2 C2 B2 P2) && (bif (qo_v k2 A2 S2 C2 B2 P2) then (bif (!(k == (2 : Int))) then (bif (!(k2 == (2 : Int))) then ((qbs_c pa k A S C B P k2 A2 S2 C2 B2 P2) && true) else true) else true) else true)) else true)) else true))
def qba_v (pa : BS) (k : Int) (A S C B P : LL) (k2 : Int) (A2 S2 C2 B2 P2 : LL) : Bool := (bif (qcc_v pa) then (bif (qo_v k A S C B P) then (bif (qo_v k2 A2 S2 C2 B2 P2) then (bif (!(k == (2 : Int))) then (bif (!(k2 == (2 : Int))) then (decide (((qbs_v pa k A S C B P k2 A2 S2 C2 B2 P2).length : Int) ≤ (200 : Int))) else false) else false) else false) else false) else false)
theorem qba_l (pa : BS) (k : Int) (A S C B P : LL) (k2 : Int) (A2 S2 C2 B2 P2 : LL) : (qba_c pa k A S C B P k2 A2 S2 C2 B2 P2) = true → (qba_t pa k A S C B P k2 A2 S2 C2 B2 P2).val = some (qba_v pa k A S C B P k2 A2 S2 C2 B2 P2) := by
  unfold qba_t qba_v qba_c
  exact fun h => (Tr.gb h fun h => (Tr.ss h (fun h => (Tr.gb h fun h => (Tr.ss h (fun h => (Tr.gb h fun h => (Tr.ss h (fun h => (Tr.ss h (fun h => (Tr.ss h (fun h => (Tr.gb h fun h => rfl)) (fun h => rfl))) (fun h => rfl))) (fun h => rfl)))) (fun h => rfl)))) (fun h => rfl)))
def qba_S : List Arg → Option (Bool × Res) := fun xs => match xs with
  | [(true, [(.str, TC.s pa), (.int .i64, TC.i k), (.slice 2, TC.l A), (.slice 2, TC.l S), (.slice 2, TC.l C), (.slice 2, TC.l B), (.slice 62, TC.l P), (.int .i64, TC.i k2), (.slice 2, TC.l A2), (.slice 2, TC.l S2), (.slice 2, TC.l C2), (.slice 2, TC.l B2), (.slice 62, TC.l P2)])] => some ((qba_c pa k A S C B P k2 A2 S2 C2 B2 P2), qba_mk (qba_v pa k A S C B P k2 A2 S2 C2 B2 P2))
  | _ => .none
theorem qba_e (pa : BS) (k : Int) (A S C B P : LL) (k2 : Int) (A2 S2 C2 B2 P2 : LL) : runF tab FT D58 live 13 noLoops [(true, [(.str, TC.s pa), (.int .i64, TC.i k), (.slice 2, TC.l A), (.slice 2, TC.l S), (.slice 2, TC.l C), (.slice 2, TC.l B), (.slice 62, TC.l P), (.int .i64, TC.i k2), (.slice 2, TC.l A2), (.slice 2, TC.l S2), (.slice 2, TC.l C2), (.slice 2, TC.l B2), (.slice 62, TC.l P2)])] = (qba_t pa k A S C B P k2 A2 S2 C2 B2 P2).run fun p => some (qba_mk p) := by kernel_rfl
theorem qba_s : ∀ xs r, qba_S xs = some (true, r) → runF tab FT D58 live 13 noLoops xs = some r := by
  intro xs r h
  unfold qba_S at h
  split at h
  · obtain ⟨h1, rfl⟩ := sp h
    exact fun_told (qba_e ..) (qba_l _ _ _ _ _ _ _ _ _ _ _ _ _) h1
  · cases h
def D59 : Dt := also D58 13 qba_S
theorem d59 : DOk Go.Proofs.Tryd.prog tab D59 := d58.also mixed_ok tab_ok names_ok noLoops_ok qba_s
theorem qba_cc {pa : BS} {k : Int} {A : LL} {S : LL} {C : LL} {B : LL} {P : LL} {k2 : Int} {A2 : LL} {S2 : LL} {C2 : LL} {B2 : LL} {P2 : LL} (hp : pa.length ≤ 1048576) (tA : Typed tab (.slice 2) (.l A)) (tS : Typed tab (.slice 2) (.l S)) (tC : Typed tab (.slice 2) (.l C)) (tB : Typed tab (.slice 2) (.l B)) (tP : Typed tab (.slice 62) (.l P)) (tA2 : Typed tab (.slice 2) (.l A2)) (tS2 : Typed tab (.slice 2) (.l S2)) (tC2 : Typed tab (.slice 2) (.l C2)) (tB2 : Typed tab (.slice 2) (.l B2)) (tP2 : Typed tab (.slice 62) (.l P2)) : (qba_c pa k A S C B P k2 A2 S2 C2 B2 P2) = true := by
  unfold qba_c
  refine andT (by exact qbh_cc hp) ?_
  refine bifT (fun b1 => ?_) (fun b1 => ?_)
  · skip
    refine andT (by exact qo_cc tA tS tC tB tP) ?_
    refine bifT (fun b2 => ?_) (fun b2 => ?_)
    · skip
      refine andT (by exact qo_cc tA2 tS2 tC2 tB2 tP2) ?_
      refine bifT (fun b3 => ?_) (fun b3 => ?_)
      · skip
        refine bifT (fun b4 => ?_) (fun b4 => ?_)
        · skip
          refine bifT (fun b5 => ?_) (fun b5 => ?_)
          · skip
            refine andT (by exact qbs_cc hp (formV_fit ((qo_q tA tS tC tB tP).symm.trans b2)) (formV_fit ((qo_q tA2 tS2 tC2 tB2 tP2).symm.trans b3))) ?_
            rfl
          · skip
            rfl
        · skip
          rfl
      · skip
        rfl
    · skip
      rfl
  · skip
    rfl
theorem qba_q {pa : BS} {k : Int} {A S C B P : LL} {k2 : Int} {A2 S2 C2 B2 P2 : LL} (tA : Typed tab (.slice 2) (.l A)) (tS : Typed tab (.slice 2) (.l S)) (tC : Typed tab (.slice 2) (.l C)) (tB : Typed tab (.slice 2) (.l B)) (tP : Typed tab (.slice 62) (.l P)) (tA2 : Typed tab (.slice 2) (.l A2)) (tS2 : Typed tab (.slice 2) (.l S2)) (tC2 : Typed tab (.slice 2) (.l C2)) (tB2 : Typed tab (.slice 2) (.l B2)) (tP2 : Typed tab (.slice 62) (.l P2)) : qba_v pa k A S C B P k2 A2 S2 C2 B2 P2 = mapOkB pa k A S C B P k2 A2 S2 C2 B2 P2 := by
  unfold qba_v
  rw [show qcc_v pa = pathB pa from by unfold qcc_v; rw [qbh_vv], qo_q tA tS tC tB tP, qo_q tA2 tS2 tC2 tB2 tP2, qbs_vv, le200]
  unfold mapOkB
  generalize pathB pa = p0, formV k A S C B P = p1, formV k2 A2 S2 C2 B2 P2 = p2, (k == 2) = p3, (k2 == 2) = p4, decide ((mapBy pa (selBy k A S C B P) (selBy k2 A2 S2 C2 B2 P2)).length ≤ 200) = p5
  cases p0 <;> cases p1 <;> cases p2 <;> cases p3 <;> cases p4 <;> cases p5 <;> rfl
def qs_t (pa : BS) (k : Int) (A S C B P : LL) (k2 : Int) (A2 S2 C2 B2 P2 : LL) : Tr (BS) := (.ite ((qba_c pa k A S C B P k2 A2 S2 C2 B2 P2) = true) (.ite ((!(qba_v pa k A S C B P k2 A2 S2 C2 B2 P2)) = true) (.ok ([]))
   (.ite ((qbs_c pa k A S C B P k2 A2 S2 C2 B2 P2) = true) (.ok (qbs_v pa k A S C B P k2 A2 S2 C2 B2 P2))
    .no))
  .no)
def qs_mk (p : BS) : Res := [(false, [⟨.str, .sh, TC.s p⟩])]
def qs_c (pa : BS) (k : Int) (A S C B P : LL) (k2 : Int) (A2 S2 C2 B2 P2 : LL) : Bool := ((qba_c pa k A S C B P k2 A2 S2 C2 B2 P2) && (bif (!(qba_v pa k A S C B P k2 A2 S2 C2 B2 P2)) then true else ((qbs_c pa k A S C B P k2 A2 S2 C2 B2 P2) && true)))
def qs_v (pa : BS) (k : Int) (A S C B P : LL) (k2 : Int) (A2 S2 C2 B2 P2 : LL) : BS := (bif (!(qba_v pa k A S C B P k2 A2 S2 C2 B2 P2)) then [] else (qbs_v pa k A S C B P k2 A2 S2 C2 B2 P2))
theorem qs_l (pa : BS) (k : Int) (A S C B P : LL) (k2 : Int) (A2 S2 C2 B2 P2 : LL) : (qs_c pa k A S C B P k2 A2 S2 C2 B2 P2) = true → (qs_t pa k A S C B P k2 A2 S2 C2 B2 P2).val = some (qs_v pa k A S C B P k2 A2 S2 C2 B2 P2) := by
  unfold qs_t qs_v qs_c
  exact fun h => (Tr.gb h fun h => (Tr.ss h (fun h => rfl) (fun h => (Tr.gb h fun h => rfl))))
def qs_S : List Arg → Option (Bool × Res) := fun xs => match xs with
  | [(true, [(.str, TC.s pa), (.int .i64, TC.i k), (.slice 2, TC.l A), (.slice 2, TC.l S), (.slice 2, TC.l C), (.slice 2, TC.l B), (.slice 62, TC.l P), (.int .i64, TC.i k2), (.slice 2, TC.l A2), (.slice 2, TC.l S2), (.slice 2, TC.l C2), (.slice 2, TC.l B2), (.slice 62, TC.l P2)])] => some ((qs_c pa k A S C B P k2 A2 S2 C2 B2 P2), qs_mk (qs_v pa k A S C B P k2 A2 S2 C2 B2 P2))
  | _ => .none
theorem qs_e (pa : BS) (k : Int) (A S C B P : LL) (k2 : Int) (A2 S2 C2 B2 P2 : LL) : runF tab FT D59 live 7 noLoops [(true, [(.str, TC.s pa), (.int .i64, TC.i k), (.slice 2, TC.l A), (.slice 2, TC.l S), (.slice 2, TC.l C), (.slice 2, TC.l B), (.slice 62, TC.l P), (.int .i64, TC.i k2), (.slice 2, TC.l A2), (.slice 2, TC.l S2), (.slice 2, TC.l C2), (.slice 2, TC.l B2), (.slice 62, TC.l P2)])] = (qs_t pa k A S C B P k2 A2 S2 C2 B2 P2).run fun p => some (qs_mk p) := by kernel_rfl
theorem qs_s : ∀ xs r, qs_S xs = some (true, r) → runF tab FT D59 live 7 noLoops xs = some r := by
  intro xs r h
  unfold qs_S at h
  split at h
  · obtain ⟨h1, rfl⟩ := sp h
    exact fun_told (qs_e ..) (qs_l _ _ _ _ _ _ _ _ _ _ _ _ _) h1
  · cases h
def D60 : Dt := also D59 7 qs_S
theorem d60 : DOk Go.Proofs.Tryd.prog tab D60 := d59.also mixed_ok tab_ok names_ok noLoops_ok qs_s
theorem qs_cc {pa : BS} {k : Int} {A : LL} {S : LL} {C : LL} {B : LL} {P : LL} {k2 : Int} {A2 : LL} {S2 : LL} {C2 : LL} {B2 : LL} {P2 : LL} (hp : pa.length ≤ 1048576) (tA : Typed tab (.slice 2) (.l A)) (tS : Typed tab (.slice 2) (.l S)) (tC : Typed tab (.slice 2) (.l C)) (tB : Typed tab (.slice 2) (.l B)) (tP : Typed tab (.slice 62) (.l P)) (tA2 : Typed tab (.slice 2) (.l A2)) (tS2 : Typed tab (.slice 2) (.l S2)) (tC2 : Typed tab (.slice 2) (.l C2)) (tB2 : Typed tab (.slice 2) (.l B2)) (tP2 : Typed tab (.slice 62) (.l P2)) : (qs_c pa k A S C B P k2 A2 S2 C2 B2 P2) = true := by
  unfold qs_c
  refine andT (by exact qba_cc hp tA tS tC tB tP tA2 tS2 tC2 tB2 tP2) ?_
  refine bifT (fun b1 => ?_) (fun b1 => ?_)
  · skip
    rfl
  · skip
    refine andT (by obtain ⟨f1, f2⟩ := mapOk_fit ((qba_q tA tS tC tB tP tA2 tS2 tC2 tB2 tP2).symm.trans (notF b1)); exact qbs_cc hp f1 f2) ?_
    rfl
theorem qs_q {pa : BS} {k : Int} {A S C B P : LL} {k2 : Int} {A2 S2 C2 B2 P2 : LL} (tA : Typed tab (.slice 2) (.l A)) (tS : Typed tab (.slice 2) (.l S)) (tC : Typed tab (.slice 2) (.l C)) (tB : Typed tab (.slice 2) (.l B)) (tP : Typed tab (.slice 62) (.l P)) (tA2 : Typed tab (.slice 2) (.l A2)) (tS2 : Typed tab (.slice 2) (.l S2)) (tC2 : Typed tab (.slice 2) (.l C2)) (tB2 : Typed tab (.slice 2) (.l B2)) (tP2 : Typed tab (.slice 62) (.l P2)) : qs_v pa k A S C B P k2 A2 S2 C2 B2 P2 = mapV pa k A S C B P k2 A2 S2 C2 B2 P2 := by
  unfold qs_v mapV
  rw [qba_q tA tS tC tB tP tA2 tS2 tC2 tB2 tP2, qbs_vv]
  cases mapOkB pa k A S C B P k2 A2 S2 C2 B2 P2 <;> rfl
abbrev qbk_4_σ := LL × LL × Int
abbrev qbk_4_ω := (Unit) ⊕ (Unit)
def qbk_4_step (A C : LL) (i : Int) : Tr (qbk_4_σ ⊕ qbk_4_ω) := (.ite ((decide (i < (A.length : Int))) = true) (.ite ((0 : Int) ≤ i ∧ i < (A.length : Int)) (.ite ((0 : Int) ≤ i ∧ i < (C.length : Int)) (.ite ((!((nth (row A i) 0).int == (nth (row C i) 0).int)) = true) (.ok (.inr (.inl ())))
     (.ok (.inl (A, C, (IntKind.wrap .i64 (i + (1 : Int)))))))
    .no)
   .no)
  (.ok (.inr (.inr ()))))
def qbk_4_st : qbk_4_σ → Tr (qbk_4_σ ⊕ qbk_4_ω) := fun x => (qbk_4_step (x.1) (x.2.1) (x.2.2))
def qbk_o4_1 (A C : LL) (i : Int) : Bool := is (A = C ∧ Typed tab (.slice 2) (.l A) ∧ i = 0)
def qbk_4_fin (A C : LL) (i : Int) : Told qbk_4_ω := (.leaf (qbk_o4_1 A C i) (.inr ()))
def qbk_4_sl (x : qbk_4_σ) : List Slot := [⟨.val false [⟨.slice 2, .sh, TC.l (x.1)⟩], ⟨0, 0⟩⟩, ⟨.val false [⟨.slice 2, .sh, TC.l (x.2.1)⟩], ⟨0, 0⟩⟩, ⟨.val false [⟨.int .i64, .sh, TC.i (x.2.2)⟩], ⟨0, 0⟩⟩]
def qbk_4_out : qbk_4_ω → Ex × List Slot := (Sum.elim (fun x => (.ret, [⟨.val false [⟨.bool, .sh, TC.b false⟩], ⟨0, 0⟩⟩])) (fun x => (.exit 0, [Slot.none])))
def qbk_lo4 : List Slot → Option (Told (Ex × List Slot)) := fun s => match s with
  | [⟨.val false [⟨.slice 2, .sh, TC.l A⟩], ⟨0, 0⟩⟩, ⟨.val false [⟨.slice 2, .sh, TC.l C⟩], ⟨0, 0⟩⟩, ⟨.val false [⟨.int .i64, .sh, TC.i i⟩], ⟨0, 0⟩⟩] => some (((qbk_4_fin A C i)).map qbk_4_out)
  | _ => .none
def qbk_lo : LoopTeller := fun r s => bif Nat.beq r 4 then qbk_lo4 s else .none
theorem qbk_4_r (A C : LL) (i : Int) (fuel : Nat) : rounds (rnd tab FT D60 live 28 qbk_lo 0 4) leave (fuel + 1) (qbk_4_sl (A, C, i)) = ((qbk_4_step A C i)).run (goOn (fun s => rounds (rnd tab FT D60 live 28 qbk_lo 0 4) leave fuel (qbk_4_sl s)) fun w => some (qbk_4_out w)) := by kernel_rfl
theorem qbk_4_h (A C : LL) (i : Int) (ow : qbk_4_ω) : ((qbk_4_fin A C i)).val = some ow → ∃ fuel, loopN qbk_4_st fuel (A, C, i) = some ow := by
  intro h
  refine auto_leaf (R := Sum.inr ()) (fun ho => ?_) h
  obtain ⟨rfl, ht, rfl⟩ := is_iff.1 ho
  have hlen : A.length ≤ 140737488351232 := by have := typed_room ht; simp only [show (tab 2).bytes = 8 from rfl] at this; omega
  refine ⟨_, loopN_run (N := A.length) (fun i => (A, A, (i : Int))) (fun i hi => ?_) ?_ A.length 0 (by omega)⟩
  · skip
    show (qbk_4_step A A (i : Int)).val = _
    unfold qbk_4_step
    refine Tr.t (by simp; omega) ?_
    refine Tr.t (by first | omega | (constructor <;> omega)) ?_
    refine Tr.t (by first | omega | (constructor <;> omega)) ?_
    refine Tr.n (by simp []) ?_
    rw [Tr.val_ok, wrap64 (i := (i : Int) + 1) (by omega) (by omega)]; rfl
  · show (qbk_4_step A A (A.length : Int)).val = _
    refine Tr.n (by simp) ?_
    rfl
theorem qbk_is4 : LoopIs tab FT D60 live 28 qbk_lo 0 4 := by
  refine loop_told (sl := qbk_4_sl) (step := qbk_4_st) (out := qbk_4_out) (lor := qbk_lo4) (fin := fun x => (qbk_4_fin (x.1) (x.2.1) (x.2.2))) (fun _ => rfl) ?_ (fun x n => qbk_4_r x.1 x.2.1 x.2.2 n) (fun x ow => qbk_4_h x.1 x.2.1 x.2.2 ow)
  intro s t h
  unfold qbk_lo4 at h
  split at h
  · cases h; exact ⟨(_, _, _), rfl, rfl⟩
  · cases h
def qbk_t (A C : LL) : Tr (Bool) := (.ite ((!((A.length : Int) == (C.length : Int))) = true) (.ok false)
  (.ite ((qbk_o4_1 A C (0 : Int)) = true) (.ok true)
   .no))
def qbk_mk (p : Bool) : Res := [(false, [⟨.bool, .sh, TC.b p⟩])]
def qbk_c (A C : LL) : Bool := is (A = C ∧ Typed tab (.slice 2) (.l A))
def qbk_v (A C : LL) : Bool := true
theorem qbk_l (A C : LL) : (qbk_c A C) = true → (qbk_t A C).val = some (qbk_v A C) := by
  intro h
  obtain ⟨rfl, ht⟩ := is_iff.1 h
  unfold qbk_t
  refine Tr.n (by simp) ?_
  refine Tr.t (is_true ⟨rfl, ht, rfl⟩) ?_
  rfl
def qbk_S : List Arg → Option (Bool × Res) := fun xs => match xs with
  | [(false, [(.slice 2, TC.l A)]), (false, [(.slice 2, TC.l C)])] => some ((qbk_c A C), qbk_mk (qbk_v A C))
  | _ => .none
theorem qbk_e (A C : LL) : runF tab FT D60 live 28 qbk_lo [(false, [(.slice 2, TC.l A)]), (false, [(.slice 2, TC.l C)])] = (qbk_t A C).run fun p => some (qbk_mk p) := by kernel_rfl
theorem qbk_s : ∀ xs r, qbk_S xs = some (true, r) → runF tab FT D60 live 28 qbk_lo xs = some r := by
  intro xs r h
  unfold qbk_S at h
  split at h
  · obtain ⟨h1, rfl⟩ := sp h
    exact fun_told (qbk_e ..) (qbk_l _ _) h1
  · cases h
def D61 : Dt := also D60 28 qbk_S
theorem d61 : DOk Go.Proofs.Tryd.prog tab D61 := d60.also mixed_ok tab_ok names_ok (fnLoops_one (by kernel_rfl) qbk_is4) qbk_s
def qcl_t (x0 y0 : LL) : Tr (Bool) := (.ite ((qbk_c x0 y0) = true) (.ite ((!(qbk_v x0 y0)) = true) (.ok false)
   (.ok true))
  .no)
def qcl_mk (p : Bool) : Res := [(false, [⟨.bool, .sh, TC.b p⟩])]
def qcl_c (x0 y0 : LL) : Bool := is (x0 = y0 ∧ Typed tab (.slice 2) (.l x0))
def qcl_v (x0 y0 : LL) : Bool := true
theorem qcl_l (x0 y0 : LL) : (qcl_c x0 y0) = true → (qcl_t x0 y0).val = some (qcl_v x0 y0) := by
  intro h
  obtain ⟨rfl, t0⟩ := is_iff.1 h
  unfold qcl_t
  refine Tr.t (by first | (apply is_true; and_intros <;> (first | rfl | assumption | (apply qx_cc <;> assumption) | (apply qj_cc <;> assumption) | (apply ql_cc <;> assumption) | (apply qt_cc <;> assumption) | (apply qp_cc <;> assumption) | (apply qi_cc <;> assumption) | (apply qn_cc <;> assumption) | (apply qf_cc <;> assumption) | (apply qw_cc <;> assumption) | (apply qh_cc <;> assumption) | (apply qy_cc <;> assumption) | (apply qq_cc <;> assumption) | (apply qr_cc <;> assumption) | (apply qb_cc <;> assumption) | (apply qd_cc <;> assumption) | (apply qo_cc <;> assumption) | (apply qbc_cc <;> assumption) | (apply qc_cc <;> assumption) | (apply qba_cc <;> assumption) | (apply qs_cc <;> assumption) | (first | (apply is_true; and_intros <;> (first | rfl | assumption | (apply qx_cc <;> assumption) | (apply qj_cc <;> assumption) | (apply ql_cc <;> assumption) | (apply qt_cc <;> assumption) | (apply qp_cc <;> assumption) | (apply qi_cc <;> assumption) | (apply qn_cc <;> assumption) | (apply qf_cc <;> assumption) | (apply qw_cc <;> assumption) | (apply qh_cc <;> assumption) | (apply qy_cc <;> assumption) | (apply qq_cc <;> assumption) | (apply qr_cc <;> assumption) | (apply qb_cc <;> assumption) | (apply qd_cc <;> assumption) | (apply qo_cc <;> assumption) | (apply qbc_cc <;> assumption) | (apply qc_cc <;> assumption) | (apply qba_cc <;> assumption) | (apply qs_cc <;> assumption) | (first | (apply is_true; and_intros <;> (first | rfl | assumption | (apply qx_cc <;> assumption) | (apply qj_cc <;> assumption) | (apply ql_cc <;> assumption) | (apply qt_cc <;> assumption) | (apply qp_cc <;> assumption) | (apply qi_cc <;> assumption) | (apply qn_cc <;> assumption) | (apply qf_cc <;> assumption) | (apply qw_cc <;> assumption) | (apply qh_cc <;> assumption) | (apply qy_cc <;> assumption) | (apply qq_cc <;> assumption) | (apply qr_cc <;> assumption) | (apply qb_cc <;> assumption) | (apply qd_cc <;> assumption) | (apply qo_cc <;> assumption) | (apply qbc_cc <;> assumption) | (apply qc_cc <;> assumption) | (apply qba_cc <;> assumption) | (apply qs_cc <;> assumption) | (first | (apply is_true; and_intros <;> (first | rfl | assumption | (apply qx_cc <;> assumption) | (apply qj_cc <;> assumption) | (apply ql_cc <;> assumption) | (apply qt_cc <;> assumption) | (apply qp_cc <;> assumption) | (apply qi_cc <;> assumption) | (apply qn_cc <;> assumption) | (apply qf_cc <;> assumption) | (apply qw_cc <;> assumption) | (apply qh_cc <;> assumption) | (apply qy_cc <;> assumption) | (apply qq_cc <;> assumption) | (apply qr_cc <;> assumption) | (apply qb_cc <;> assumption) | (apply qd_cc <;> assumption) | (apply qo_cc <;> assumption) | (apply qbc_cc <;> assumption) | (apply qc_cc <;> assumption) | (apply qba_cc <;> assumption) | (apply qs_cc <;> assumption))) | (apply qx_cc <;> assumption) | (apply qj_cc <;> assumption) | (apply ql_cc <;> assumption) | (apply qt_cc <;> assumption) | (apply qp_cc <;> assumption) | (apply qi_cc <;> assumption) | (apply qn_cc <;> assumption) | (apply qf_cc <;> assumption) | (apply qw_cc <;> assumption) | (apply qh_cc <;> assumption) | (apply qy_cc <;> assumption) | (apply qq_cc <;> assumption) | (apply qr_cc <;> assumption) | (apply qb_cc <;> assumption) | (apply qd_cc <;> assumption) | (apply qo_cc <;> assumption) | (apply qbc_cc <;> assumption) | (apply qc_cc <;> assumption) | (apply qba_cc <;> assumption) | (apply qs_cc <;> assumption)))) | (apply qx_cc <;> assumption) | (apply qj_cc <;> assumption) | (apply ql_cc <;> assumption) | (apply qt_cc <;> assumption) | (apply qp_cc <;> assumption) | (apply qi_cc <;> assumption) | (apply qn_cc <;> assumption) | (apply qf_cc <;> assumption) | (apply qw_cc <;> assumption) | (apply qh_cc <;> assumption) | (apply qy_cc <;> assumption) | (apply qq_cc <;> assumption) | (apply qr_cc <;> assumption) | (apply qb_cc <;> assumption) | (apply qd_cc <;> assumption) | (apply qo_cc <;> assumption) | (apply qbc_cc <;> assumption) | (apply qc_cc <;> assumption) | (apply qba_cc <;> assumption) | (apply qs_cc <;> assumption)))) | (apply qx_cc <;> assumption) | (apply qj_cc <;> assumption) | (apply ql_cc <;> assumption) | (apply qt_cc <;> assumption) | (apply qp_cc <;> assumption) | (apply qi_cc <;> assumption) | (apply qn_cc <;> assumption) | (apply qf_cc <;> assumption) | (apply qw_cc <;> assumption) | (apply qh_cc <;> assumption) | (apply qy_cc <;> assumption) | (apply qq_cc <;> assumption) | (apply qr_cc <;> assumption) | (apply qb_cc <;> assumption) | (apply qd_cc <;> assumption) | (apply qo_cc <;> assumption) | (apply qbc_cc <;> assumption) | (apply qc_cc <;> assumption) | (apply qba_cc <;> assumption) | (apply qs_cc <;> assumption)))) | (apply qx_cc <;> assumption) | (apply qj_cc <;> assumption) | (apply ql_cc <;> assumption) | (apply qt_cc <;> assumption) | (apply qp_cc <;> assumption) | (apply qi_cc <;> assumption) | (apply qn_cc <;> assumption) | (apply qf_cc <;> assumption) | (apply qw_cc <;> assumption) | (apply qh_cc <;> assumption) | (apply qy_cc <;> assumption) | (apply qq_cc <;> assumption) | (apply qr_cc <;> assumption) | (apply qb_cc <;> assumption) | (apply qd_cc <;> assumption) | (apply qo_cc <;> assumption) | (apply qbc_cc <;> assumption) | (apply qc_cc <;> assumption) | (apply qba_cc <;> assumption) | (apply qs_cc <;> assumption)) ?_
  refine Tr.n (by simp [qbk_v]) ?_
  rfl
def qcl_S : List Arg → Option (Bool × Res) := fun xs => match xs with
  | [(true, [(.slice 2, TC.l x0)]), (true, [(.slice 2, TC.l y0)])] => some ((qcl_c x0 y0), qcl_mk (qcl_v x0 y0))
  | _ => .none
theorem qcl_e (x0 y0 : LL) : runF tab FT D61 live 43 noLoops [(true, [(.slice 2, TC.l x0)]), (true, [(.slice 2, TC.l y0)])] = (qcl_t x0 y0).run fun p => some (qcl_mk p) := by kernel_rfl
theorem qcl_s : ∀ xs r, qcl_S xs = some (true, r) → runF tab FT D61 live 43 noLoops xs = some r := by
  intro xs r h
  unfold qcl_S at h
  split at h
  · obtain ⟨h1, rfl⟩ := sp h
    exact fun_told (qcl_e ..) (qcl_l _ _) h1
  · cases h
def D62 : Dt := also D61 43 qcl_S
theorem d62 : DOk Go.Proofs.Tryd.prog tab D62 := d61.also mixed_ok tab_ok names_ok noLoops_ok qcl_s
abbrev qbn_4_σ := LL × LL × Int
abbrev qbn_4_ω := (Unit) ⊕ (Unit)
def qbn_4_step (A C : LL) (i : Int) : Tr (qbn_4_σ ⊕ qbn_4_ω) := (.ite ((decide (i < (A.length : Int))) = true) (.ite ((0 : Int) ≤ i ∧ i < (A.length : Int)) (.ite ((0 : Int) ≤ i ∧ i < (C.length : Int)) (.ite ((qcl_c ((nth (row A i) 0).list) ((nth (row C i) 0).list)) = true) (.ite ((!(qcl_v ((nth (row A i) 0).list) ((nth (row C i) 0).list))) = true) (.ok (.inr (.inl ())))
      (.ok (.inl (A, C, (IntKind.wrap .i64 (i + (1 : Int)))))))
     .no)
    .no)
   .no)
  (.ok (.inr (.inr ()))))
def qbn_4_st : qbn_4_σ → Tr (qbn_4_σ ⊕ qbn_4_ω) := fun x => (qbn_4_step (x.1) (x.2.1) (x.2.2))
def qbn_o4_1 (A C : LL) (i : Int) : Bool := is (A = C ∧ Typed tab (.slice 62) (.l A) ∧ i = 0)
def qbn_4_fin (A C : LL) (i : Int) : Told qbn_4_ω := (.leaf (qbn_o4_1 A C i) (.inr ()))
def qbn_4_sl (x : qbn_4_σ) : List Slot := [⟨.val false [⟨.slice 62, .sh, TC.l (x.1)⟩], ⟨0, 0⟩⟩, ⟨.val false [⟨.slice 62, .sh, TC.l (x.2.1)⟩], ⟨0, 0⟩⟩, ⟨.val false [⟨.int .i64, .sh, TC.i (x.2.2)⟩], ⟨0, 0⟩⟩]
def qbn_4_out : qbn_4_ω → Ex × List Slot := (Sum.elim (fun x => (.ret, [⟨.val false [⟨.bool, .sh, TC.b false⟩], ⟨0, 0⟩⟩])) (fun x => (.exit 0, [Slot.none])))
def qbn_lo4 : List Slot → Option (Told (Ex × List Slot)) := fun s => match s with
  | [⟨.val false [⟨.slice 62, .sh, TC.l A⟩], ⟨0, 0⟩⟩, ⟨.val false [⟨.slice 62, .sh, TC.l C⟩], ⟨0, 0⟩⟩, ⟨.val false [⟨.int .i64, .sh, TC.i i⟩], ⟨0, 0⟩⟩] => some (((qbn_4_fin A C i)).map qbn_4_out)
  | _ => .none
def qbn_lo : LoopTeller := fun r s => bif Nat.beq r 4 then qbn_lo4 s else .none
theorem qbn_4_r (A C : LL) (i : Int) (fuel : Nat) : rounds (rnd tab FT D62 live 29 qbn_lo 0 4) leave (fuel + 1) (qbn_4_sl (A, C, i)) = ((qbn_4_step A C i)).run (goOn (fun s => rounds (rnd tab FT D62 live 29 qbn_lo 0 4) leave fuel (qbn_4_sl s)) fun w => some (qbn_4_out w)) := by kernel_rfl
theorem qbn_4_h (A C : LL) (i : Int) (ow : qbn_4_ω) : ((qbn_4_fin A C i)).val = some ow → ∃ fuel, loopN qbn_4_st fuel (A, C, i) = some ow := by
  intro h
  refine auto_leaf (R := Sum.inr ()) (fun ho => ?_) h
  obtain ⟨rfl, ht, rfl⟩ := is_iff.1 ho
  have hlen : A.length ≤ 140737488351232 := by have := typed_room ht; simp only [show (tab 62).bytes = 24 from rfl] at this; omega
  refine ⟨_, loopN_run (N := A.length) (fun i => (A, A, (i : Int))) (fun i hi => ?_) ?_ A.length 0 (by omega)⟩
  · have c0 : Typed tab (.slice 2) (.l (nth (A.getD i []) 0).list) := typed_list (typed_cell ht (A.getD i []) (mem_getD hi) 0 (by decide))
    show (qbn_4_step A A (i : Int)).val = _
    unfold qbn_4_step
    refine Tr.t (by simp; omega) ?_
    refine Tr.t (by first | omega | (constructor <;> omega)) ?_
    refine Tr.t (by first | omega | (constructor <;> omega)) ?_
    refine Tr.t (by first | (apply is_true; and_intros <;> (first | rfl | assumption | (apply qx_cc <;> assumption) | (apply qj_cc <;> assumption) | (apply ql_cc <;> assumption) | (apply qt_cc <;> assumption) | (apply qp_cc <;> assumption) | (apply qi_cc <;> assumption) | (apply qn_cc <;> assumption) | (apply qf_cc <;> assumption) | (apply qw_cc <;> assumption) | (apply qh_cc <;> assumption) | (apply qy_cc <;> assumption) | (apply qq_cc <;> assumption) | (apply qr_cc <;> assumption) | (apply qb_cc <;> assumption) | (apply qd_cc <;> assumption) | (apply qo_cc <;> assumption) | (apply qbc_cc <;> assumption) | (apply qc_cc <;> assumption) | (apply qba_cc <;> assumption) | (apply qs_cc <;> assumption) | (first | (apply is_true; and_intros <;> (first | rfl | assumption | (apply qx_cc <;> assumption) | (apply qj_cc <;> assumption) | (apply ql_cc <;> assumption) | (apply qt_cc <;> assumption) | (apply qp_cc <;> assumption) | (apply qi_cc <;> assumption) | (apply qn_cc <;> assumption) | (apply qf_cc <;> assumption) | (apply qw_cc <;> assumption) | (apply qh_cc <;> assumption) | (apply qy_cc <;> assumption) | (apply qq_cc <;> assumption) | (apply qr_cc <;> assumption) | (apply qb_cc <;> assumption) | (apply qd_cc <;> assumption) | (apply qo_cc <;> assumption) | (apply qbc_cc <;> assumption) | (apply qc_cc <;> assumption) | (apply qba_cc <;> assumption) | (apply qs_cc <;> assumption) | (first | (apply is_true; and_intros <;> (first | rfl | assumption | (apply qx_cc <;> assumption) | (apply qj_cc <;> assumption) | (apply ql_cc <;> assumption) | (apply qt_cc <;> assumption) | (apply qp_cc <;> assumption) | (apply qi_cc <;> assumption) | (apply qn_cc <;> assumption) | (apply qf_cc <;> assumption) | (apply qw_cc <;> assumption) | (apply qh_cc <;> assumption) | (apply qy_cc <;> assumption) | (apply qq_cc <;> assumption) | (apply qr_cc <;> assumption) | (apply qb_cc <;> assumption) | (apply qd_cc <;> assumption) | (apply qo_cc <;> assumption) | (apply qbc_cc <;> assumption) | (apply qc_cc <;> assumption) | (apply qba_cc <;> assumption) | (apply qs_cc <;> assumption) | (first | (apply is_true; and_intros <;> (first | rfl | assumption | (apply qx_cc <;> assumption) | (apply qj_cc <;> assumption) | (apply ql_cc <;> assumption) | (apply qt_cc <;> assumption) | (apply qp_cc <;> assumption) | (apply qi_cc <;> assumption) | (apply qn_cc <;> assumption) | (apply qf_cc <;> assumption) | (apply qw_cc <;> assumption) | (apply qh_cc <;> assumption) | (apply qy_cc <;> assumption) | (apply qq_cc <;> assumption) | (apply qr_cc <;> assumption) | (apply qb_cc <;> assumption) | (apply qd_cc <;> assumption) | (apply qo_cc <;> assumption) | (apply qbc_cc <;> assumption) | (apply qc_cc <;> assumption) | (apply qba_cc <;> assumption) | (apply qs_cc <;> assumption))) | (apply qx_cc <;> assumption) | (apply qj_cc <;> assumption) | (apply ql_cc <;> assumption) | (apply qt_cc <;> assumption) | (apply qp_cc <;> assumption) | (apply qi_cc <;> assumption) | (apply qn_cc <;> assumption) | (apply qf_cc <;> assumption) | (apply qw_cc <;> assumption) | (apply qh_cc <;> assumption) | (apply qy_cc <;> assumption) | (apply qq_cc <;> assumption) | (apply qr_cc <;> assumption) | (apply qb_cc <;> assumption) | (apply qd_cc <;> assumption) | (apply qo_cc <;> assumption) | (apply qbc_cc <;> assumption) | (apply qc_cc <;> assumption) | (apply qba_cc <;> assumption) | (apply qs_cc <;> assumption)))) | (apply qx_cc <;> assumption) | (apply qj_cc <;> assumption) | (apply ql_cc <;> assumption) | (apply qt_cc <;> assumption) | (apply qp_cc <;> assumption) | (apply qi_cc <;> assumption) | (apply qn_cc <;> assumption) | (apply qf_cc <;> assumption) | (apply qw_cc <;> assumption) | (apply qh_cc <;> assumption) | (apply qy_cc <;> assumption) | (apply qq_cc <;> assumption) | (apply qr_cc <;> assumption) | (apply qb_cc <;> assumption) | (apply qd_cc <;> assumption) | (apply qo_cc <;> assumption) | (apply qbc_cc <;> assumption) | (apply qc_cc <;> assumption) | (apply qba_cc <;> assumption) | (apply qs_cc <;> assumption)))) | (apply qx_cc <;> assumption) | (apply qj_cc <;> assumption) | (apply ql_cc <;> assumption) | (apply qt_cc <;> assumption) | (apply qp_cc <;> assumption) | (apply qi_cc <;> assumption) | (apply qn_cc <;> assumption) | (apply qf_cc <;> assumption) | (apply qw_cc <;> assumption) | (apply qh_cc <;> assumption) | (apply qy_cc <;> assumption) | (apply qq_cc <;> assumption) | (apply qr_cc <;> assumption) | (apply qb_cc <;> assumption) | (apply qd_cc <;> assumption) | (apply qo_cc <;> assumption) | (apply qbc_cc <;> assumption) | (apply qc_cc <;> assumption) | (apply qba_cc <;> assumption) | (apply qs_cc <;> assumption)))) | (apply qx_cc <;> assumption) | (apply qj_cc <;> assumption) | (apply ql_cc <;> assumption) | (apply qt_cc <;> assumption) | (apply qp_cc <;> assumption) | (apply qi_cc <;> assumption) | (apply qn_cc <;> assumption) | (apply qf_cc <;> assumption) | (apply qw_cc <;> assumption) | (apply qh_cc <;> assumption) | (apply qy_cc <;> assumption) | (apply qq_cc <;> assumption) | (apply qr_cc <;> assumption) | (apply qb_cc <;> assumption) | (apply qd_cc <;> assumption) | (apply qo_cc <;> assumption) | (apply qbc_cc <;> assumption) | (apply qc_cc <;> assumption) | (apply qba_cc <;> assumption) | (apply qs_cc <;> assumption)) ?_
    refine Tr.n (by simp [qcl_v]) ?_
    rw [Tr.val_ok, wrap64 (i := (i : Int) + 1) (by omega) (by omega)]; rfl
  · show (qbn_4_step A A (A.length : Int)).val = _
    refine Tr.n (by simp) ?_
    rfl
theorem qbn_is4 : LoopIs tab FT D62 live 29 qbn_lo 0 4 := by
  refine loop_told (sl := qbn_4_sl) (step := qbn_4_st) (out := qbn_4_out) (lor := qbn_lo4) (fin := fun x => (qbn_4_fin (x.1) (x.2.1) (x.2.2))) (fun _ => rfl) ?_ (fun x n => qbn_4_r x.1 x.2.1 x.2.2 n) (fun x ow => qbn_4_h x.1 x.2.1 x.2.2 ow)
  intro s t h
  unfold qbn_lo4 at h
  split at h
  · cases h; exact ⟨(_, _, _), rfl, rfl⟩
  · cases h
def qbn_t (A C : LL) : Tr (Bool) := (.ite ((!((A.length : Int) == (C.length : Int))) = true) (.ok false)
  (.ite ((qbn_o4_1 A C (0 : Int)) = true) (.ok true)
   .no))
def qbn_mk (p : Bool) : Res := [(false, [⟨.bool, .sh, TC.b p⟩])]
def qbn_c (A C : LL) : Bool := is (A = C ∧ Typed tab (.slice 62) (.l A))
def qbn_v (A C : LL) : Bool := true
theorem qbn_l (A C : LL) : (qbn_c A C) = true → (qbn_t A C).val = some (qbn_v A C) := by
  intro h
  obtain ⟨rfl, ht⟩ := is_iff.1 h
  unfold qbn_t
  refine Tr.n (by simp) ?_
  refine Tr.t (is_true ⟨rfl, ht, rfl⟩) ?_
  rfl
def qbn_S : List Arg → Option (Bool × Res) := fun xs => match xs with
  | [(false, [(.slice 62, TC.l A)]), (false, [(.slice 62, TC.l C)])] => some ((qbn_c A C), qbn_mk (qbn_v A C))
  | _ => .none
theorem qbn_e (A C : LL) : runF tab FT D62 live 29 qbn_lo [(false, [(.slice 62, TC.l A)]), (false, [(.slice 62, TC.l C)])] = (qbn_t A C).run fun p => some (qbn_mk p) := by kernel_rfl
theorem qbn_s : ∀ xs r, qbn_S xs = some (true, r) → runF tab FT D62 live 29 qbn_lo xs = some r := by
  intro xs r h
  unfold qbn_S at h
  split at h
  · obtain ⟨h1, rfl⟩ := sp h
    exact fun_told (qbn_e ..) (qbn_l _ _) h1
  · cases h
def D63 : Dt := also D62 29 qbn_S
theorem d63 : DOk Go.Proofs.Tryd.prog tab D63 := d62.also mixed_ok tab_ok names_ok (fnLoops_one (by kernel_rfl) qbn_is4) qbn_s
def qbz_t (x0 : Int) (x1 x2 x3 x4 x5 : LL) (y0 : Int) (y1 y2 y3 y4 y5 : LL) : Tr (Bool) := (.ite ((!(x0 == y0)) = true) (.ok false)
  (.ite ((qbk_c x1 y1) = true) (.ite ((!(qbk_v x1 y1)) = true) (.ok false)
    (.ite ((qbk_c x2 y2) = true) (.ite ((!(qbk_v x2 y2)) = true) (.ok false)
      (.ite ((qbk_c x3 y3) = true) (.ite ((!(qbk_v x3 y3)) = true) (.ok false)
        (.ite ((qbk_c x4 y4) = true) (.ite ((!(qbk_v x4 y4)) = true) (.ok false)
          (.ite ((qbn_c x5 y5) = true) (.ite ((!(qbn_v x5 y5)) = true) (.ok false)
            (.ok true))
           .no))
         .no))
       .no))
     .no))
   .no))
def qbz_mk (p : Bool) : Res := [(false, [⟨.bool, .sh, TC.b p⟩])]
def qbz_c (x0 : Int) (x1 x2 x3 x4 x5 : LL) (y0 : Int) (y1 y2 y3 y4 y5 : LL) : Bool := is (x0 = y0 ∧ x1 = y1 ∧ x2 = y2 ∧ x3 = y3 ∧ x4 = y4 ∧ x5 = y5 ∧ Typed tab (.slice 2) (.l x1) ∧ Typed tab (.slice 2) (.l x2) ∧ Typed tab (.slice 2) (.l x3) ∧ Typed tab (.slice 2) (.l x4) ∧ Typed tab (.slice 62) (.l x5))
def qbz_v (x0 : Int) (x1 x2 x3 x4 x5 : LL) (y0 : Int) (y1 y2 y3 y4 y5 : LL) : Bool := true
theorem qbz_l (x0 : Int) (x1 x2 x3 x4 x5 : LL) (y0 : Int) (y1 y2 y3 y4 y5 : LL) : (qbz_c x0 x1 x2 x3 x4 x5 y0 y1 y2 y3 y4 y5) = true → (qbz_t x0 x1 x2 x3 x4 x5 y0 y1 y2 y3 y4 y5).val = some (qbz_v x0 x1 x2 x3 x4 x5 y0 y1 y2 y3 y4 y5) := by
  intro h
  obtain ⟨rfl, rfl, rfl, rfl, rfl, rfl, t0, t1, t2, t3, t4⟩ := is_iff.1 h
  unfold qbz_t
  refine Tr.n (by simp) ?_
  refine Tr.t (by first | (apply is_true; and_intros <;> (first | rfl | assumption | (apply qx_cc <;> assumption) | (apply qj_cc <;> assumption) | (apply ql_cc <;> assumption) | (apply qt_cc <;> assumption) | (apply qp_cc <;> assumption) | (apply qi_cc <;> assumption) | (apply qn_cc <;> assumption) | (apply qf_cc <;> assumption) | (apply qw_cc <;> assumption) | (apply qh_cc <;> assumption) | (apply qy_cc <;> assumption) | (apply qq_cc <;> assumption) | (apply qr_cc <;> assumption) | (apply qb_cc <;> assumption) | (apply qd_cc <;> assumption) | (apply qo_cc <;> assumption) | (apply qbc_cc <;> assumption) | (apply qc_cc <;> assumption) | (apply qba_cc <;> assumption) | (apply qs_cc <;> assumption) | (first | (apply is_true; and_intros <;> (first | rfl | assumption | (apply qx_cc <;> assumption) | (apply qj_cc <;> assumption) | (apply ql_cc <;> assumption) | (apply qt_cc <;> assumption) | (apply qp_cc <;> assumption) | (apply qi_cc <;> assumption) | (apply qn_cc <;> assumption) | (apply qf_cc <;> assumption) | (apply qw_cc <;> assumption) | (apply qh_cc <;> assumption) | (apply qy_cc <;> assumption) | (apply qq_cc <;> assumption) | (apply qr_cc <;> assumption) | (apply qb_cc <;> assumption) | (apply qd_cc <;> assumption) | (apply qo_cc <;> assumption) | (apply qbc_cc <;> assumption) | (apply qc_cc <;> assumption) | (apply qba_cc <;> assumption) | (apply qs_cc <;> assumption) | (first | (apply is_true; and_intros <;> (first | rfl | assumption | (apply qx_cc <;> assumption) | (apply qj_cc <;> assumption) | (apply ql_cc <;> assumption) | (apply qt_cc <;> assumption) | (apply qp_cc <;> assumption) | (apply qi_cc <;> assumption) | (apply qn_cc <;> assumption) | (apply qf_cc <;> assumption) | (apply qw_cc <;> assumption) | (apply qh_cc <;> assumption) | (apply qy_cc <;> assumption) | (apply qq_cc <;> assumption) | (apply qr_cc <;> assumption) | (apply qb_cc <;> assumption) | (apply qd_cc <;> assumption) | (apply qo_cc <;> assumption) | (apply qbc_cc <;> assumption) | (apply qc_cc <;> assumption) | (apply qba_cc <;> assumption) | (apply qs_cc <;> assumption) | (first | (apply is_true; and_intros <;> (first | rfl | assumption | (apply qx_cc <;> assumption) | (apply qj_cc <;> assumption) | (apply ql_cc <;> assumption) | (apply qt_cc <;> assumption) | (apply qp_cc <;> assumption) | (apply qi_cc <;> assumption) | (apply qn_cc <;> assumption) | (apply qf_cc <;> assumption) | (apply qw_cc <;> assumption) | (apply qh_cc <;> assumption) | (apply qy_cc <;> assumption) | (apply qq_cc <;> assumption) | (apply qr_cc <;> assumption) | (apply qb_cc <;> assumption) | (apply qd_cc <;> assumption) | (apply qo_cc <;> assumption) | (apply qbc_cc <;> assumption) | (apply qc_cc <;> assumption) | (apply qba_cc <;> assumption) | (apply qs_cc <;> assumption))) | (apply qx_cc <;> assumption) | (apply qj_cc <;> assumption) | (apply ql_cc <;> assumption) | (apply qt_cc <;> assumption) | (apply qp_cc <;> assumption) | (apply qi_cc <;> assumption) | (apply qn_cc <;> assumption) | (apply qf_cc <;> assumption) | (apply qw_cc <;> assumption) | (apply qh_cc <;> assumption) | (apply qy_cc <;> assumption) | (apply qq_cc <;> assumption) | (apply qr_cc <;> assumption) | (apply qb_cc <;> assumption) | (apply qd_cc <;> assumption) | (apply qo_cc <;> assumption) | (apply qbc_cc <;> assumption) | (apply qc_cc <;> assumption) | (apply qba_cc <;> assumption) | (apply qs_cc <;> assumption)))) | (apply qx_cc <;> assumption) | (apply qj_cc <;> assumption) | (apply ql_cc <;> assumption) | (apply qt_cc <;> assumption) | (apply qp_cc <;> assumption) | (apply qi_cc <;> assumption) | (apply qn_cc <;> assumption) | (apply qf_cc <;> assumption) | (apply qw_cc <;> assumption) | (apply qh_cc <;> assumption) | (apply qy_cc <;> assumption) | (apply qq_cc <;> assumption) | (apply qr_cc <;> assumption) | (apply qb_cc <;> assumption) | (apply qd_cc <;> assumption) | (apply qo_cc <;> assumption) | (apply qbc_cc <;> assumption) | (apply qc_cc <;> assumption) | (apply qba_cc <;> assumption) | (apply qs_cc <;> assumption)))) | (apply qx_cc <;> assumption) | (apply qj_cc <;> assumption) | (apply ql_cc <;> assumption) | (apply qt_cc <;> assumption) | (apply qp_cc <;> assumption) | (apply qi_cc <;> assumption) | (apply qn_cc <;> assumption) | (apply qf_cc <;> assumption) | (apply qw_cc <;> assumption) | (apply qh_cc <;> assumption) | (apply qy_cc <;> assumption) | (apply qq_cc <;> assumption) | (apply qr_cc <;> assumption) | (apply qb_cc <;> assumption) | (apply qd_cc <;> assumption) | (apply qo_cc <;> assumption) | (apply qbc_cc <;> assumption) | (apply qc_cc <;> assumption) | (apply qba_cc <;> assumption) | (apply qs_cc <;> assumption)))) | (apply qx_cc <;> assumption) | (apply qj_cc <;> assumption) | (apply ql_cc <;> assumption) | (apply qt_cc <;> assumption) | (apply qp_cc <;> assumption) | (apply qi_cc <;> assumption) | (apply qn_cc <;> assumption) | (apply qf_cc <;> assumption) | (apply qw_cc <;> assumption) | (apply qh_cc <;> assumption) | (apply qy_cc <;> assumption) | (apply qq_cc <;> assumption) | (apply qr_cc <;> assumption) | (apply qb_cc <;> assumption) | (apply qd_cc <;> assumption) | (apply qo_cc <;> assumption) | (apply qbc_cc <;> assumption) | (apply qc_cc <;> assumption) | (apply qba_cc <;> assumption) | (apply qs_cc <;> assumption)) ?_
  refine Tr.n (by simp [qbk_v]) ?_
  refine Tr.t (by first | (apply is_true; and_intros <;> (first | rfl | assumption | (apply qx_cc <;> assumption) | (apply qj_cc <;> assumption) | (apply ql_cc <;> assumption) | (apply qt_cc <;> assumption) | (apply qp_cc <;> assumption) | (apply qi_cc <;> assumption) | (apply qn_cc <;> assumption) | (apply qf_cc <;> assumption) | (apply qw_cc <;> assumption) | (apply qh_cc <;> assumption) | (apply qy_cc <;> assumption) | (apply qq_cc <;> assumption) | (apply qr_cc <;> assumption) | (apply qb_cc <;> assumption) | (apply qd_cc <;> assumption) | (apply qo_cc <;> assumption) | (apply qbc_cc <;> assumption) | (apply qc_cc <;> assumption) | (apply qba_cc <;> assumption) | (apply qs_cc <;> assumption) | (first | (apply is_true; and_intros <;> (first | rfl | assumption | (apply qx_cc <;> assumption) | (apply qj_cc <;> assumption) | (apply ql_cc <;> assumption) | (apply qt_cc <;> assumption) | (apply qp_cc <;> assumption) | (apply qi_cc <;> assumption) | (apply qn_cc <;> assumption) | (apply qf_cc <;> assumption) | (apply qw_cc <;> assumption) | (apply qh_cc <;> assumption) | (apply qy_cc <;> assumption) | (apply qq_cc <;> assumption) | (apply qr_cc <;> assumption) | (apply qb_cc <;> assumption) | (apply qd_cc <;> assumption) | (apply qo_cc <;> assumption) | (apply qbc_cc <;> assumption) | (apply qc_cc <;> assumption) | (apply qba_cc <;> assumption) | (apply qs_cc <;> assumption) | (first | (apply is_true; and_intros <;> (first | rfl | assumption | (apply qx_cc <;> assumption) | (apply qj_cc <;> assumption) | (apply ql_cc <;> assumption) | (apply qt_cc <;> assumption) | (apply qp_cc <;> assumption) | (apply qi_cc <;> assumption) | (apply qn_cc <;> assumption) | (apply qf_cc <;> assumption) | (apply qw_cc <;> assumption) | (apply qh_cc <;> assumption) | (apply qy_cc <;> assumption) | (apply qq_cc <;> assumption) | (apply qr_cc <;> assumption) | (apply qb_cc <;> assumption) | (apply qd_cc <;> assumption) | (apply qo_cc <;> assumption) | (apply qbc_cc <;> assumption) | (apply qc_cc <;> assumption) | (apply qba_cc <;> assumption) | (apply qs_cc <;> assumption) | (first | (apply is_true; and_intros <;> (first | rfl | assumption | (apply qx_cc <;> assumption) | (apply qj_cc <;> assumption) | (apply ql_cc <;> assumption) | (apply qt_cc <;> assumption) | (apply qp_cc <;> assumption) | (apply qi_cc <;> assumption) | (apply qn_cc <;> assumption) | (apply qf_cc <;> assumption) | (apply qw_cc <;> assumption) | (apply qh_cc <;> assumption) | (apply qy_cc <;> assumption) | (apply qq_cc <;> assumption) | (apply qr_cc <;> assumption) | (apply qb_cc <;> assumption) | (apply qd_cc <;> assumption) | (apply qo_cc <;> assumption) | (apply qbc_cc <;> assumption) | (apply qc_cc <;> assumption) | (apply qba_cc <;> assumption) | (apply qs_cc <;> assumption))) | (apply qx_cc <;> assumption) | (apply qj_cc <;> assumption) | (apply ql_cc <;> assumption) | (apply qt_cc <;> assumption) | (apply qp_cc <;> assumption) | (apply qi_cc <;> assumption) | (apply qn_cc <;> assumption) | (apply qf_cc <;> assumption) | (apply qw_cc <;> assumption) | (apply qh_cc <;> assumption) | (apply qy_cc <;> assumption) | (apply qq_cc <;> assumption) | (apply qr_cc <;> assumption) | (apply qb_cc <;> assumption) | (apply qd_cc <;> assumption) | (apply qo_cc <;> assumption) | (apply qbc_cc <;> assumption) | (apply qc_cc <;> assumption) | (apply qba_cc <;> assumption) | (apply qs_cc <;> assumption)))) | (apply qx_cc <;> assumption) | (apply qj_cc <;> assumption) | (apply ql_cc <;> assumption) | (apply qt_cc <;> assumption) | (apply qp_cc <;> assumption) | (apply qi_cc <;> assumption) | (apply qn_cc <;> assumption) | (apply qf_cc <;> assumption) | (apply qw_cc <;> assumption) | (apply qh_cc <;> assumption) | (apply qy_cc <;> assumption) | (apply qq_cc <;> assumption) | (apply qr_cc <;> assumption) | (apply qb_cc <;> assumption) | (apply qd_cc <;> assumption) | (apply qo_cc <;> assumption) | (apply qbc_cc <;> assumption) | (apply qc_cc <;> assumption) | (apply qba_cc <;> assumption) | (apply qs_cc <;> assumption)))) | (apply qx_cc <;> assumption) | (apply qj_cc <;> assumption) | (apply ql_cc <;> assumption) | (apply qt_cc <;> assumption) | (apply qp_cc <;> assumption) | (apply qi_cc <;> assumption) | (apply qn_cc <;> assumption) | (apply qf_cc <;> assumption) | (apply qw_cc <;> assumption) | (apply qh_cc <;> assumption) | (apply qy_cc <;> assumption) | (apply qq_cc <;> assumption) | (apply qr_cc <;> assumption) | (apply qb_cc <;> assumption) | (apply qd_cc <;> assumption) | (apply qo_cc <;> assumption) | (apply qbc_cc <;> assumption) | (apply qc_cc <;> assumption) | (apply qba_cc <;> assumption) | (apply qs_cc <;> assumption)))) | (apply qx_cc <;> assumption) | (apply qj_cc <;> assumption) | (apply ql_cc <;> assumption) | (apply qt_cc <;> assumption) | (apply qp_cc <;> assumption) | (apply qi_cc <;> assumption) | (apply qn_cc <;> assumption) | (apply qf_cc <;> assumption) | (apply qw_cc <;> assumption) | (apply qh_cc <;> assumption) | (apply qy_cc <;> assumption) | (apply qq_cc <;> assumption) | (apply qr_cc <;> assumption) | (apply qb_cc <;> assumption) | (apply qd_cc <;> assumption) | (apply qo_cc <;> assumption) | (apply qbc_cc <;> assumption) | (apply qc_cc <;> assumption) | (apply qba_cc <;> assumption) | (apply qs_cc <;> assumption)) ?_
  refine Tr.n (by simp [qbk_v]) ?_
  refine Tr.t (by first | (apply is_true; and_intros <;> (first | rfl | assumption | (apply qx_cc <;> assumption) | (apply qj_cc <;> assumption) | (apply ql_cc <;> assumption) | (apply qt_cc <;> assumption) | (apply qp_cc <;> assumption) | (apply qi_cc <;> assumption) | (apply qn_cc <;> assumption) | (apply qf_cc <;> assumption) | (apply qw_cc <;> assumption) | (apply qh_cc <;> assumption) | (apply qy_cc <;> assumption) | (apply qq_cc <;> assumption) | (apply qr_cc <;> assumption) | (apply qb_cc <;> assumption) | (apply qd_cc <;> assumption) | (apply qo_cc <;> assumption) | (apply qbc_cc <;> assumption) | (apply qc_cc <;> assumption) | (apply qba_cc <;> assumption) | (apply qs_cc <;> assumption) | (first | (apply is_true; and_intros <;> (first | rfl | assumption | (apply qx_cc <;> assumption) | (apply qj_cc <;> assumption) | (apply ql_cc <;> assumption) | (apply qt_cc <;> assumption) | (apply qp_cc <;> assumption) | (apply qi_cc <;> assumption) | (apply qn_cc <;> assumption) | (apply qf_cc <;> assumption) | (apply qw_cc <;> assumption) | (apply qh_cc <;> assumption) | (apply qy_cc <;> assumption) | (apply qq_cc <;> assumption) | (apply qr_cc <;> assumption) | (apply qb_cc <;> assumption) | (apply qd_cc <;> assumption) | (apply qo_cc <;> assumption) | (apply qbc_cc <;> assumption) | (apply qc_cc <;> assumption) | (apply qba_cc <;> assumption) | (apply qs_cc <;> assumption) | (first | (apply is_true; and_intros <;> (first | rfl | assumption | (apply qx_cc <;> assumption) | (apply qj_cc <;> assumption) | (apply ql_cc <;> assumption) | (apply qt_cc <;> assumption) | (apply qp_cc <;> assumption) | (apply qi_cc <;> assumption) | (apply qn_cc <;> assumption) | (apply qf_cc <;> assumption) | (apply qw_cc <;> assumption) | (apply qh_cc <;> assumption) | (apply qy_cc <;> assumption) | (apply qq_cc <;> assumption) | (apply qr_cc <;> assumption) | (apply qb_cc <;> assumption) | (apply qd_cc <;> assumption) | (apply qo_cc <;> assumption) | (apply qbc_cc <;> assumption) | (apply qc_cc <;> assumption) | (apply qba_cc <;> assumption) | (apply qs_cc <;> assumption) | (first | (apply is_true; and_intros <;> (first | rfl | assumption | (apply qx_cc <;> assumption) | (apply qj_cc <;> assumption) | (apply ql_cc <;> assumption) | (apply qt_cc <;> assumption) | (apply qp_cc <;> assumption) | (apply qi_cc <;> assumption) | (apply qn_cc <;> assumption) | (apply qf_cc <;> assumption) | (apply qw_cc <;> assumption) | (apply qh_cc <;> assumption) | (apply qy_cc <;> assumption) | (apply qq_cc <;> assumption) | (apply qr_cc <;> assumption) | (apply qb_cc <;> assumption) | (apply qd_cc <;> assumption) | (apply qo_cc <;> assumption) | (apply qbc_cc <;> assumption) | (apply qc_cc <;> assumption) | (apply qba_cc <;> assumption) | (apply qs_cc <;> assumption))) | (apply qx_cc <;> assumption) | (apply qj_cc <;> assumption) | (apply ql_cc <;> assumption) | (apply qt_cc <;> assumption) | (apply qp_cc <;> assumption) | (apply qi_cc <;> assumption) | (apply qn_cc <;> assumption) | (apply qf_cc <;> assumption) | (apply qw_cc <;> assumption) | (apply qh_cc <;> assumption) | (apply qy_cc <;> assumption) | (apply qq_cc <;> assumption) | (apply qr_cc <;> assumption) | (apply qb_cc <;> assumption) | (apply qd_cc <;> assumption) | (apply qo_cc <;> assumption) | (apply qbc_cc <;> assumption) | (apply qc_cc <;> assumption) | (apply qba_cc <;> assumption) | (apply qs_cc <;> assumption)))) | (apply qx_cc <;> assumption) | (apply qj_cc <;> assumption) | (apply ql_cc <;> assumption) | (apply qt_cc <;> assumption) | (apply qp_cc <;> assumption) | (apply qi_cc <;> assumption) | (apply qn_cc <;> assumption) | (apply qf_cc <;> assumption) | (apply qw_cc <;> assumption) | (apply qh_cc <;> assumption) | (apply qy_cc <;> assumption) | (apply qq_cc <;> assumption) | (apply qr_cc <;> assumption) | (apply qb_cc <;> assumption) | (apply qd_cc <;> assumption) | (apply qo_cc <;> assumption) | (apply qbc_cc <;> assumption) | (apply qc_cc <;> assumption) | (apply qba_cc <;> assumption) | (apply qs_cc <;> assumption)))) | (apply qx_cc <;> assumption) | (apply qj_cc <;> assumption) | (apply ql_cc <;> assumption) | (apply qt_cc <;> assumption) | (apply qp_cc <;> assumption) | (apply qi_cc <;> assumption) | (apply qn_cc <;> assumption) | (apply qf_cc <;> assumption) | (apply qw_cc <;> assumption) | (apply qh_cc <;> assumption) | (apply qy_cc <;> assumption) | (apply qq_cc <;> assumption) | (apply qr_cc <;> assumption) | (apply qb_cc <;> assumption) | (apply qd_cc <;> assumption) | (apply qo_cc <;> assumption) | (apply qbc_cc <;> assumption) | (apply qc_cc <;> assumption) | (apply qba_cc <;> assumption) | (apply qs_cc <;> assumption)))) | (apply qx_cc <;> assumption) | (apply qj_cc <;> assumption) | (apply ql_cc <;> assumption) | (apply qt_cc <;> assumption) | (apply qp_cc <;> assumption) | (apply qi_cc <;> assumption) | (apply qn_cc <;> assumption) | (apply qf_cc <;> assumption) | (apply qw_cc <;> assumption) | (apply qh_cc <;> assumption) | (apply qy_cc <;> assumption) | (apply qq_cc <;> assumption) | (apply qr_cc <;> assumption) | (apply qb_cc <;> assumption) | (apply qd_cc <;> assumption) | (apply qo_cc <;> assumption) | (apply qbc_cc <;> assumption) | (apply qc_cc <;> assumption) | (apply qba_cc <;> assumption) | (apply qs_cc <;> assumption)) ?_
  refine Tr.n (by simp [qbk_v]) ?_
  refine Tr.t (by first | (apply is_true; and_intros <;> (first | rfl | assumption | (apply qx_cc <;> assumption) | (apply qj_cc <;> assumption) | (apply ql_cc <;> assumption) | (apply qt_cc <;> assumption) | (apply qp_cc <;> assumption) | (apply qi_cc <;> assumption) | (apply qn_cc <;> assumption) | (apply qf_cc <;> assumption) | (apply qw_cc <;> assumption) | (apply qh_cc <;> assumption) | (apply qy_cc <;> assumption) | (apply qq_cc <;> assumption) | (apply qr_cc <;> assumption) | (apply qb_cc <;> assumption) | (apply qd_cc <;> assumption) | (apply qo_cc <;> assumption) | (apply qbc_cc <;> assumption) | (apply qc_cc <;> assumption) | (apply qba_cc <;> assumption) | (apply qs_cc <;> assumption) | (first | (apply is_true; and_intros <;> (first | rfl | assumption | (apply qx_cc <;> assumption) | (apply qj_cc <;> assumption) | (apply ql_cc <;> assumption) | (apply qt_cc <;> assumption) | (apply qp_cc <;> assumption) | (apply qi_cc <;> assumption) | (apply qn_cc <;> assumption) | (apply qf_cc <;> assumption) | (apply qw_cc <;> assumption) | (apply qh_cc <;> assumption) | (apply qy_cc <;> assumption) | (apply qq_cc <;> assumption) | (apply qr_cc <;> assumption) | (apply qb_cc <;> assumption) | (apply qd_cc <;> assumption) | (apply qo_cc <;> assumption) | (apply qbc_cc <;> assumption) | (apply qc_cc <;> assumption) | (apply qba_cc <;> assumption) | (apply qs_cc <;> assumption) | (first | (apply is_true; and_intros <;> (first | rfl | assumption | (apply qx_cc <;> assumption) | (apply qj_cc <;> assumption) | (apply ql_cc <;> assumption) | (apply qt_cc <;> assumption) | (apply qp_cc <;> assumption) | (apply qi_cc <;> assumption) | (apply qn_cc <;> assumption) | (apply qf_cc <;> assumption) | (apply qw_cc <;> assumption) | (apply qh_cc <;> assumption) | (apply qy_cc <;> assumption) | (apply qq_cc <;> assumption) | (apply qr_cc <;> assumption) | (apply qb_cc <;> assumption) | (apply qd_cc <;> assumption) | (apply qo_cc <;> assumption) | (apply qbc_cc <;> assumption) | (apply qc_cc <;> assumption) | (apply qba_cc <;> assumption) | (apply qs_cc <;> assumption) | (first | (apply is_true; and_intros <;> (first | rfl | assumption | (apply qx_cc <;> assumption) | (apply qj_cc <;> assumption) | (apply ql_cc <;> assumption) | (apply qt_cc <;> assumption) | (apply qp_cc <;> assumption) | (apply qi_cc <;> assumption) | (apply qn_cc <;> assumption) | (apply qf_cc <;> assumption) | (apply qw_cc <;> assumption) | (apply qh_cc <;> assumption) | (apply qy_cc <;> assumption) | (apply qq_cc <;> assumption) | (apply qr_cc <;> assumption) | (apply qb_cc <;> assumption) | (apply qd_cc <;> assumption) | (apply qo_cc <;> assumption) | (apply qbc_cc <;> assumption) | (apply qc_cc <;> assumption) | (apply qba_cc <;> assumption) | (apply qs_cc <;> assumption))) | (apply qx_cc <;> assumption) | (apply qj_cc <;> assumption) | (apply ql_cc <;> assumption) | (apply qt_cc <;> assumption) | (apply qp_cc <;> assumption) | (apply qi_cc <;> assumption) | (apply qn_cc <;> assumption) | (apply qf_cc <;> assumption) | (apply qw_cc <;> assumption) | (apply qh_cc <;> assumption) | (apply qy_cc <;> assumption) | (apply qq_cc <;> assumption) | (apply qr_cc <;> assumption) | (apply qb_cc <;> assumption) | (apply qd_cc <;> assumption) | (apply qo_cc <;> assumption) | (apply qbc_cc <;> assumption) | (apply qc_cc <;> assumption) | (apply qba_cc <;> assumption) | (apply qs_cc <;> assumption)))) | (apply qx_cc <;> assumption) | (apply qj_cc <;> assumption) | (apply ql_cc <;> assumption) | (apply qt_cc <;> assumption) | (apply qp_cc <;> assumption) | (apply qi_cc <;> assumption) | (apply qn_cc <;> assumption) | (apply qf_cc <;> assumption) | (apply qw_cc <;> assumption) | (apply qh_cc <;> assumption) | (apply qy_cc <;> assumption) | (apply qq_cc <;> assumption) | (apply qr_cc <;> assumption) | (apply qb_cc <;> assumption) | (apply qd_cc <;> assumption) | (apply qo_cc <;> assumption) | (apply qbc_cc <;> assumption) | (apply qc_cc <;> assumption) | (apply qba_cc <;> assumption) | (apply qs_cc <;> assumption)))) | (apply qx_cc <;> assumption) | (apply qj_cc <;> assumption) | (apply ql_cc <;> assumption) | (apply qt_cc <;> assumption) | (apply qp_cc <;> assumption) | (apply qi_cc <;> assumption) | (apply qn_cc <;> assumption) | (apply qf_cc <;> assumption) | (apply qw_cc <;> assumption) | (apply qh_cc <;> assumption) | (apply qy_cc <;> assumption) | (apply qq_cc <;> assumption) | (apply qr_cc <;> assumption) | (apply qb_cc <;> assumption) | (apply qd_cc <;> assumption) | (apply qo_cc <;> assumption) | (apply qbc_cc <;> assumption) | (apply qc_cc <;> assumption) | (apply qba_cc <;> assumption) | (apply qs_cc <;> assumption)))) | (apply qx_cc <;> assumption) | (apply qj_cc <;> assumption) | (apply ql_cc <;> assumption) | (apply qt_cc <;> assumption) | (apply qp_cc <;> assumption) | (apply qi_cc <;> assumption) | (apply qn_cc <;> assumption) | (apply qf_cc <;> assumption) | (apply qw_cc <;> assumption) | (apply qh_cc <;> assumption) | (apply qy_cc <;> assumption) | (apply qq_cc <;> assumption) | (apply qr_cc <;> assumption) | (apply qb_cc <;> assumption) | (apply qd_cc <;> assumption) | (apply qo_cc <;> assumption) | (apply qbc_cc <;> assumption) | (apply qc_cc <;> assumption) | (apply qba_cc <;> assumption) | (apply qs_cc <;> assumption)) ?_
  refine Tr.n (by simp [qbk_v]) ?_
  refine Tr.t (by first | (apply is_true; and_intros <;> (first | rfl | assumption | (apply qx_cc <;> assumption) | (apply qj_cc <;> assumption) | (apply ql_cc <;> assumption) | (apply qt_cc <;> assumption) | (apply qp_cc <;> assumption) | (apply qi_cc <;> assumption) | (apply qn_cc <;> assumption) | (apply qf_cc <;> assumption) | (apply qw_cc <;> assumption) | (apply qh_cc <;> assumption) | (apply qy_cc <;> assumption) | (apply qq_cc <;> assumption) | (apply qr_cc <;> assumption) | (apply qb_cc <;> assumption) | (apply qd_cc <;> assumption) | (apply qo_cc <;> assumption) | (apply qbc_cc <;> assumption) | (apply qc_cc <;> assumption) | (apply qba_cc <;> assumption) | (apply qs_cc <;> assumption) | (first | (apply is_true; and_intros <;> (first | rfl | assumption | (apply qx_cc <;> assumption) | (apply qj_cc <;> assumption) | (apply ql_cc <;> assumption) | (apply qt_cc <;> assumption) | (apply qp_cc <;> assumption) | (apply qi_cc <;> assumption) | (apply qn_cc <;> assumption) | (apply qf_cc <;> assumption) | (apply qw_cc <;> assumption) | (apply qh_cc <;> assumption) | (apply qy_cc <;> assumption) | (apply qq_cc <;> assumption) | (apply qr_cc <;> assumption) | (apply qb_cc <;> assumption) | (apply qd_cc <;> assumption) | (apply qo_cc <;> assumption) | (apply qbc_cc <;> assumption) | (apply qc_cc <;> assumption) | (apply qba_cc <;> assumption) | (apply qs_cc <;> assumption) | (first | (apply is_true; and_intros <;> (first | rfl | assumption | (apply qx_cc <;> assumption) | (apply qj_cc <;> assumption) | (apply ql_cc <;> assumption) | (apply qt_cc <;> assumption) | (apply qp_cc <;> assumption) | (apply qi_cc <;> assumption) | (apply qn_cc <;> assumption) | (apply qf_cc <;> assumption) | (apply qw_cc <;> assumption) | (apply qh_cc <;> assumption) | (apply qy_cc <;> assumption) | (apply qq_cc <;> assumption) | (apply qr_cc <;> assumption) | (apply qb_cc <;> assumption) | (apply qd_cc <;> assumption) | (apply qo_cc <;> assumption) | (apply qbc_cc <;> assumption) | (apply qc_cc <;> assumption) | (apply qba_cc <;> assumption) | (apply qs_cc <;> assumption) | (first | (apply is_true; and_intros <;> (first | rfl | assumption | (apply qx_cc <;> assumption) | (apply qj_cc <;> assumption) | (apply ql_cc <;> assumption) | (apply qt_cc <;> assumption) | (apply qp_cc <;> assumption) | (apply qi_cc <;> assumption) | (apply qn_cc <;> assumption) | (apply qf_cc <;> assumption) | (apply qw_cc <;> assumption) | (apply qh_cc <;> assumption) | (apply qy_cc <;> assumption) | (apply qq_cc <;> assumption) | (apply qr_cc <;> assumption) | (apply qb_cc <;> assumption) | (apply qd_cc <;> assumption) | (apply qo_cc <;> assumption) | (apply qbc_cc <;> assumption) | (apply qc_cc <;> assumption) | (apply qba_cc <;> assumption) | (apply qs_cc <;> assumption))) | (apply qx_cc <;> assumption) | (apply qj_cc <;> assumption) | (apply ql_cc <;> assumption) | (apply qt_cc <;> assumption) | (apply qp_cc <;> assumption) | (apply qi_cc <;> assumption) | (apply qn_cc <;> assumption) | (apply qf_cc <;> assumption) | (apply qw_cc <;> assumption) | (apply qh_cc <;> assumption) | (apply qy_cc <;> assumption) | (apply qq_cc <;> assumption) | (apply qr_cc <;> assumption) | (apply qb_cc <;> assumption) | (apply qd_cc <;> assumption) | (apply qo_cc <;> assumption) | (apply qbc_cc <;> assumption) | (apply qc_cc <;> assumption) | (apply qba_cc <;> assumption) | (apply qs_cc <;> assumption)))) | (apply qx_cc <;> assumption) | (apply qj_cc <;> assumption) | (apply ql_cc <;> assumption) | (apply qt_cc <;> assumption) | (apply qp_cc <;> assumption) | (apply qi_cc <;> assumption) | (apply qn_cc <;> assumption) | (apply qf_cc <;> assumption) | (apply qw_cc <;> assumption) | (apply qh_cc <;> assumption) | (apply qy_cc <;> assumption) | (apply qq_cc <;> assumption) | (apply qr_cc <;> assumption) | (apply qb_cc <;> assumption) | (apply qd_cc <;> assumption) | (apply qo_cc <;> assumption) | (apply qbc_cc <;> assumption) | (apply qc_cc <;> assumption) | (apply qba_cc <;> assumption) | (apply qs_cc <;> assumption)))) | (apply qx_cc <;> assumption) | (apply qj_cc <;> assumption) | (apply ql_cc <;> assumption) | (apply qt_cc <;> assumption) | (apply qp_cc <;> assumption) | (apply qi_cc <;> assumption) | (apply qn_cc <;> assumption) | (apply qf_cc <;> assumption) | (apply qw_cc <;> assumption) | (apply qh_cc <;> assumption) | (apply qy_cc <;> assumption) | (apply qq_cc <;> assumption) | (apply qr_cc <;> assumption) | (apply qb_cc <;> assumption) | (apply qd_cc <;> assumption) | (apply qo_cc <;> assumption) | (apply qbc_cc <;> assumption) | (apply qc_cc <;> assumption) | (apply qba_cc <;> assumption) | (apply qs_cc <;> assumption)))) | (apply qx_cc <;> assumption) | (apply qj_cc <;> assumption) | (apply ql_cc <;> assumption) | (apply qt_cc <;> assumption) | (apply qp_cc <;> assumption) | (apply qi_cc <;> assumption) | (apply qn_cc <;> assumption) | (apply qf_cc <;> assumption) | (apply qw_cc <;> assumption) | (apply qh_cc <;> assumption) | (apply qy_cc <;> assumption) | (apply qq_cc <;> assumption) | (apply qr_cc <;> assumption) | (apply qb_cc <;> assumption) | (apply qd_cc <;> assumption) | (apply qo_cc <;> assumption) | (apply qbc_cc <;> assumption) | (apply qc_cc <;> assumption) | (apply qba_cc <;> assumption) | (apply qs_cc <;> assumption)) ?_
  refine Tr.n (by simp [qbn_v]) ?_
  rfl
def qbz_S : List Arg → Option (Bool × Res) := fun xs => match xs with
  | [(true, [(.int .i64, TC.i x0), (.slice 2, TC.l x1), (.slice 2, TC.l x2), (.slice 2, TC.l x3), (.slice 2, TC.l x4), (.slice 62, TC.l x5)]), (true, [(.int .i64, TC.i y0), (.slice 2, TC.l y1), (.slice 2, TC.l y2), (.slice 2, TC.l y3), (.slice 2, TC.l y4), (.slice 62, TC.l y5)])] => some ((qbz_c x0 x1 x2 x3 x4 x5 y0 y1 y2 y3 y4 y5), qbz_mk (qbz_v x0 x1 x2 x3 x4 x5 y0 y1 y2 y3 y4 y5))
  | _ => .none
theorem qbz_e (x0 : Int) (x1 x2 x3 x4 x5 : LL) (y0 : Int) (y1 y2 y3 y4 y5 : LL) : runF tab FT D63 live 15 noLoops [(true, [(.int .i64, TC.i x0), (.slice 2, TC.l x1), (.slice 2, TC.l x2), (.slice 2, TC.l x3), (.slice 2, TC.l x4), (.slice 62, TC.l x5)]), (true, [(.int .i64, TC.i y0), (.slice 2, TC.l y1), (.slice 2, TC.l y2), (.slice 2, TC.l y3), (.slice 2, TC.l y4), (.slice 62, TC.l y5)])] = (qbz_t x0 x1 x2 x3 x4 x5 y0 y1 y2 y3 y4 y5).run fun p => some (qbz_mk p) := by kernel_rfl
theorem qbz_s : ∀ xs r, qbz_S xs = some (true, r) → runF tab FT D63 live 15 noLoops xs = some r := by
  intro xs r h
  unfold qbz_S at h
  split at h
  · obtain ⟨h1, rfl⟩ := sp h
    exact fun_told (qbz_e ..) (qbz_l _ _ _ _ _ _ _ _ _ _ _ _) h1
  · cases h
def D64 : Dt := also D63 15 qbz_S
theorem d64 : DOk Go.Proofs.Tryd.prog tab D64 := d63.also mixed_ok tab_ok names_ok noLoops_ok qbz_s
def qch_t (x0 : BS) (x1 : Int) (x2 x3 x4 x5 x6 : LL) (x7 : Int) (x8 x9 x10 x11 x12 : LL) (y0 : BS) (y1 : Int) (y2 y3 y4 y5 y6 : LL) (y7 : Int) (y8 y9 y10 y11 y12 : LL) : Tr (Bool) := (.ite ((!(x0 == y0)) = true) (.ok false)
  (.ite ((qbz_c x1 x2 x3 x4 x5 x6 y1 y2 y3 y4 y5 y6) = true) (.ite ((!(qbz_v x1 x2 x3 x4 x5 x6 y1 y2 y3 y4 y5 y6)) = true) (.ok false)
    (.ite ((qbz_c x7 x8 x9 x10 x11 x12 y7 y8 y9 y10 y11 y12) = true) (.ite ((!(qbz_v x7 x8 x9 x10 x11 x12 y7 y8 y9 y10 y11 y12)) = true) (.ok false)
      (.ok true))
     .no))
   .no))
def qch_mk (p : Bool) : Res := [(false, [⟨.bool, .sh, TC.b p⟩])]
def qch_c (x0 : BS) (x1 : Int) (x2 x3 x4 x5 x6 : LL) (x7 : Int) (x8 x9 x10 x11 x12 : LL) (y0 : BS) (y1 : Int) (y2 y3 y4 y5 y6 : LL) (y7 : Int) (y8 y9 y10 y11 y12 : LL) : Bool := is (x0 = y0 ∧ x1 = y1 ∧ x2 = y2 ∧ x3 = y3 ∧ x4 = y4 ∧ x5 = y5 ∧ x6 = y6 ∧ x7 = y7 ∧ x8 = y8 ∧ x9 = y9 ∧ x10 = y10 ∧ x11 = y11 ∧ x12 = y12 ∧ Typed tab (.str) (.s x0) ∧ Typed tab (.slice 2) (.l x2) ∧ Typed tab (.slice 2) (.l x3) ∧ Typed tab (.slice 2) (.l x4) ∧ Typed tab (.slice 2) (.l x5) ∧ Typed tab (.slice 62) (.l x6) ∧ Typed tab (.slice 2) (.l x8) ∧ Typed tab (.slice 2) (.l x9) ∧ Typed tab (.slice 2) (.l x10) ∧ Typed tab (.slice 2) (.l x11) ∧ Typed tab (.slice 62) (.l x12))
def qch_v (x0 : BS) (x1 : Int) (x2 x3 x4 x5 x6 : LL) (x7 : Int) (x8 x9 x10 x11 x12 : LL) (y0 : BS) (y1 : Int) (y2 y3 y4 y5 y6 : LL) (y7 : Int) (y8 y9 y10 y11 y12 : LL) : Bool := true
theorem qch_l (x0 : BS) (x1 : Int) (x2 x3 x4 x5 x6 : LL) (x7 : Int) (x8 x9 x10 x11 x12 : LL) (y0 : BS) (y1 : Int) (y2 y3 y4 y5 y6 : LL) (y7 : Int) (y8 y9 y10 y11 y12 : LL) : (qch_c x0 x1 x2 x3 x4 x5 x6 x7 x8 x9 x10 x11 x12 y0 y1 y2 y3 y4 y5 y6 y7 y8 y9 y10 y11 y12) = true → (qch_t x0 x1 x2 x3 x4 x5 x6 x7 x8 x9 x10 x11 x12 y0 y1 y2 y3 y4 y5 y6 y7 y8 y9 y10 y11 y12).val = some (qch_v x0 x1 x2 x3 x4 x5 x6 x7 x8 x9 x10 x11 x12 y0 y1 y2 y3 y4 y5 y6 y7 y8 y9 y10 y11 y12) := by
  intro h
  obtain ⟨rfl, rfl, rfl, rfl, rfl, rfl, rfl, rfl, rfl, rfl, rfl, rfl, rfl, t0, t1, t2, t3, t4, t5, t6, t7, t8, t9, t10⟩ := is_iff.1 h
  unfold qch_t
  refine Tr.n (by simp) ?_
  refine Tr.t (by first | (apply is_true; and_intros <;> (first | rfl | assumption | (apply qx_cc <;> assumption) | (apply qj_cc <;> assumption) | (apply ql_cc <;> assumption) | (apply qt_cc <;> assumption) | (apply qp_cc <;> assumption) | (apply qi_cc <;> assumption) | (apply qn_cc <;> assumption) | (apply qf_cc <;> assumption) | (apply qw_cc <;> assumption) | (apply qh_cc <;> assumption) | (apply qy_cc <;> assumption) | (apply qq_cc <;> assumption) | (apply qr_cc <;> assumption) | (apply qb_cc <;> assumption) | (apply qd_cc <;> assumption) | (apply qo_cc <;> assumption) | (apply qbc_cc <;> assumption) | (apply qc_cc <;> assumption) | (apply qba_cc <;> assumption) | (apply qs_cc <;> assumption) | (first | (apply is_true; and_intros <;> (first | rfl | assumption | (apply qx_cc <;> assumption) | (apply qj_cc <;> assumption) | (apply ql_cc <;> assumption) | (apply qt_cc <;> assumption) | (apply qp_cc <;> assumption) | (apply qi_cc <;> assumption) | (apply qn_cc <;> assumption) | (apply qf_cc <;> assumption) | (apply qw_cc <;> assumption) | (apply qh_cc <;> assumption) | (apply qy_cc <;> assumption) | (apply qq_cc <;> assumption) | (apply qr_cc <;> assumption) | (apply qb_cc <;> assumption) | (apply qd_cc <;> assumption) | (apply qo_cc <;> assumption) | (apply qbc_cc <;> assumption) | (apply qc_cc <;> assumption) | (apply qba_cc <;> assumption) | (apply qs_cc <;> assumption) | (first | (apply is_true; and_intros <;> (first | rfl | assumption | (apply qx_cc <;> assumption) | (apply qj_cc <;> assumption) | (apply ql_cc <;> assumption) | (apply qt_cc <;> assumption) | (apply qp_cc <;> assumption) | (apply qi_cc <;> assumption) | (apply qn_cc <;> assumption) | (apply qf_cc <;> assumption) | (apply qw_cc <;> assumption) | (apply qh_cc <;> assumption) | (apply qy_cc <;> assumption) | (apply qq_cc <;> assumption) | (apply qr_cc <;> assumption) | (apply qb_cc <;> assumption) | (apply qd_cc <;> assumption) | (apply qo_cc <;> assumption) | (apply qbc_cc <;> assumption) | (apply qc_cc <;> assumption) | (apply qba_cc <;> assumption) | (apply qs_cc <;> assumption) | (first | (apply is_true; and_intros <;> (first | rfl | assumption | (apply qx_cc <;> assumption) | (apply qj_cc <;> assumption) | (apply ql_cc <;> assumption) | (apply qt_cc <;> assumption) | (apply qp_cc <;> assumption) | (apply qi_cc <;> assumption) | (apply qn_cc <;> assumption) | (apply qf_cc <;> assumption) | (apply qw_cc <;> assumption) | (apply qh_cc <;> assumption) | (apply qy_cc <;> assumption) | (apply qq_cc <;> assumption) | (apply qr_cc <;> assumption) | (apply qb_cc <;> assumption) | (apply qd_cc <;> assumption) | (apply qo_cc <;> assumption) | (apply qbc_cc <;> assumption) | (apply qc_cc <;> assumption) | (apply qba_cc <;> assumption) | (apply qs_cc <;> assumption))) | (apply qx_cc <;> assumption) | (apply qj_cc <;> assumption) | (apply ql_cc <;> assumption) | (apply qt_cc <;> assumption) | (apply qp_cc <;> assumption) | (apply qi_cc <;> assumption) | (apply qn_cc <;> assumption) | (apply qf_cc <;> assumption) | (apply qw_cc <;> assumption) | (apply qh_cc <;> assumption) | (apply qy_cc <;> assumption) | (apply qq_cc <;> assumption) | (apply qr_cc <;> assumption) | (apply qb_cc <;> assumption) | (apply qd_cc <;> assumption) | (apply qo_cc <;> assumption) | (apply qbc_cc <;> assumption) | (apply qc_cc <;> assumption) | (apply qba_cc <;> assumption) | (apply qs_cc <;> assumption)))) | (apply qx_cc <;> assumption) | (apply qj_cc <;> assumption) | (apply ql_cc <;> assumption) | (apply qt_cc <;> assumption) | (apply qp_cc <;> assumption) | (apply qi_cc <;> assumption) | (apply qn_cc <;> assumption) | (apply qf_cc <;> assumption) | (apply qw_cc <;> assumption) | (apply qh_cc <;> assumption) | (apply qy_cc <;> assumption) | (apply qq_cc <;> assumption) | (apply qr_cc <;> assumption) | (apply qb_cc <;> assumption) | (apply qd_cc <;> assumption) | (apply qo_cc <;> assumption) | (apply qbc_cc <;> assumption) | (apply qc_cc <;> assumption) | (apply qba_cc <;> assumption) | (apply qs_cc <;> assumption)))) | (apply qx_cc <;> assumption) | (apply qj_cc <;> assumption) | (apply ql_cc <;> assumption) | (apply qt_cc <;> assumption) | (apply qp_cc <;> assumption) | (apply qi_cc <;> assumption) | (apply qn_cc <;> assumption) | (apply qf_cc <;> assumption) | (apply qw_cc <;> assumption) | (apply qh_cc <;> assumption) | (apply qy_cc <;> assumption) | (apply qq_cc <;> assumption) | (apply qr_cc <;> assumption) | (apply qb_cc <;> assumption) | (apply qd_cc <;> assumption) | (apply qo_cc <;> assumption) | (apply qbc_cc <;> assumption) | (apply qc_cc <;> assumption) | (apply qba_cc <;> assumption) | (apply qs_cc <;> assumption)))) | (apply qx_cc <;> assumption) | (apply qj_cc <;> assumption) | (apply ql_cc <;> assumption) | (apply qt_cc <;> assumption) | (apply qp_cc <;> assumption) | (apply qi_cc <;> assumption) | (apply qn_cc <;> assumption) | (apply qf_cc <;> assumption) | (apply qw_cc <;> assumption) | (apply qh_cc <;> assumption) | (apply qy_cc <;> assumption) | (apply qq_cc <;> assumption) | (apply qr_cc <;> assumption) | (apply qb_cc <;> assumption) | (apply qd_cc <;> assumption) | (apply qo_cc <;> assumption) | (apply qbc_cc <;> assumption) | (apply qc_cc <;> assumption) | (apply qba_cc <;> assumption) | (apply qs_cc <;> assumption)) ?_
  refine Tr.n (by simp [qbz_v]) ?_
  refine Tr.t (by first | (apply is_true; and_intros <;> (first | rfl | assumption | (apply qx_cc <;> assumption) | (apply qj_cc <;> assumption) | (apply ql_cc <;> assumption) | (apply qt_cc <;> assumption) | (apply qp_cc <;> assumption) | (apply qi_cc <;> assumption) | (apply qn_cc <;> assumption) | (apply qf_cc <;> assumption) | (apply qw_cc <;> assumption) | (apply qh_cc <;> assumption) | (apply qy_cc <;> assumption) | (apply qq_cc <;> assumption) | (apply qr_cc <;> assumption) | (apply qb_cc <;> assumption) | (apply qd_cc <;> assumption) | (apply qo_cc <;> assumption) | (apply qbc_cc <;> assumption) | (apply qc_cc <;> assumption) | (apply qba_cc <;> assumption) | (apply qs_cc <;> assumption) | (first | (apply is_true; and_intros <;> (first | rfl | assumption | (apply qx_cc <;> assumption) | (apply qj_cc <;> assumption) | (apply ql_cc <;> assumption) | (apply qt_cc <;> assumption) | (apply qp_cc <;> assumption) | (apply qi_cc <;> assumption) | (apply qn_cc <;> assumption) | (apply qf_cc <;> assumption) | (apply qw_cc <;> assumption) | (apply qh_cc <;> assumption) | (apply qy_cc <;> assumption) | (apply qq_cc <;> assumption) | (apply qr_cc <;> assumption) | (apply qb_cc <;> assumption) | (apply qd_cc <;> assumption) | (apply qo_cc <;> assumption) | (apply qbc_cc <;> assumption) | (apply qc_cc <;> assumption) | (apply qba_cc <;> assumption) | (apply qs_cc <;> assumption) | (first | (apply is_true; and_intros <;> (first | rfl | assumption | (apply qx_cc <;> assumption) | (apply qj_cc <;> assumption) | (apply ql_cc <;> assumption) | (apply qt_cc <;> assumption) | (apply qp_cc <;> assumption) | (apply qi_cc <;> assumption) | (apply qn_cc <;> assumption) | (apply qf_cc <;> assumption) | (apply qw_cc <;> assumption) | (apply qh_cc <;> assumption) | (apply qy_cc <;> assumption) | (apply qq_cc <;> assumption) | (apply qr_cc <;> assumption) | (apply qb_cc <;> assumption) | (apply qd_cc <;> assumption) | (apply qo_cc <;> assumption) | (apply qbc_cc <;> assumption) | (apply qc_cc <;> assumption) | (apply qba_cc <;> assumption) | (apply qs_cc <;> assumption) | (first | (apply is_true; and_intros <;> (first | rfl | assumption | (apply qx_cc <;> assumption) | (apply qj_cc <;> assumption) | (apply ql_cc <;> assumption) | (apply qt_cc <;> assumption) | (apply qp_cc <;> assumption) | (apply qi_cc <;> assumption) | (apply qn_cc <;> assumption) | (apply qf_cc <;> assumption) | (apply qw_cc <;> assumption) | (apply qh_cc <;> assumption) | (apply qy_cc <;> assumption) | (apply qq_cc <;> assumption) | (apply qr_cc <;> assumption) | (apply qb_cc <;> assumption) | (apply qd_cc <;> assumption) | (apply qo_cc <;> assumption) | (apply qbc_cc <;> assumption) | (apply qc_cc <;> assumption) | (apply qba_cc <;> assumption) | (apply qs_cc <;> assumption))) | (apply qx_cc <;> assumption) | (apply qj_cc <;> assumption) | (apply ql_cc <;> assumption) | (apply qt_cc <;> assumption) | (apply qp_cc <;> assumption) | (apply qi_cc <;> assumption) | (apply qn_cc <;> assumption) | (apply qf_cc <;> assumption) | (apply qw_cc <;> assumption) | (apply qh_cc <;> assumption) | (apply qy_cc <;> assumption) | (apply qq_cc <;> assumption) | (apply qr_cc <;> assumption) | (apply qb_cc <;> assumption) | (apply qd_cc <;> assumption) | (apply qo_cc <;> assumption) | (apply qbc_cc <;> assumption) | (apply qc_cc <;> assumption) | (apply qba_cc <;> assumption) | (apply qs_cc <;> assumption)))) | (apply qx_cc <;> assumption) | (apply qj_cc <;> assumption) | (apply ql_cc <;> assumption) | (apply qt_cc <;> assumption) | (apply qp_cc <;> assumption) | (apply qi_cc <;> assumption) | (apply qn_cc <;> assumption) | (apply qf_cc <;> assumption) | (apply qw_cc <;> assumption) | (apply qh_cc <;> assumption) | (apply qy_cc <;> assumption) | (apply qq_cc <;> assumption) | (apply qr_cc <;> assumption) | (apply qb_cc <;> assumption) | (apply qd_cc <;> assumption) | (apply qo_cc <;> assumption) | (apply qbc_cc <;> assumption) | (apply qc_cc <;> assumption) | (apply qba_cc <;> assumption) | (apply qs_cc <;> assumption)))) | (apply qx_cc <;> assumption) | (apply qj_cc <;> assumption) | (apply ql_cc <;> assumption) | (apply qt_cc <;> assumption) | (apply qp_cc <;> assumption) | (apply qi_cc <;> assumption) | (apply qn_cc <;> assumption) | (apply qf_cc <;> assumption) | (apply qw_cc <;> assumption) | (apply qh_cc <;> assumption) | (apply qy_cc <;> assumption) | (apply qq_cc <;> assumption) | (apply qr_cc <;> assumption) | (apply qb_cc <;> assumption) | (apply qd_cc <;> assumption) | (apply qo_cc <;> assumption) | (apply qbc_cc <;> assumption) | (apply qc_cc <;> assumption) | (apply qba_cc <;> assumption) | (apply qs_cc <;> assumption)))) | (apply qx_cc <;> assumption) | (apply qj_cc <;> assumption) | (apply ql_cc <;> assumption) | (apply qt_cc <;> assumption) | (apply qp_cc <;> assumption) | (apply qi_cc <;> assumption) | (apply qn_cc <;> assumption) | (apply qf_cc <;> assumption) | (apply qw_cc <;> assumption) | (apply qh_cc <;> assumption) | (apply qy_cc <;> assumption) | (apply qq_cc <;> assumption) | (apply qr_cc <;> assumption) | (apply qb_cc <;> assumption) | (apply qd_cc <;> assumption) | (apply qo_cc <;> assumption) | (apply qbc_cc <;> assumption) | (apply qc_cc <;> assumption) | (apply qba_cc <;> assumption) | (apply qs_cc <;> assumption)) ?_
  refine Tr.n (by simp [qbz_v]) ?_
  rfl
end
end Go.Proofs.YtjhbfeeaehaniaaDoor.V
