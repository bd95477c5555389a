/- What the functions of FnExactEncodeMapping answer. No condition. -/
import Derived.Test.YtjhbfeeaehaniaaDoorVFnExactEncodeMappingP2
namespace Go.Proofs.YtjhbfeeaehaniaaDoor.V
open Go
set_option maxRecDepth 100000
set_option linter.unusedVariables false
set_option linter.unusedSectionVars false
set_option linter.unusedSimpArgs false
set_option maxHeartbeats 2000000
noncomputable section
theorem qn_f5_eq (k : Int) (A S C B P : LL) (m i : Int) : qn_f5 k A S C B P m i = bif slabP A S C B i then Sum.inl () else Sum.inr (Sum.inl ()) := by
  unfold qn_f5 slabP
  show (bif !(inZ (kAt A i) 0 40) then _ else bif !(inZ (kAt C i) 1 40) then _ else bif !(inZ (kAt B i) 1 40) then _ else bif !(inZ (kAt S i) (kAt B i) 40) then _ else bif decide (endZ (kAt A i) (kAt S i) (kAt C i) (kAt B i) > 40) then _ else _) = _
  generalize inZ (kAt A i) 0 40 = p0, inZ (kAt C i) 1 40 = p1, inZ (kAt B i) 1 40 = p2, inZ (kAt S i) (kAt B i) 40 = p3, decide (endZ (kAt A i) (kAt S i) (kAt C i) (kAt B i) > 40) = p4
  cases p0 <;> cases p1 <;> cases p2 <;> cases p3 <;> cases p4 <;> rfl
theorem qn_R5_eq (k : Int) (A S C B P : LL) (m : Int) : qn_R5 k A S C B P m 0 = bif slabAll A S C B then Sum.inr () else Sum.inl () := by
  unfold qn_R5
  exact (iter_all (P := fun i : Nat => slabP A S C B (i : Int)) (g := fun _ a => a) (w := Sum.inl ()) fun j a _ => qn_f5_eq k A S C B P m _)
theorem qn_5_h (k : Int) (A S C B P : LL) (m i : Int) (ow : qn_5_ω) : ((qn_5_fin k A S C B P m i)).val = some ow → ∃ fuel, loopN qn_5_st fuel (k, A, S, C, B, P, m, i) = some ow := by
  refine auto_const (R := (qn_R5 k A S C B P m i)) rfl (iter_onR (f := (fun i a => (qn_f5 k A S C B P m (i : Int)))) (fin := (fun a => (qn_e5 k A S C B P m))) (Q := endsAs () ()) (fun i a => by unfold qn_f5; exact (onR_bif rfl (onR_bif rfl (onR_bif rfl (onR_bif rfl (onR_bif rfl trivial)))))) (fun _ => rfl) _ _ _) ?_
  intro ho
  have ho : is (i = 0 ∧ Typed tab (.slice 2) (.l A) ∧ m = (A.length : Int) ∧ S.length = A.length ∧ C.length = A.length ∧ B.length = A.length) = true := ho.elim id id
  obtain ⟨rfl, ht, rfl, hS, hC, hB⟩ := is_iff.1 ho
  have hlen : A.length ≤ 140737488351232 := by have := typed_room ht; simp only [show (tab 2).bytes = 8 from rfl] at this; omega
  refine ⟨(A.length) + 1, ?_⟩
  refine iter_loop (step := qn_5_st) (A.length) (fun i a => (qn_f5 k A S C B P (A.length : Int) (i : Int))) (fun a => (qn_e5 k A S C B P (A.length : Int))) (fun i a => (k, A, S, C, B, P, (A.length : Int), (i : Int))) (fun _ _ => True) trivial (fun i a hi hI => ⟨?_, fun _ _ => trivial⟩) (fun a hI => ?_)
  · show (qn_5_step k A S C B P (A.length : Int) (i : Int)).val = _
    unfold qn_5_step qn_f5
    skip
    refine Tr.t (by simp; omega) ?_
    exact (Tr.t (by first | omega | (constructor <;> omega) | (exact is_true (by and_intros <;> omega))) (Tr.bf rfl (Tr.t (by first | omega | (constructor <;> omega) | (exact is_true (by and_intros <;> omega))) (Tr.bf rfl (Tr.t (by first | omega | (constructor <;> omega) | (exact is_true (by and_intros <;> omega))) (Tr.bf rfl (Tr.t (by first | omega | (constructor <;> omega) | (exact is_true (by and_intros <;> omega))) (Tr.t (by first | omega | (constructor <;> omega) | (exact is_true (by and_intros <;> omega))) (Tr.bf rfl (Tr.t (by first | (exact is_true (by and_intros <;> omega)) | (first | (apply is_true; and_intros <;> (first | rfl | assumption | (apply qx_cc <;> assumption) | (apply qj_cc <;> assumption) | (apply ql_cc <;> assumption) | (apply qt_cc <;> assumption) | (apply qp_cc <;> assumption) | (apply qi_cc <;> assumption) | (first | (apply is_true; and_intros <;> (first | rfl | assumption | (apply qx_cc <;> assumption) | (apply qj_cc <;> assumption) | (apply ql_cc <;> assumption) | (apply qt_cc <;> assumption) | (apply qp_cc <;> assumption) | (apply qi_cc <;> assumption) | (first | (apply is_true; and_intros <;> (first | rfl | assumption | (apply qx_cc <;> assumption) | (apply qj_cc <;> assumption) | (apply ql_cc <;> assumption) | (apply qt_cc <;> assumption) | (apply qp_cc <;> assumption) | (apply qi_cc <;> assumption))) | (apply qx_cc <;> assumption) | (apply qj_cc <;> assumption) | (apply ql_cc <;> assumption) | (apply qt_cc <;> assumption) | (apply qp_cc <;> assumption) | (apply qi_cc <;> assumption)))) | (apply qx_cc <;> assumption) | (apply qj_cc <;> assumption) | (apply ql_cc <;> assumption) | (apply qt_cc <;> assumption) | (apply qp_cc <;> assumption) | (apply qi_cc <;> assumption)))) | (apply qx_cc <;> assumption) | (apply qj_cc <;> assumption) | (apply ql_cc <;> assumption) | (apply qt_cc <;> assumption) | (apply qp_cc <;> assumption) | (apply qi_cc <;> assumption))) (Tr.bf rfl (by rw [Tr.val_ok, wrap64 (i := (i : Int) + 1) (by omega) (by omega)]; rfl))))))))))))
  · show (qn_5_step k A S C B P (A.length : Int) (A.length : Int)).val = _
    refine Tr.n (by first | (simp; done) | (simp; omega) | omega) ?_
    rfl
theorem qn_is5 : LoopIs tab FT D17 live 33 qn_lo 0 5 := by
  refine loop_told (sl := qn_5_sl) (step := qn_5_st) (out := qn_5_out) (lor := qn_lo5) (fin := fun x => (qn_5_fin (x.1) (x.2.1) (x.2.2.1) (x.2.2.2.1) (x.2.2.2.2.1) (x.2.2.2.2.2.1) (x.2.2.2.2.2.2.1) (x.2.2.2.2.2.2.2))) (fun _ => rfl) ?_ (fun x n => qn_5_r x.1 x.2.1 x.2.2.1 x.2.2.2.1 x.2.2.2.2.1 x.2.2.2.2.2.1 x.2.2.2.2.2.2.1 x.2.2.2.2.2.2.2 n) (fun x ow => qn_5_h x.1 x.2.1 x.2.2.1 x.2.2.2.1 x.2.2.2.2.1 x.2.2.2.2.2.1 x.2.2.2.2.2.2.1 x.2.2.2.2.2.2.2 ow)
  intro s t h
  unfold qn_lo5 at h
  split at h
  · cases h; exact ⟨(_, _, _, _, _, _, _, _), rfl, rfl⟩
  · cases h
def qn_t (k : Int) (A S C B P : LL) : Tr (Bool) := (.ite ((decide ((A.length : Int) > (3 : Int))) = true) (.ok false)
  (.ite ((!((S.length : Int) == (A.length : Int))) = true) (.ok false)
   (.ite ((!((C.length : Int) == (A.length : Int))) = true) (.ok false)
    (.ite ((!((B.length : Int) == (A.length : Int))) = true) (.ok false)
     (.ite ((decide ((P.length : Int) > (0 : Int))) = true) (.ok false)
      (.ite ((qn_k5_1 k A S C B P (A.length : Int) (0 : Int)) = true) (.ite ((qn_o5_2 k A S C B P (A.length : Int) (0 : Int)) = true) (.ok false)
        .no)
       (.ite ((qn_o5_3 k A S C B P (A.length : Int) (0 : Int)) = true) (.ok true)
        .no)))))))
def qn_mk (p : Bool) : Res := [(false, [⟨.bool, .sh, TC.b p⟩])]
def qn_c (k : Int) (A S C B P : LL) : Bool := (bif (decide ((A.length : Int) > (3 : Int))) then true else (bif (!((S.length : Int) == (A.length : Int))) then true else (bif (!((C.length : Int) == (A.length : Int))) then true else (bif (!((B.length : Int) == (A.length : Int))) then true else (bif (decide ((P.length : Int) > (0 : Int))) then true else (bif (qn_k5_1 k A S C B P (A.length : Int) (0 : Int)) then ((qn_o5_2 k A S C B P (A.length : Int) (0 : Int)) && true) else ((qn_o5_3 k A S C B P (A.length : Int) (0 : Int)) && true)))))))
def qn_v (k : Int) (A S C B P : LL) : Bool := (bif (decide ((A.length : Int) > (3 : Int))) then false else (bif (!((S.length : Int) == (A.length : Int))) then false else (bif (!((C.length : Int) == (A.length : Int))) then false else (bif (!((B.length : Int) == (A.length : Int))) then false else (bif (decide ((P.length : Int) > (0 : Int))) then false else (bif (qn_k5_1 k A S C B P (A.length : Int) (0 : Int)) then false else true))))))
theorem qn_l (k : Int) (A S C B P : LL) : (qn_c k A S C B P) = true → (qn_t k A S C B P).val = some (qn_v k A S C B P) := by
  unfold qn_t qn_v qn_c
  exact fun h => (Tr.ss h (fun h => rfl) (fun h => (Tr.ss h (fun h => rfl) (fun h => (Tr.ss h (fun h => rfl) (fun h => (Tr.ss h (fun h => rfl) (fun h => (Tr.ss h (fun h => rfl) (fun h => (Tr.ss h (fun h => (Tr.gb h fun h => rfl)) (fun h => (Tr.gb h fun h => rfl)))))))))))))
def qn_S : List Arg → Option (Bool × Res) := fun xs => match xs with
  | [(true, [(.int .i64, TC.i k), (.slice 2, TC.l A), (.slice 2, TC.l S), (.slice 2, TC.l C), (.slice 2, TC.l B), (.slice 62, TC.l P)])] => some ((qn_c k A S C B P), qn_mk (qn_v k A S C B P))
  | _ => .none
theorem qn_e (k : Int) (A S C B P : LL) : runF tab FT D17 live 33 qn_lo [(true, [(.int .i64, TC.i k), (.slice 2, TC.l A), (.slice 2, TC.l S), (.slice 2, TC.l C), (.slice 2, TC.l B), (.slice 62, TC.l P)])] = (qn_t k A S C B P).run fun p => some (qn_mk p) := by kernel_rfl
theorem qn_s : ∀ xs r, qn_S xs = some (true, r) → runF tab FT D17 live 33 qn_lo xs = some r := by
  intro xs r h
  unfold qn_S at h
  split at h
  · obtain ⟨h1, rfl⟩ := sp h
    exact fun_told (qn_e ..) (qn_l _ _ _ _ _ _) h1
  · cases h
def D18 : Dt := also D17 33 qn_S
theorem d18 : DOk Go.Proofs.Tryd.prog tab D18 := d17.also mixed_ok tab_ok names_ok (fnLoops_one (by kernel_rfl) qn_is5) qn_s
theorem qn_cc {k : Int} {A : LL} {S : LL} {C : LL} {B : LL} {P : LL} (hA : Typed tab (.slice 2) (.l A)) : (qn_c k A S C B P) = true := by
  unfold qn_c
  refine bifT (fun b1 => ?_) (fun b1 => ?_)
  · skip
    rfl
  · skip
    refine bifT (fun b2 => ?_) (fun b2 => ?_)
    · skip
      rfl
    · skip
      refine bifT (fun b3 => ?_) (fun b3 => ?_)
      · skip
        rfl
      · skip
        refine bifT (fun b4 => ?_) (fun b4 => ?_)
        · skip
          rfl
        · skip
          refine bifT (fun b5 => ?_) (fun b5 => ?_)
          · skip
            rfl
          · skip
            refine bifT (fun b6 => ?_) (fun b6 => ?_)
            · skip
              refine andT (by exact is_true ⟨rfl, hA, rfl, by have h := bneF b2; omega, by have h := bneF b3; omega, by have h := bneF b4; omega⟩) ?_
              rfl
            · skip
              refine andT (by exact is_true ⟨rfl, hA, rfl, by have h := bneF b2; omega, by have h := bneF b3; omega, by have h := bneF b4; omega⟩) ?_
              rfl
theorem qn_vv (k : Int) (A S C B P : LL) : qn_v k A S C B P = (slabV A S C B && decide (P.length = 0)) := by
  unfold qn_v
  rw [show qn_k5_1 k A S C B P (A.length : Int) (0 : Int) = sumIs (qn_R5 k A S C B P (A.length : Int) 0) from rfl, qn_R5_eq]
  unfold slabV
  simp only [lenI, gt3, gt0]
  generalize decide (A.length ≤ 3) = p0, (S.length == A.length) = p1, (C.length == A.length) = p2, (B.length == A.length) = p3, decide (P.length = 0) = p4, slabAll A S C B = p5
  cases p0 <;> cases p1 <;> cases p2 <;> cases p3 <;> cases p4 <;> cases p5 <;> rfl
abbrev qf_9_σ := LL × Int × Int
abbrev qf_9_ω := (LL × Int) ⊕ (LL × Int)
def qf_9_step (P : LL) (i j : Int) : Tr (qf_9_σ ⊕ qf_9_ω) := (.ite ((0 : Int) ≤ i ∧ i < (P.length : Int)) (.ite ((decide (j < (((nth (row P i) 0).list).length : Int))) = true) (.ite ((0 : Int) ≤ i ∧ i < (P.length : Int)) (.ite ((0 : Int) ≤ j ∧ j < (((nth (row P i) 0).list).length : Int)) (.ite ((!(qcj_v ((nth (row ((nth (row P i) 0).list) j) 0).int) (0 : Int) (39 : Int))) = true) (.ok (.inr (.inl (P, i))))
      (.ok (.inl (P, i, (IntKind.wrap .i64 (j + (1 : Int)))))))
     .no)
    .no)
   (.ok (.inr (.inr (P, i)))))
  .no)
def qf_9_st : qf_9_σ → Tr (qf_9_σ ⊕ qf_9_ω) := fun x => (qf_9_step (x.1) (x.2.1) (x.2.2))
def qf_k9_1 (P : LL) (i j : Int) : Bool := atB (pAt P i)
def qf_o9_2 (P : LL) (i j : Int) : Bool := is (j = 0 ∧ 0 ≤ i ∧ i < (P.length : Int) ∧ (pAt P i).length ≤ 140737488351232)
def qf_o9_3 (P : LL) (i j : Int) : Bool := is (j = 0 ∧ 0 ≤ i ∧ i < (P.length : Int) ∧ (pAt P i).length ≤ 140737488351232)
def qf_9_fin (P : LL) (i j : Int) : Told qf_9_ω := (.br (qf_k9_1 P i j) (.leaf (qf_o9_2 P i j) (.inr (P, i))) (.leaf (qf_o9_3 P i j) (.inl (P, i))))
def qf_9_sl (x : qf_9_σ) : List Slot := [⟨.val false [⟨.slice 62, .sh, TC.l (x.1)⟩], ⟨0, 0⟩⟩, ⟨.val false [⟨.int .i64, .sh, TC.i (x.2.1)⟩], ⟨0, 0⟩⟩, ⟨.val false [⟨.int .i64, .sh, TC.i (x.2.2)⟩], ⟨0, 0⟩⟩]
def qf_9_out : qf_9_ω → Ex × List Slot := (Sum.elim (fun x => (.ret, [⟨.val false [⟨.slice 62, .sh, TC.l (x.1)⟩], ⟨0, 0⟩⟩, ⟨.val false [⟨.bool, .sh, TC.b false⟩], ⟨0, 0⟩⟩, ⟨.val false [⟨.int .i64, .sh, TC.i (x.2)⟩], ⟨0, 0⟩⟩])) (fun x => (.exit 2, [⟨.val false [⟨.slice 62, .sh, TC.l (x.1)⟩], ⟨0, 0⟩⟩, Slot.none, ⟨.val false [⟨.int .i64, .sh, TC.i (x.2)⟩], ⟨0, 0⟩⟩])))
def qf_lo9 : List Slot → Option (Told (Ex × List Slot)) := fun s => match s with
  | [⟨.val false [⟨.slice 62, .sh, TC.l P⟩], ⟨0, 0⟩⟩, ⟨.val false [⟨.int .i64, .sh, TC.i i⟩], ⟨0, 0⟩⟩, ⟨.val false [⟨.int .i64, .sh, TC.i j⟩], ⟨0, 0⟩⟩] => some (((qf_9_fin P i j)).map qf_9_out)
  | _ => .none
def qf_f4 (P : LL) (i : Int) : (Unit) ⊕ ((Unit) ⊕ (Unit)) := (bif (!((((nth (row P i) 0).list).length : Int) == (((nth (row P (0 : Int)) 0).list).length : Int))) then (.inr (.inl ())) else (bif (decide ((((nth (row P i) 0).list).length : Int) > (3 : Int))) then (.inr (.inl ())) else (bif (qf_k9_1 P i (0 : Int)) then (.inl ()) else (.inr (.inl ())))))
def qf_e4 (P : LL) : (Unit) ⊕ (Unit) := .inr ()
def qf_R4 (P : LL) (i : Int) : (Unit) ⊕ (Unit) := iter (fun i a => (qf_f4 P (i : Int))) (fun a => (qf_e4 P)) (P.length) 0 ()
abbrev qf_4_σ := LL × Int
abbrev qf_4_ω := (Unit) ⊕ (Unit)
def qf_4_step (P : LL) (i : Int) : Tr (qf_4_σ ⊕ qf_4_ω) := (.ite ((decide (i < (P.length : Int))) = true) (.ite ((0 : Int) ≤ i ∧ i < (P.length : Int)) (.ite ((0 : Int) ≤ (0 : Int) ∧ (0 : Int) < (P.length : Int)) (.ite ((!((((nth (row P i) 0).list).length : Int) == (((nth (row P (0 : Int)) 0).list).length : Int))) = true) (.ok (.inr (.inl ())))
     (.ite ((0 : Int) ≤ i ∧ i < (P.length : Int)) (.ite ((decide ((((nth (row P i) 0).list).length : Int) > (3 : Int))) = true) (.ok (.inr (.inl ())))
       (.ite ((qf_k9_1 P i (0 : Int)) = true) (.ite ((qf_o9_2 P i (0 : Int)) = true) (.ok (.inl (P, (IntKind.wrap .i64 (i + (1 : Int))))))
         .no)
        (.ite ((qf_o9_3 P i (0 : Int)) = true) (.ok (.inr (.inl ())))
         .no)))
      .no))
    .no)
   .no)
  (.ok (.inr (.inr ()))))
def qf_4_st : qf_4_σ → Tr (qf_4_σ ⊕ qf_4_ω) := fun x => (qf_4_step (x.1) (x.2))
def qf_k4_1 (P : LL) (i : Int) : Bool := sumIs (qf_R4 P i)
def qf_o4_2 (P : LL) (i : Int) : Bool := is (i = 0 ∧ Typed tab (.slice 62) (.l P))
def qf_o4_3 (P : LL) (i : Int) : Bool := is (i = 0 ∧ Typed tab (.slice 62) (.l P))
def qf_4_fin (P : LL) (i : Int) : Told qf_4_ω := (.br (qf_k4_1 P i) (.leaf (qf_o4_2 P i) (.inl ())) (.leaf (qf_o4_3 P i) (.inr ())))
def qf_4_sl (x : qf_4_σ) : List Slot := [⟨.val false [⟨.slice 62, .sh, TC.l (x.1)⟩], ⟨0, 0⟩⟩, ⟨.val false [⟨.int .i64, .sh, TC.i (x.2)⟩], ⟨0, 0⟩⟩]
def qf_4_out : qf_4_ω → Ex × List Slot := (Sum.elim (fun x => (.ret, [⟨.val false [⟨.bool, .sh, TC.b false⟩], ⟨0, 0⟩⟩])) (fun x => (.exit 0, [Slot.none])))
def qf_lo4 : List Slot → Option (Told (Ex × List Slot)) := fun s => match s with
  | [⟨.val false [⟨.slice 62, .sh, TC.l P⟩], ⟨0, 0⟩⟩, ⟨.val false [⟨.int .i64, .sh, TC.i i⟩], ⟨0, 0⟩⟩] => some (((qf_4_fin P i)).map qf_4_out)
  | _ => .none
def qf_lo : LoopTeller := fun r s => bif Nat.beq r 4 then qf_lo4 s else bif Nat.beq r 9 then qf_lo9 s else .none
theorem qf_9_r (P : LL) (i j : Int) (fuel : Nat) : rounds (rnd tab FT D18 live 34 qf_lo 1 9) leave (fuel + 1) (qf_9_sl (P, i, j)) = ((qf_9_step P i j)).run (goOn (fun s => rounds (rnd tab FT D18 live 34 qf_lo 1 9) leave fuel (qf_9_sl s)) fun w => some (qf_9_out w)) := by kernel_rfl
theorem qf_9_h (P : LL) (i j : Int) (ow : qf_9_ω) : ((qf_9_fin P i j)).val = some ow → ∃ fuel, loopN qf_9_st fuel (P, i, j) = some ow := by
  intro h
  refine auto_br (K := atB (pAt P i)) rfl (fun ho => ?_) h
  have ho := ho.elim id id
  obtain ⟨rfl, h0, h1, hl⟩ := is_iff.1 ho
  show ∃ M, loopN qf_9_st M (P, i, 0) = some (bif atB (pAt P i) then .inr (P, i) else .inl (P, i))
  refine loopN_along (step := qf_9_st) (pAt P i).length (fun t => inZ (kAt (pAt P i) (t : Int)) 0 39) (fun t => (P, i, (t : Int))) (.inr (P, i)) (fun _ => .inl (P, i)) (fun j hj hb => ?_) (fun _ => ?_)
  · refine ⟨fun hP => ?_, fun hP => ?_⟩
    · show (qf_9_step P i (j : Int)).val = _
      unfold qf_9_step
      refine Tr.t ⟨h0, h1⟩ (Tr.t (decide_eq_true (show (j : Int) < ((pAt P i).length : Int) by omega)) (Tr.t ⟨h0, h1⟩ (Tr.t (show (0 : Int) ≤ (j : Int) ∧ (j : Int) < ((pAt P i).length : Int) by omega) (Tr.n ?_ ?_))))
      · show ¬(!(inZ (kAt (pAt P i) (j : Int)) 0 39)) = true
        rw [hP]; simp
      · rw [Tr.val_ok, wrap64 (i := (j : Int) + 1) (by omega) (by omega)]; rfl
    · show (qf_9_step P i (j : Int)).val = _
      unfold qf_9_step
      refine Tr.t ⟨h0, h1⟩ (Tr.t (decide_eq_true (show (j : Int) < ((pAt P i).length : Int) by omega)) (Tr.t ⟨h0, h1⟩ (Tr.t (show (0 : Int) ≤ (j : Int) ∧ (j : Int) < ((pAt P i).length : Int) by omega) (Tr.t ?_ rfl))))
      show (!(inZ (kAt (pAt P i) (j : Int)) 0 39)) = true
      rw [hP]; rfl
  · show (qf_9_step P i ((pAt P i).length : Int)).val = _
    unfold qf_9_step
    refine Tr.t ⟨h0, h1⟩ (Tr.n ?_ rfl)
    show ¬decide (((pAt P i).length : Int) < ((pAt P i).length : Int)) = true
    simp
theorem qf_is9 : LoopIs tab FT D18 live 34 qf_lo 1 9 := by
  refine loop_told (sl := qf_9_sl) (step := qf_9_st) (out := qf_9_out) (lor := qf_lo9) (fin := fun x => (qf_9_fin (x.1) (x.2.1) (x.2.2))) (fun _ => rfl) ?_ (fun x n => qf_9_r x.1 x.2.1 x.2.2 n) (fun x ow => qf_9_h x.1 x.2.1 x.2.2 ow)
  intro s t h
  unfold qf_lo9 at h
  split at h
  · cases h; exact ⟨(_, _, _), rfl, rfl⟩
  · cases h
theorem qf_4_r (P : LL) (i : Int) (fuel : Nat) : rounds (rnd tab FT D18 live 34 qf_lo 0 4) leave (fuel + 1) (qf_4_sl (P, i)) = ((qf_4_step P i)).run (goOn (fun s => rounds (rnd tab FT D18 live 34 qf_lo 0 4) leave fuel (qf_4_sl s)) fun w => some (qf_4_out w)) := by kernel_rfl
theorem qf_f4_eq (P : LL) (i : Int) : qf_f4 P i = bif ptS P i then Sum.inl () else Sum.inr (Sum.inl ()) := by
  unfold qf_f4 ptS
  rw [show qf_k9_1 P i (0 : Int) = atB (pAt P i) from rfl, show ((((nth (row P i) 0).list).length : Int) == (((nth (row P (0 : Int)) 0).list).length : Int)) = ((pAt P i).length == (pAt P 0).length) from by rw [Bool.eq_iff_iff]; simp only [beq_iff_eq]; unfold pAt; omega, show decide ((((nth (row P i) 0).list).length : Int) > (3 : Int)) = !(decide ((pAt P i).length ≤ 3)) from by rw [← decide_not]; exact decide_eq_decide.2 (by unfold pAt; omega)]
  generalize ((pAt P i).length == (pAt P 0).length) = p0, decide ((pAt P i).length ≤ 3) = p1, atB (pAt P i) = p2
  cases p0 <;> cases p1 <;> cases p2 <;> rfl
theorem qf_R4_eq (P : LL) : qf_R4 P 0 = bif allI (fun i : Nat => ptS P (i : Int)) P.length then Sum.inr () else Sum.inl () := by
  unfold qf_R4
  exact (iter_all (P := fun i : Nat => ptS P (i : Int)) (g := fun _ a => a) (w := Sum.inl ()) fun j a _ => qf_f4_eq P _)
theorem qf_4_h (P : LL) (i : Int) (ow : qf_4_ω) : ((qf_4_fin P i)).val = some ow → ∃ fuel, loopN qf_4_st fuel (P, i) = some ow := by
  refine auto_const (R := (qf_R4 P i)) rfl (iter_onR (f := (fun i a => (qf_f4 P (i : Int)))) (fin := (fun a => (qf_e4 P))) (Q := endsAs () ()) (fun i a => by unfold qf_f4; exact (onR_bif rfl (onR_bif rfl (onR_bif trivial rfl)))) (fun _ => rfl) _ _ _) ?_
  intro ho
  have ho : is (i = 0 ∧ Typed tab (.slice 62) (.l P)) = true := ho.elim id id
  obtain ⟨rfl, ht⟩ := is_iff.1 ho
  have hlen : P.length ≤ 140737488351232 := by have := typed_room ht; simp only [show (tab 62).bytes = 24 from rfl] at this; omega
  refine ⟨(P.length) + 1, ?_⟩
  refine iter_loop (step := qf_4_st) (P.length) (fun i a => (qf_f4 P (i : Int))) (fun a => (qf_e4 P)) (fun i a => (P, (i : Int))) (fun _ _ => True) trivial (fun i a hi hI => ⟨?_, fun _ _ => trivial⟩) (fun a hI => ?_)
  · show (qf_4_step P (i : Int)).val = _
    unfold qf_4_step qf_f4
    have c0 : Typed tab (.slice 2) (.l (nth (P.getD i []) 0).list) := typed_list (typed_cell ht (P.getD i []) (mem_getD hi) 0 (by decide))
    refine Tr.t (by simp; omega) ?_
    exact (Tr.t (by first | omega | (constructor <;> omega) | (exact is_true ⟨rfl, by omega, by omega, by have := typed_room c0; simp only [show (tab 2).bytes = 8 from rfl] at this; show (nth (P.getD i []) 0).list.length ≤ _; omega⟩)) (Tr.t (by first | omega | (constructor <;> omega) | (exact is_true ⟨rfl, by omega, by omega, by have := typed_room c0; simp only [show (tab 2).bytes = 8 from rfl] at this; show (nth (P.getD i []) 0).list.length ≤ _; omega⟩)) (Tr.bf rfl (Tr.t (by first | omega | (constructor <;> omega) | (exact is_true ⟨rfl, by omega, by omega, by have := typed_room c0; simp only [show (tab 2).bytes = 8 from rfl] at this; show (nth (P.getD i []) 0).list.length ≤ _; omega⟩)) (Tr.bf rfl (Tr.bf (Tr.t (by first | (exact is_true ⟨rfl, by omega, by omega, by have := typed_room c0; simp only [show (tab 2).bytes = 8 from rfl] at this; show (nth (P.getD i []) 0).list.length ≤ _; omega⟩) | (first | (apply is_true; and_intros <;> (first | rfl | assumption | (apply qx_cc <;> assumption) | (apply qj_cc <;> assumption) | (apply ql_cc <;> assumption) | (apply qt_cc <;> assumption) | (apply qp_cc <;> assumption) | (apply qi_cc <;> assumption) | (apply qn_cc <;> assumption) | (first | (apply is_true; and_intros <;> (first | rfl | assumption | (apply qx_cc <;> assumption) | (apply qj_cc <;> assumption) | (apply ql_cc <;> assumption) | (apply qt_cc <;> assumption) | (apply qp_cc <;> assumption) | (apply qi_cc <;> assumption) | (apply qn_cc <;> assumption) | (first | (apply is_true; and_intros <;> (first | rfl | assumption | (apply qx_cc <;> assumption) | (apply qj_cc <;> assumption) | (apply ql_cc <;> assumption) | (apply qt_cc <;> assumption) | (apply qp_cc <;> assumption) | (apply qi_cc <;> assumption) | (apply qn_cc <;> assumption))) | (apply qx_cc <;> assumption) | (apply qj_cc <;> assumption) | (apply ql_cc <;> assumption) | (apply qt_cc <;> assumption) | (apply qp_cc <;> assumption) | (apply qi_cc <;> assumption) | (apply qn_cc <;> assumption)))) | (apply qx_cc <;> assumption) | (apply qj_cc <;> assumption) | (apply ql_cc <;> assumption) | (apply qt_cc <;> assumption) | (apply qp_cc <;> assumption) | (apply qi_cc <;> assumption) | (apply qn_cc <;> assumption)))) | (apply qx_cc <;> assumption) | (apply qj_cc <;> assumption) | (apply ql_cc <;> assumption) | (apply qt_cc <;> assumption) | (apply qp_cc <;> assumption) | (apply qi_cc <;> assumption) | (apply qn_cc <;> assumption))) (by rw [Tr.val_ok, wrap64 (i := (i : Int) + 1) (by omega) (by omega)]; rfl)) (Tr.t (by first | (exact is_true ⟨rfl, by omega, by omega, by have := typed_room c0; simp only [show (tab 2).bytes = 8 from rfl] at this; show (nth (P.getD i []) 0).list.length ≤ _; omega⟩) | (first | (apply is_true; and_intros <;> (first | rfl | assumption | (apply qx_cc <;> assumption) | (apply qj_cc <;> assumption) | (apply ql_cc <;> assumption) | (apply qt_cc <;> assumption) | (apply qp_cc <;> assumption) | (apply qi_cc <;> assumption) | (apply qn_cc <;> assumption) | (first | (apply is_true; and_intros <;> (first | rfl | assumption | (apply qx_cc <;> assumption) | (apply qj_cc <;> assumption) | (apply ql_cc <;> assumption) | (apply qt_cc <;> assumption) | (apply qp_cc <;> assumption) | (apply qi_cc <;> assumption) | (apply qn_cc <;> assumption) | (first | (apply is_true; and_intros <;> (first | rfl | assumption | (apply qx_cc <;> assumption) | (apply qj_cc <;> assumption) | (apply ql_cc <;> assumption) | (apply qt_cc <;> assumption) | (apply qp_cc <;> assumption) | (apply qi_cc <;> assumption) | (apply qn_cc <;> assumption))) | (apply qx_cc <;> assumption) | (apply qj_cc <;> assumption) | (apply ql_cc <;> assumption) | (apply qt_cc <;> assumption) | (apply qp_cc <;> assumption) | (apply qi_cc <;> assumption) | (apply qn_cc <;> assumption)))) | (apply qx_cc <;> assumption) | (apply qj_cc <;> assumption) | (apply ql_cc <;> assumption) | (apply qt_cc <;> assumption) | (apply qp_cc <;> assumption) | (apply qi_cc <;> assumption) | (apply qn_cc <;> assumption)))) | (apply qx_cc <;> assumption) | (apply qj_cc <;> assumption) | (apply ql_cc <;> assumption) | (apply qt_cc <;> assumption) | (apply qp_cc <;> assumption) | (apply qi_cc <;> assumption) | (apply qn_cc <;> assumption))) rfl)))))))
  · show (qf_4_step P (P.length : Int)).val = _
    refine Tr.n (by first | (simp; done) | (simp; omega) | omega) ?_
    rfl
theorem qf_is4 : LoopIs tab FT D18 live 34 qf_lo 0 4 := by
  refine loop_told (sl := qf_4_sl) (step := qf_4_st) (out := qf_4_out) (lor := qf_lo4) (fin := fun x => (qf_4_fin (x.1) (x.2))) (fun _ => rfl) ?_ (fun x n => qf_4_r x.1 x.2 n) (fun x ow => qf_4_h x.1 x.2 ow)
  intro s t h
  unfold qf_lo4 at h
  split at h
  · cases h; exact ⟨(_, _), rfl, rfl⟩
  · cases h
def qf_t (P : LL) : Tr (Bool) := (.ite ((!(qcj_v (P.length : Int) (1 : Int) (24 : Int))) = true) (.ok false)
  (.ite ((qf_k4_1 P (0 : Int)) = true) (.ite ((qf_o4_2 P (0 : Int)) = true) (.ok false)
    .no)
   (.ite ((qf_o4_3 P (0 : Int)) = true) (.ok true)
    .no)))
def qf_mk (p : Bool) : Res := [(false, [⟨.bool, .sh, TC.b p⟩])]
def qf_c (P : LL) : Bool := (bif (!(qcj_v (P.length : Int) (1 : Int) (24 : Int))) then true else (bif (qf_k4_1 P (0 : Int)) then ((qf_o4_2 P (0 : Int)) && true) else ((qf_o4_3 P (0 : Int)) && true)))
def qf_v (P : LL) : Bool := (bif (!(qcj_v (P.length : Int) (1 : Int) (24 : Int))) then false else (bif (qf_k4_1 P (0 : Int)) then false else true))
theorem qf_l (P : LL) : (qf_c P) = true → (qf_t P).val = some (qf_v P) := by
  unfold qf_t qf_v qf_c
  exact fun h => (Tr.ss h (fun h => rfl) (fun h => (Tr.ss h (fun h => (Tr.gb h fun h => rfl)) (fun h => (Tr.gb h fun h => rfl)))))
def qf_S : List Arg → Option (Bool × Res) := fun xs => match xs with
  | [(false, [(.slice 62, TC.l P)])] => some ((qf_c P), qf_mk (qf_v P))
  | _ => .none
theorem qf_e (P : LL) : runF tab FT D18 live 34 qf_lo [(false, [(.slice 62, TC.l P)])] = (qf_t P).run fun p => some (qf_mk p) := by kernel_rfl
theorem qf_s : ∀ xs r, qf_S xs = some (true, r) → runF tab FT D18 live 34 qf_lo xs = some r := by
  intro xs r h
  unfold qf_S at h
  split at h
  · obtain ⟨h1, rfl⟩ := sp h
    exact fun_told (qf_e _) (qf_l _) h1
  · cases h
def D19 : Dt := also D18 34 qf_S
theorem d19 : DOk Go.Proofs.Tryd.prog tab D19 := d18.also mixed_ok tab_ok names_ok (fnLoops_two (by kernel_rfl) qf_is4 qf_is9) qf_s
theorem qf_cc {P : LL} (hP : Typed tab (.slice 62) (.l P)) : (qf_c P) = true := by
  unfold qf_c
  refine bifT (fun b1 => ?_) (fun b1 => ?_)
  · skip
    rfl
  · skip
    refine bifT (fun b2 => ?_) (fun b2 => ?_)
    · skip
      refine andT (by exact is_true ⟨rfl, hP⟩) ?_
      rfl
    · skip
      refine andT (by exact is_true ⟨rfl, hP⟩) ?_
      rfl
theorem qf_vv (P : LL) : qf_v P = ptsV P := by
  unfold qf_v
  rw [show qf_k4_1 P (0 : Int) = sumIs (qf_R4 P 0) from rfl, qf_R4_eq]
  show (bif !(bif decide ((P.length : Int) ≥ 1) then decide ((P.length : Int) ≤ 24) else false) then false else bif sumIs _ then false else true) = _
  unfold ptsV
  rw [show decide ((P.length : Int) ≥ 1) = decide (1 ≤ P.length) from decide_eq_decide.2 (by omega), show decide ((P.length : Int) ≤ 24) = decide (P.length ≤ 24) from decide_eq_decide.2 (by omega)]
  by_cases h : 1 ≤ P.length
  · rw [ptsV_eq h, decide_eq_true h]
    generalize decide (P.length ≤ 24) = p0, decide ((pAt P 0).length ≤ 3) = p1, P.all (ptB (pAt P 0).length) = p2
    cases p0 <;> cases p1 <;> cases p2 <;> rfl
  · rw [decide_eq_false h]; rfl
def qw_t (k : Int) (A S C B P : LL) : Tr (Bool) := (.ite ((k == (1 : Int)) = true) (.ite ((qcb_v k A S C B P) = true) (.ok ((P.length : Int) == (0 : Int)))
   (.ok false))
  (.ite ((k == (2 : Int)) = true) (.ite ((qcb_v k A S C B P) = true) (.ok ((P.length : Int) == (0 : Int)))
    (.ok false))
   (.ite ((k == (3 : Int)) = true) (.ite ((qn_c k A S C B P) = true) (.ok (qn_v k A S C B P))
     .no)
    (.ite ((k == (4 : Int)) = true) (.ite ((qcb_v k A S C B P) = true) (.ite ((qf_c P) = true) (.ok (qf_v P))
       .no)
      (.ok false))
     (.ok false)))))
def qw_mk (p : Bool) : Res := [(false, [⟨.bool, .sh, TC.b p⟩])]
def qw_c (k : Int) (A S C B P : LL) : Bool := (bif (k == (1 : Int)) then (bif (qcb_v k A S C B P) then true else true) else (bif (k == (2 : Int)) then (bif (qcb_v k A S C B P) then true else true) else (bif (k == (3 : Int)) then ((qn_c k A S C B P) && true) else (bif (k == (4 : Int)) then (bif (qcb_v k A S C B P) then ((qf_c P) && true) else true) else true))))
def qw_v (k : Int) (A S C B P : LL) : Bool := (bif (k == (1 : Int)) then (bif (qcb_v k A S C B P) then ((P.length : Int) == (0 : Int)) else false) else (bif (k == (2 : Int)) then (bif (qcb_v k A S C B P) then ((P.length : Int) == (0 : Int)) else false) else (bif (k == (3 : Int)) then (qn_v k A S C B P) else (bif (k == (4 : Int)) then (bif (qcb_v k A S C B P) then (qf_v P) else false) else false))))
theorem qw_l (k : Int) (A S C B P : LL) : (qw_c k A S C B P) = true → (qw_t k A S C B P).val = some (qw_v k A S C B P) := by
  unfold qw_t qw_v qw_c
  exact fun h => (Tr.ss h (fun h => (Tr.ss h (fun h => rfl) (fun h => rfl))) (fun h => (Tr.ss h (fun h => (Tr.ss h (fun h => rfl) (fun h => rfl))) (fun h => (Tr.ss h (fun h => (Tr.gb h fun h => rfl)) (fun h => (Tr.ss h (fun h => (Tr.ss h (fun h => (Tr.gb h fun h => rfl)) (fun h => rfl))) (fun h => rfl))))))))
def qw_S : List Arg → Option (Bool × Res) := fun xs => match xs with
  | [(true, [(.int .i64, TC.i k), (.slice 2, TC.l A), (.slice 2, TC.l S), (.slice 2, TC.l C), (.slice 2, TC.l B), (.slice 62, TC.l P)])] => some ((qw_c k A S C B P), qw_mk (qw_v k A S C B P))
  | _ => .none
theorem qw_e (k : Int) (A S C B P : LL) : runF tab FT D19 live 19 noLoops [(true, [(.int .i64, TC.i k), (.slice 2, TC.l A), (.slice 2, TC.l S), (.slice 2, TC.l C), (.slice 2, TC.l B), (.slice 62, TC.l P)])] = (qw_t k A S C B P).run fun p => some (qw_mk p) := by kernel_rfl
theorem qw_s : ∀ xs r, qw_S xs = some (true, r) → runF tab FT D19 live 19 noLoops xs = some r := by
  intro xs r h
  unfold qw_S at h
  split at h
  · obtain ⟨h1, rfl⟩ := sp h
    exact fun_told (qw_e ..) (qw_l _ _ _ _ _ _) h1
  · cases h
def D20 : Dt := also D19 19 qw_S
theorem d20 : DOk Go.Proofs.Tryd.prog tab D20 := d19.also mixed_ok tab_ok names_ok noLoops_ok qw_s
theorem qw_cc {k : Int} {A : LL} {S : LL} {C : LL} {B : LL} {P : LL} (hA : Typed tab (.slice 2) (.l A)) (hP : Typed tab (.slice 62) (.l P)) : (qw_c k A S C B P) = true := by
  unfold qw_c
  refine bifT (fun b1 => ?_) (fun b1 => ?_)
  · skip
    refine bifT (fun b2 => ?_) (fun b2 => ?_)
    · skip
      rfl
    · skip
      rfl
  · skip
    refine bifT (fun b3 => ?_) (fun b3 => ?_)
    · skip
      refine bifT (fun b4 => ?_) (fun b4 => ?_)
      · skip
        rfl
      · skip
        rfl
    · skip
      refine bifT (fun b5 => ?_) (fun b5 => ?_)
      · skip
        refine andT (by exact qn_cc hA) ?_
        rfl
      · skip
        refine bifT (fun b6 => ?_) (fun b6 => ?_)
        · skip
          refine bifT (fun b7 => ?_) (fun b7 => ?_)
          · skip
            refine andT (by exact qf_cc hP) ?_
            rfl
          · skip
            rfl
        · skip
          rfl
theorem qw_vv (k : Int) (A S C B P : LL) : qw_v k A S C B P = formV k A S C B P := by
  unfold qw_v
  rw [qn_vv, qf_vv, show qcb_v k A S C B P = plainB A S C B from rfl, eq0]
  unfold formV
  generalize plainB A S C B = p0, decide (P.length = 0) = p1, slabV A S C B = p2, ptsV P = p3, (k == 1) = q1, (k == 2) = q2, (k == 3) = q3, (k == 4) = q4
  cases q1 <;> cases q2 <;> cases q3 <;> cases q4 <;> cases p0 <;> cases p1 <;> cases p2 <;> cases p3 <;> rfl
abbrev qu_3_σ := LL × LL × Int
abbrev qu_3_ω := (LL)
def qu_3_step (A X : LL) (i : Int) : Tr (qu_3_σ ⊕ qu_3_ω) := (.ite ((decide (i < (A.length : Int))) = true) (.ite ((0 : Int) ≤ i ∧ i < (A.length : Int)) (.ite (roomFor (tab 5) (X ++ [[TC.i (IntKind.wrap .u8 ((nth (row A i) 0).int))]]).length) (.ok (.inl (A, (X ++ [[TC.i (IntKind.wrap .u8 ((nth (row A i) 0).int))]]), (IntKind.wrap .i64 (i + (1 : Int))))))
    .no)
   .no)
  (.ok (.inr X)))
def qu_3_st : qu_3_σ → Tr (qu_3_σ ⊕ qu_3_ω) := fun x => (qu_3_step (x.1) (x.2.1) (x.2.2))
def qu_o3_1 (A X : LL) (i : Int) : Bool := is (X = [] ∧ i = 0 ∧ A.length ≤ 140737488351232)
def qu_u3_1 (A X : LL) (i : Int) : LL := A.map g8
def qu_3_fin (A X : LL) (i : Int) : Told qu_3_ω := (.leaf (qu_o3_1 A X i) (qu_u3_1 A X i))
def qu_3_sl (x : qu_3_σ) : List Slot := [⟨.val false [⟨.slice 2, .sh, TC.l (x.1)⟩], ⟨0, 0⟩⟩, ⟨.val false [⟨.slice 5, .own true, TC.l (x.2.1)⟩], ⟨0, 0⟩⟩, ⟨.val false [⟨.int .i64, .sh, TC.i (x.2.2)⟩], ⟨0, 0⟩⟩]
def qu_3_out : qu_3_ω → Ex × List Slot := (fun x => (.exit 0, [Slot.none, ⟨.val false [⟨.slice 5, .own true, TC.l x⟩], ⟨0, 0⟩⟩]))
def qu_lo3 : List Slot → Option (Told (Ex × List Slot)) := fun s => match s with
  | [⟨.val false [⟨.slice 2, .sh, TC.l A⟩], ⟨0, 0⟩⟩, ⟨.val false [⟨.slice 5, .own true, TC.l X⟩], ⟨0, 0⟩⟩, ⟨.val false [⟨.int .i64, .sh, TC.i i⟩], ⟨0, 0⟩⟩] => some (((qu_3_fin A X i)).map qu_3_out)
  | _ => .none
def qu_lo : LoopTeller := fun r s => bif Nat.beq r 3 then qu_lo3 s else .none
theorem qu_3_r (A X : LL) (i : Int) (fuel : Nat) : rounds (rnd tab FT D20 live 20 qu_lo 0 3) leave (fuel + 1) (qu_3_sl (A, X, i)) = ((qu_3_step A X i)).run (goOn (fun s => rounds (rnd tab FT D20 live 20 qu_lo 0 3) leave fuel (qu_3_sl s)) fun w => some (qu_3_out w)) := by kernel_rfl
theorem qu_3_h (A X : LL) (i : Int) (ow : qu_3_ω) : ((qu_3_fin A X i)).val = some ow → ∃ fuel, loopN qu_3_st fuel (A, X, i) = some ow := by
  intro h
  refine auto_leaf (R := A.map g8) (fun ho => ?_) h
  obtain ⟨rfl, rfl, hl⟩ := is_iff.1 ho
  have key := loopN_run (step := qu_3_st) (N := A.length) (fun j => (A, (A.take j).map g8, (j : Int))) (w := A.map g8) (fun j hj => ?_) ?_ A.length 0 (by omega)
  · exact ⟨_, key⟩
  · show (qu_3_step A ((A.take j).map g8) (j : Int)).val = _
    unfold qu_3_step
    have hr : roomFor (tab 5) (((A.take j).map g8) ++ [[TC.i (IntKind.wrap .u8 (nth (row A (j : Int)) 0).int)]]).length := by
      unfold roomFor
      rw [List.length_append, List.length_map, List.length_take, show (tab 5).bytes = 1 from rfl]
      simp only [List.length_cons, List.length_nil]
      constructor <;> omega
    refine Tr.t (by simp; omega) (Tr.t (by omega) (Tr.t hr ?_))
    rw [Tr.val_ok, wrap64 (i := (j : Int) + 1) (by omega) (by omega), List.take_succ_eq_append_getElem hj, List.map_append, row_nat, getD_at hj]
    rfl
  · show (qu_3_step A ((A.take A.length).map g8) (A.length : Int)).val = _
    unfold qu_3_step
    rw [List.take_length]
    refine Tr.n (by simp) ?_
    rfl
theorem qu_is3 : LoopIs tab FT D20 live 20 qu_lo 0 3 := by
  refine loop_told (sl := qu_3_sl) (step := qu_3_st) (out := qu_3_out) (lor := qu_lo3) (fin := fun x => (qu_3_fin (x.1) (x.2.1) (x.2.2))) (fun _ => rfl) ?_ (fun x n => qu_3_r x.1 x.2.1 x.2.2 n) (fun x ow => qu_3_h x.1 x.2.1 x.2.2 ow)
  intro s t h
  unfold qu_lo3 at h
  split at h
  · cases h; exact ⟨(_, _, _), rfl, rfl⟩
  · cases h
def qu_t (A : LL) : Tr (BS) := (.ite ((qu_o3_1 A [] (0 : Int)) = true) (.ok ((qu_u3_1 A [] (0 : Int)).map byteOf))
  .no)
def qu_mk (p : BS) : Res := [(false, [⟨.str, .sh, TC.s p⟩])]
def qu_c (A : LL) : Bool := is (A.length ≤ 140737488351232)
def qu_v (A : LL) : BS := hid (numBy A)
theorem qu_l (A : LL) : (qu_c A) = true → (qu_t A).val = some (qu_v A) := by
  intro h
  have hl := is_iff.1 h
  unfold qu_t
  refine Tr.t (is_true ⟨rfl, rfl, hl⟩) ?_
  unfold qu_v
  rw [hid_eq]; rfl
def qu_S : List Arg → Option (Bool × Res) := fun xs => match xs with
  | [(false, [(.slice 2, TC.l A)])] => some ((qu_c A), qu_mk (qu_v A))
  | _ => .none
theorem qu_e (A : LL) : runF tab FT D20 live 20 qu_lo [(false, [(.slice 2, TC.l A)])] = (qu_t A).run fun p => some (qu_mk p) := by kernel_rfl
theorem qu_s : ∀ xs r, qu_S xs = some (true, r) → runF tab FT D20 live 20 qu_lo xs = some r := by
  intro xs r h
  unfold qu_S at h
  split at h
  · obtain ⟨h1, rfl⟩ := sp h
    exact fun_told (qu_e _) (qu_l _) h1
  · cases h
def D21 : Dt := also D20 20 qu_S
theorem d21 : DOk Go.Proofs.Tryd.prog tab D21 := d20.also mixed_ok tab_ok names_ok (fnLoops_one (by kernel_rfl) qu_is3) qu_s
theorem qu_h {A : LL} : qu_v A = numBy A := hid_eq _
theorem qu_cc {A : LL} (h : A.length ≤ 140737488351232) : qu_c A = true := is_true h
abbrev qh_9_σ := Int × LL × LL × LL × LL × LL × BS × Int
abbrev qh_9_ω := (BS)
def qh_9_step (k : Int) (A S C B P : LL) (s : BS) (i : Int) : Tr (qh_9_σ ⊕ qh_9_ω) := (.ite ((decide (i < (P.length : Int))) = true) (.ite ((0 : Int) ≤ i ∧ i < (P.length : Int)) (.ite ((qu_c ((nth (row P i) 0).list)) = true) (.ite (((s.length + (qu_v ((nth (row P i) 0).list)).length : Nat) : Int) ≤ 9223372036854775807) (.ok (.inl (k, A, S, C, B, P, (s ++ (qu_v ((nth (row P i) 0).list))), (IntKind.wrap .i64 (i + (1 : Int))))))
     .no)
    .no)
   .no)
  (.ok (.inr s)))
def qh_9_st : qh_9_σ → Tr (qh_9_σ ⊕ qh_9_ω) := fun x => (qh_9_step (x.1) (x.2.1) (x.2.2.1) (x.2.2.2.1) (x.2.2.2.2.1) (x.2.2.2.2.2.1) (x.2.2.2.2.2.2.1) (x.2.2.2.2.2.2.2))
def qh_o9_1 (k : Int) (A S C B P : LL) (s : BS) (i : Int) : Bool := is (i = 0 ∧ s.length ≤ 8 ∧ P.length ≤ 64 ∧ At3 P)
def qh_u9_1 (k : Int) (A S C B P : LL) (s : BS) (i : Int) : BS := s ++ allBy P
def qh_9_fin (k : Int) (A S C B P : LL) (s : BS) (i : Int) : Told qh_9_ω := (.leaf (qh_o9_1 k A S C B P s i) (qh_u9_1 k A S C B P s i))
def qh_9_sl (x : qh_9_σ) : List Slot := [⟨.bx 32 [⟨.int .i64, .sh, TC.i (x.1)⟩, ⟨.slice 2, .sh, TC.l (x.2.1)⟩, ⟨.slice 2, .sh, TC.l (x.2.2.1)⟩, ⟨.slice 2, .sh, TC.l (x.2.2.2.1)⟩, ⟨.slice 2, .sh, TC.l (x.2.2.2.2.1)⟩, ⟨.slice 62, .sh, TC.l (x.2.2.2.2.2.1)⟩], ⟨0, 0⟩⟩, ⟨.val false [⟨.str, .sh, TC.s (x.2.2.2.2.2.2.1)⟩], ⟨0, 0⟩⟩, ⟨.val false [⟨.int .i64, .sh, TC.i (x.2.2.2.2.2.2.2)⟩], ⟨0, 0⟩⟩]
def qh_9_out : qh_9_ω → Ex × List Slot := (fun x => (.exit 1, [Slot.none, ⟨.val false [⟨.str, .sh, TC.s x⟩], ⟨0, 0⟩⟩]))
def qh_lo9 : List Slot → Option (Told (Ex × List Slot)) := fun s => match s with
  | [⟨.bx 32 [⟨.int .i64, .sh, TC.i k⟩, ⟨.slice 2, .sh, TC.l A⟩, ⟨.slice 2, .sh, TC.l S⟩, ⟨.slice 2, .sh, TC.l C⟩, ⟨.slice 2, .sh, TC.l B⟩, ⟨.slice 62, .sh, TC.l P⟩], ⟨0, 0⟩⟩, ⟨.val false [⟨.str, .sh, TC.s s⟩], ⟨0, 0⟩⟩, ⟨.val false [⟨.int .i64, .sh, TC.i i⟩], ⟨0, 0⟩⟩] => some (((qh_9_fin k A S C B P s i)).map qh_9_out)
  | _ => .none
def qh_lo : LoopTeller := fun r s => bif Nat.beq r 9 then qh_lo9 s else .none
theorem qh_9_r (k : Int) (A S C B P : LL) (s : BS) (i : Int) (fuel : Nat) : rounds (rnd tab FT D21 live 21 qh_lo 0 9) leave (fuel + 1) (qh_9_sl (k, A, S, C, B, P, s, i)) = ((qh_9_step k A S C B P s i)).run (goOn (fun s => rounds (rnd tab FT D21 live 21 qh_lo 0 9) leave fuel (qh_9_sl s)) fun w => some (qh_9_out w)) := by kernel_rfl
theorem qh_9_h (k : Int) (A S C B P : LL) (s : BS) (i : Int) (ow : qh_9_ω) : ((qh_9_fin k A S C B P s i)).val = some ow → ∃ fuel, loopN qh_9_st fuel (k, A, S, C, B, P, s, i) = some ow := by
  intro h
  refine auto_leaf (R := s ++ allBy P) (fun ho => ?_) h
  obtain ⟨rfl, hs, hl, hp⟩ := is_iff.1 ho
  have key := loopN_run (step := qh_9_st) (N := P.length) (fun j => (k, A, S, C, B, P, s ++ allBy (P.take j), (j : Int))) (w := s ++ allBy P) (fun j hj => ?_) ?_ P.length 0 (by omega)
  · rw [List.take_zero, show allBy [] = [] from rfl, List.append_nil] at key
    exact ⟨_, key⟩
  · show (qh_9_step k A S C B P (s ++ allBy (P.take j)) (j : Int)).val = _
    unfold qh_9_step
    have e1 := allBy_take hp j
    have e2 : (nth (row P (j : Int)) 0).list.length ≤ 3 := hp _ (by rw [row_nat]; exact mem_getD hj)
    have e3 : (qu_v ((nth (row P (j : Int)) 0).list)).length = (nth (row P (j : Int)) 0).list.length := by rw [qu_h]; exact numBy_len
    refine Tr.t (by simp; omega) (Tr.t (by omega) (Tr.t (qu_cc (by omega)) (Tr.t (by simp only [List.length_append]; omega) ?_)))
    rw [Tr.val_ok, wrap64 (i := (j : Int) + 1) (by omega) (by omega), allBy_snoc hj, List.append_assoc, qu_h]
    rfl
  · show (qh_9_step k A S C B P (s ++ allBy (P.take P.length)) (P.length : Int)).val = _
    unfold qh_9_step
    rw [List.take_length]
    refine Tr.n (by simp) ?_
    rfl
theorem qh_is9 : LoopIs tab FT D21 live 21 qh_lo 0 9 := by
  refine loop_told (sl := qh_9_sl) (step := qh_9_st) (out := qh_9_out) (lor := qh_lo9) (fin := fun x => (qh_9_fin (x.1) (x.2.1) (x.2.2.1) (x.2.2.2.1) (x.2.2.2.2.1) (x.2.2.2.2.2.1) (x.2.2.2.2.2.2.1) (x.2.2.2.2.2.2.2))) (fun _ => rfl) ?_ (fun x n => qh_9_r x.1 x.2.1 x.2.2.1 x.2.2.2.1 x.2.2.2.2.1 x.2.2.2.2.2.1 x.2.2.2.2.2.2.1 x.2.2.2.2.2.2.2 n) (fun x ow => qh_9_h x.1 x.2.1 x.2.2.1 x.2.2.2.1 x.2.2.2.2.1 x.2.2.2.2.2.1 x.2.2.2.2.2.2.1 x.2.2.2.2.2.2.2 ow)
  intro s t h
  unfold qh_lo9 at h
  split at h
  · cases h; exact ⟨(_, _, _, _, _, _, _, _), rfl, rfl⟩
  · cases h
def qh_t (k : Int) (A S C B P : LL) : Tr (BS) := (.ite ((qu_c [[TC.i k]]) = true) (.ite ((k == (3 : Int)) = true) (.ite ((qu_c [[TC.i (A.length : Int)]]) = true) (.ite ((((qu_v [[TC.i k]]).length + (qu_v [[TC.i (A.length : Int)]]).length : Nat) : Int) ≤ 9223372036854775807) (.ite ((qu_c A) = true) (.ite ((qu_c S) = true) (.ite ((((qu_v A).length + (qu_v S).length : Nat) : Int) ≤ 9223372036854775807) (.ite ((qu_c C) = true) (.ite (((((qu_v A) ++ (qu_v S)).length + (qu_v C).length : Nat) : Int) ≤ 9223372036854775807) (.ite ((qu_c B) = true) (.ite ((((((qu_v A) ++ (qu_v S)) ++ (qu_v C)).length + (qu_v B).length : Nat) : Int) ≤ 9223372036854775807) (.ite (((((qu_v [[TC.i k]]) ++ (qu_v [[TC.i (A.length : Int)]])).length + ((((qu_v A) ++ (qu_v S)) ++ (qu_v C)) ++ (qu_v B)).length : Nat) : Int) ≤ 9223372036854775807) (.ok (((qu_v [[TC.i k]]) ++ (qu_v [[TC.i (A.length : Int)]])) ++ ((((qu_v A) ++ (qu_v S)) ++ (qu_v C)) ++ (qu_v B))))
             .no)
            .no)
           .no)
          .no)
         .no)
        .no)
       .no)
      .no)
     .no)
    .no)
   (.ite ((k == (4 : Int)) = true) (.ite ((0 : Int) ≤ (0 : Int) ∧ (0 : Int) < (P.length : Int)) (.ite ((qu_c [[TC.i (P.length : Int)], [TC.i (((nth (row P (0 : Int)) 0).list).length : Int)]]) = true) (.ite ((((qu_v [[TC.i k]]).length + (qu_v [[TC.i (P.length : Int)], [TC.i (((nth (row P (0 : Int)) 0).list).length : Int)]]).length : Nat) : Int) ≤ 9223372036854775807) (.ite ((qh_o9_1 k A S C B P ((qu_v [[TC.i k]]) ++ (qu_v [[TC.i (P.length : Int)], [TC.i (((nth (row P (0 : Int)) 0).list).length : Int)]])) (0 : Int)) = true) (.ok (qh_u9_1 k A S C B P ((qu_v [[TC.i k]]) ++ (qu_v [[TC.i (P.length : Int)], [TC.i (((nth (row P (0 : Int)) 0).list).length : Int)]])) (0 : Int)))
        .no)
       .no)
      .no)
     .no)
    (.ok (qu_v [[TC.i k]]))))
  .no)
def qh_mk (p : BS) : Res := [(false, [⟨.str, .sh, TC.s p⟩])]
def qh_c (k : Int) (A S C B P : LL) : Bool := ((qu_c [[TC.i k]]) && (bif (k == (3 : Int)) then ((qu_c [[TC.i (A.length : Int)]]) && (is ((((qu_v [[TC.i k]]).length + (qu_v [[TC.i (A.length : Int)]]).length : Nat) : Int) ≤ 9223372036854775807) && ((qu_c A) && ((qu_c S) && (is ((((qu_v A).length + (qu_v S).length : Nat) : Int) ≤ 9223372036854775807) && ((qu_c C) && (is (((((qu_v A) ++ (qu_v S)).length + (qu_v C).length : Nat) : Int) ≤ 9223372036854775807) && ((qu_c B) && (is ((((((qu_v A) ++ (qu_v S)) ++ (qu_v C)).length + (qu_v B).length : Nat) : Int) ≤ 9223372036854775807) && (is (((((qu_v [[TC.i k]]) ++ (qu_v [[TC.i (A.length : Int)]])).length + ((((qu_v A) ++ (qu_v S)) ++ (qu_v C)) ++ (qu_v B)).length : Nat) : Int) ≤ 9223372036854775807) && true)))))))))) else (bif (k == (4 : Int)) then (is ((0 : Int) ≤ (0 : Int) ∧ (0 : Int) < (P.length : Int)) && ((qu_c [[TC.i (P.length : Int)], [TC.i (((nth (row P (0 : Int)) 0).list).length : Int)]]) && (is ((((qu_v [[TC.i k]]).length + (qu_v [[TC.i (P.length : Int)], [TC.i (((nth (row P (0 : Int)) 0).list).length : Int)]]).length : Nat) : Int) ≤ 9223372036854775807) && ((qh_o9_1 k A S C B P ((qu_v [[TC.i k]]) ++ (qu_v [[TC.i (P.length : Int)], [TC.i (((nth (row P (0 : Int)) 0).list).length : Int)]])) (0 : Int)) && true)))) else true)))
def qh_v (k : Int) (A S C B P : LL) : BS := (bif (k == (3 : Int)) then (((qu_v [[TC.i k]]) ++ (qu_v [[TC.i (A.length : Int)]])) ++ ((((qu_v A) ++ (qu_v S)) ++ (qu_v C)) ++ (qu_v B))) else (bif (k == (4 : Int)) then (qh_u9_1 k A S C B P ((qu_v [[TC.i k]]) ++ (qu_v [[TC.i (P.length : Int)], [TC.i (((nth (row P (0 : Int)) 0).list).length : Int)]])) (0 : Int)) else (qu_v [[TC.i k]])))
theorem qh_l (k : Int) (A S C B P : LL) : (qh_c k A S C B P) = true → (qh_t k A S C B P).val = some (qh_v k A S C B P) := by
  unfold qh_t qh_v qh_c
  intro h
  repeat' first | refine Tr.gb h fun h => ?_ | refine Tr.gs h fun h => ?_ | refine Tr.ss h (fun h => ?_) fun h => ?_ | exact rfl
def qh_S : List Arg → Option (Bool × Res) := fun xs => match xs with
  | [(true, [(.int .i64, TC.i k), (.slice 2, TC.l A), (.slice 2, TC.l S), (.slice 2, TC.l C), (.slice 2, TC.l B), (.slice 62, TC.l P)])] => some ((qh_c k A S C B P), qh_mk (qh_v k A S C B P))
  | _ => .none
theorem qh_e (k : Int) (A S C B P : LL) : runF tab FT D21 live 21 qh_lo [(true, [(.int .i64, TC.i k), (.slice 2, TC.l A), (.slice 2, TC.l S), (.slice 2, TC.l C), (.slice 2, TC.l B), (.slice 62, TC.l P)])] = (qh_t k A S C B P).run fun p => some (qh_mk p) := by kernel_rfl
theorem qh_s : ∀ xs r, qh_S xs = some (true, r) → runF tab FT D21 live 21 qh_lo xs = some r := by
  intro xs r h
  unfold qh_S at h
  split at h
  · obtain ⟨h1, rfl⟩ := sp h
    exact fun_told (qh_e ..) (qh_l _ _ _ _ _ _) h1
  · cases h
def D22 : Dt := also D21 21 qh_S
theorem d22 : DOk Go.Proofs.Tryd.prog tab D22 := d21.also mixed_ok tab_ok names_ok (fnLoops_one (by kernel_rfl) qh_is9) qh_s
theorem qh_cc {k : Int} {A : LL} {S : LL} {C : LL} {B : LL} {P : LL} (hf : FitS k A S C B P) : (qh_c k A S C B P) = true := by
  unfold qh_c
  refine andT (by exact qu_cc (by first | (simp; done) | (have h3 := hf.1 (by simpa using b1); omega))) ?_
  refine bifT (fun b1 => ?_) (fun b1 => ?_)
  · skip
    refine andT (by exact qu_cc (by first | (simp; done) | (have h3 := hf.1 (by simpa using b1); omega))) ?_
    refine andT (is_true (by simp only [qu_h, List.length_append, numBy_len, List.length_cons, List.length_nil]; first | omega | (have h3 := hf.1 (by simpa using b1); omega))) ?_
    refine andT (by exact qu_cc (by first | (simp; done) | (have h3 := hf.1 (by simpa using b1); omega))) ?_
    refine andT (by exact qu_cc (by first | (simp; done) | (have h3 := hf.1 (by simpa using b1); omega))) ?_
    refine andT (is_true (by simp only [qu_h, List.length_append, numBy_len, List.length_cons, List.length_nil]; first | omega | (have h3 := hf.1 (by simpa using b1); omega))) ?_
    refine andT (by exact qu_cc (by first | (simp; done) | (have h3 := hf.1 (by simpa using b1); omega))) ?_
    refine andT (is_true (by simp only [qu_h, List.length_append, numBy_len, List.length_cons, List.length_nil]; first | omega | (have h3 := hf.1 (by simpa using b1); omega))) ?_
    refine andT (by exact qu_cc (by first | (simp; done) | (have h3 := hf.1 (by simpa using b1); omega))) ?_
    refine andT (is_true (by simp only [qu_h, List.length_append, numBy_len, List.length_cons, List.length_nil]; first | omega | (have h3 := hf.1 (by simpa using b1); omega))) ?_
    refine andT (is_true (by simp only [qu_h, List.length_append, numBy_len, List.length_cons, List.length_nil]; first | omega | (have h3 := hf.1 (by simpa using b1); omega))) ?_
    rfl
  · skip
    refine bifT (fun b2 => ?_) (fun b2 => ?_)
    · skip
      refine andT (is_true (by have h4 := hf.2 (by simpa using b2); omega)) ?_
      refine andT (by exact qu_cc (by first | (simp; done) | (have h3 := hf.1 (by simpa using b1); omega))) ?_
      refine andT (is_true (by simp only [qu_h, List.length_append, numBy_len, List.length_cons, List.length_nil]; first | omega | (have h3 := hf.1 (by simpa using b1); omega))) ?_
      refine andT (by have h4 := hf.2 (by simpa using b2); exact is_true ⟨rfl, by simp only [qu_h, List.length_append, numBy_len, List.length_cons, List.length_nil]; omega, by omega, h4.2.2⟩) ?_
      rfl
    · skip
      rfl
theorem qh_vv (k : Int) (A S C B P : LL) : qh_v k A S C B P = selBy k A S C B P := by
  unfold qh_v selBy
  simp only [qu_h, numBy_one, numBy_two]
  cases k == 3 with
  | true => show _ = bytesL k 1 ++ (bytesL (A.length : Int) 1 ++ (numBy A ++ (numBy S ++ (numBy C ++ (numBy B ++ []))))); simp only [cond_true, List.append_assoc, List.append_nil]
  | false =>
    cases k == 4 with
    | true =>
      show (bytesL k 1 ++ (bytesL (P.length : Int) 1 ++ bytesL ((pAt P 0).length : Int) 1)) ++ allBy P = bytesL k 1 ++ ((bytesL (P.length : Int) 1 ++ bytesL ((pAt P 0).length : Int) 1) ++ allBy P)
      rw [List.append_assoc]
    | false => show bytesL k 1 = bytesL k 1 ++ []; rw [List.append_nil]
def qbw_t (pa : BS) (k : Int) (A S C B P : LL) (k2 : Int) (A2 S2 C2 B2 P2 : LL) : Tr (BS) := (.ite ((qu_c [[TC.i (pa.length : Int)]]) = true) (.ite ((((qu_v [[TC.i (pa.length : Int)]]).length + pa.length : Nat) : Int) ≤ 9223372036854775807) (.ite ((qh_c k A S C B P) = true) (.ite (((((qu_v [[TC.i (pa.length : Int)]]) ++ pa).length + (qh_v k A S C B P).length : Nat) : Int) ≤ 9223372036854775807) (.ite ((qh_c k2 A2 S2 C2 B2 P2) = true) (.ite ((((((qu_v [[TC.i (pa.length : Int)]]) ++ pa) ++ (qh_v k A S C B P)).length + (qh_v k2 A2 S2 C2 B2 P2).length : Nat) : Int) ≤ 9223372036854775807) (.ok ((((qu_v [[TC.i (pa.length : Int)]]) ++ pa) ++ (qh_v k A S C B P)) ++ (qh_v k2 A2 S2 C2 B2 P2)))
       .no)
      .no)
     .no)
    .no)
   .no)
  .no)
def qbw_mk (p : BS) : Res := [(false, [⟨.str, .sh, TC.s p⟩])]
def qbw_c (pa : BS) (k : Int) (A S C B P : LL) (k2 : Int) (A2 S2 C2 B2 P2 : LL) : Bool := is (((qu_c [[TC.i (pa.length : Int)]]) = true) ∧ ((((qu_v [[TC.i (pa.length : Int)]]).length + pa.length : Nat) : Int) ≤ 9223372036854775807) ∧ ((qh_c k A S C B P) = true) ∧ (((((qu_v [[TC.i (pa.length : Int)]]) ++ pa).length + (qh_v k A S C B P).length : Nat) : Int) ≤ 9223372036854775807) ∧ ((qh_c k2 A2 S2 C2 B2 P2) = true) ∧ ((((((qu_v [[TC.i (pa.length : Int)]]) ++ pa) ++ (qh_v k A S C B P)).length + (qh_v k2 A2 S2 C2 B2 P2).length : Nat) : Int) ≤ 9223372036854775807))
def qbw_v (pa : BS) (k : Int) (A S C B P : LL) (k2 : Int) (A2 S2 C2 B2 P2 : LL) : BS := ((((qu_v [[TC.i (pa.length : Int)]]) ++ pa) ++ (qh_v k A S C B P)) ++ (qh_v k2 A2 S2 C2 B2 P2))
theorem qbw_l (pa : BS) (k : Int) (A S C B P : LL) (k2 : Int) (A2 S2 C2 B2 P2 : LL) : (qbw_c pa k A S C B P k2 A2 S2 C2 B2 P2) = true → (qbw_t pa k A S C B P k2 A2 S2 C2 B2 P2).val = some (qbw_v pa k A S C B P k2 A2 S2 C2 B2 P2) := by
  intro h
  obtain ⟨hc0, hc1, hc2, hc3, hc4, hc5⟩ := is_iff.1 h
  unfold qbw_t
  exact (Tr.t hc0 (Tr.t hc1 (Tr.t hc2 (Tr.t hc3 (Tr.t hc4 (Tr.t hc5 rfl))))))
def qbw_S : List Arg → Option (Bool × Res) := fun xs => match xs with
  | [(true, [(.str, TC.s pa), (.int .i64, TC.i k), (.slice 2, TC.l A), (.slice 2, TC.l S), (.slice 2, TC.l C), (.slice 2, TC.l B), (.slice 62, TC.l P), (.int .i64, TC.i k2), (.slice 2, TC.l A2), (.slice 2, TC.l S2), (.slice 2, TC.l C2), (.slice 2, TC.l B2), (.slice 62, TC.l P2)])] => some ((qbw_c pa k A S C B P k2 A2 S2 C2 B2 P2), qbw_mk (qbw_v pa k A S C B P k2 A2 S2 C2 B2 P2))
  | _ => .none
theorem qbw_e (pa : BS) (k : Int) (A S C B P : LL) (k2 : Int) (A2 S2 C2 B2 P2 : LL) : runF tab FT D22 live 11 noLoops [(true, [(.str, TC.s pa), (.int .i64, TC.i k), (.slice 2, TC.l A), (.slice 2, TC.l S), (.slice 2, TC.l C), (.slice 2, TC.l B), (.slice 62, TC.l P), (.int .i64, TC.i k2), (.slice 2, TC.l A2), (.slice 2, TC.l S2), (.slice 2, TC.l C2), (.slice 2, TC.l B2), (.slice 62, TC.l P2)])] = (qbw_t pa k A S C B P k2 A2 S2 C2 B2 P2).run fun p => some (qbw_mk p) := by kernel_rfl
theorem qbw_s : ∀ xs r, qbw_S xs = some (true, r) → runF tab FT D22 live 11 noLoops xs = some r := by
  intro xs r h
  unfold qbw_S at h
  split at h
  · obtain ⟨h1, rfl⟩ := sp h
    exact fun_told (qbw_e ..) (qbw_l _ _ _ _ _ _ _ _ _ _ _ _ _) h1
  · cases h
def D23 : Dt := also D22 11 qbw_S
theorem d23 : DOk Go.Proofs.Tryd.prog tab D23 := d22.also mixed_ok tab_ok names_ok noLoops_ok qbw_s
theorem qbw_cc {pa : BS} {k : Int} {A S C B P : LL} {k2 : Int} {A2 S2 C2 B2 P2 : LL} (hp : pa.length ≤ 1048576) (f1 : FitS k A S C B P) (f2 : FitS k2 A2 S2 C2 B2 P2) : qbw_c pa k A S C B P k2 A2 S2 C2 B2 P2 = true := by
  have s1 := selBy_len f1
  have s2 := selBy_len f2
  refine is_true ⟨qu_cc (by simp), ?_, qh_cc f1, ?_, qh_cc f2, ?_⟩ <;> (simp only [qu_h, qh_vv, List.length_append, numBy_len, List.length_cons, List.length_nil]; omega)
theorem qbw_vv (pa : BS) (k : Int) (A S C B P : LL) (k2 : Int) (A2 S2 C2 B2 P2 : LL) : qbw_v pa k A S C B P k2 A2 S2 C2 B2 P2 = mapBy pa (selBy k A S C B P) (selBy k2 A2 S2 C2 B2 P2) := by
  unfold qbw_v
  rw [qu_h, numBy_one, qh_vv, qh_vv]
  rfl
def qy_t (pa : BS) (k : Int) (A S C B P : LL) (k2 : Int) (A2 S2 C2 B2 P2 : LL) : Tr (Bool) := (.ite ((qcd_c pa) = true) (.ite ((!(qcd_v pa)) = true) (.ok false)
   (.ite ((qw_c k A S C B P) = true) (.ite ((!(qw_v k A S C B P)) = true) (.ok false)
     (.ite ((qw_c k2 A2 S2 C2 B2 P2) = true) (.ite ((!(qw_v k2 A2 S2 C2 B2 P2)) = true) (.ok false)
       (.ite ((k == (2 : Int)) = true) (.ok false)
        (.ite ((k2 == (2 : Int)) = true) (.ok false)
         (.ite ((qbw_c pa k A S C B P k2 A2 S2 C2 B2 P2) = true) (.ok (decide (((qbw_v pa k A S C B P k2 A2 S2 C2 B2 P2).length : Int) ≤ (200 : Int))))
          .no))))
      .no))
    .no))
  .no)
def qy_mk (p : Bool) : Res := [(false, [⟨.bool, .sh, TC.b p⟩])]
def qy_c (pa : BS) (k : Int) (A S C B P : LL) (k2 : Int) (A2 S2 C2 B2 P2 : LL) : Bool := ((qcd_c pa) && (bif (!(qcd_v pa)) then true else ((qw_c k A S C B P) && (bif (!(qw_v k A S C B P)) then true else ((qw_c k2 A2 S2 C2 B2 P2) && (bif (!(qw_v k2 A2 S2 C2 B2 P2)) then true else (bif (k == (2 : Int)) then true else (bif (k2 == (2 : Int)) then true else ((qbw_c pa k A S C B P k2 A2 S2 C2 B2 P2) && true)))))))))
def qy_v (pa : BS) (k : Int) (A S C B P : LL) (k2 : Int) (A2 S2 C2 B2 P2 : LL) : Bool := (bif (!(qcd_v pa)) then false else (bif (!(qw_v k A S C B P)) then false else (bif (!(qw_v k2 A2 S2 C2 B2 P2)) then false else (bif (k == (2 : Int)) then false else (bif (k2 == (2 : Int)) then false else (decide (((qbw_v pa k A S C B P k2 A2 S2 C2 B2 P2).length : Int) ≤ (200 : Int))))))))
theorem qy_l (pa : BS) (k : Int) (A S C B P : LL) (k2 : Int) (A2 S2 C2 B2 P2 : LL) : (qy_c pa k A S C B P k2 A2 S2 C2 B2 P2) = true → (qy_t pa k A S C B P k2 A2 S2 C2 B2 P2).val = some (qy_v pa k A S C B P k2 A2 S2 C2 B2 P2) := by
  unfold qy_t qy_v qy_c
  exact fun h => (Tr.gb h fun h => (Tr.ss h (fun h => rfl) (fun h => (Tr.gb h fun h => (Tr.ss h (fun h => rfl) (fun h => (Tr.gb h fun h => (Tr.ss h (fun h => rfl) (fun h => (Tr.ss h (fun h => rfl) (fun h => (Tr.ss h (fun h => rfl) (fun h => (Tr.gb h fun h => rfl))))))))))))))
def qy_S : List Arg → Option (Bool × Res) := fun xs => match xs with
  | [(true, [(.str, TC.s pa), (.int .i64, TC.i k), (.slice 2, TC.l A), (.slice 2, TC.l S), (.slice 2, TC.l C), (.slice 2, TC.l B), (.slice 62, TC.l P), (.int .i64, TC.i k2), (.slice 2, TC.l A2), (.slice 2, TC.l S2), (.slice 2, TC.l C2), (.slice 2, TC.l B2), (.slice 62, TC.l P2)])] => some ((qy_c pa k A S C B P k2 A2 S2 C2 B2 P2), qy_mk (qy_v pa k A S C B P k2 A2 S2 C2 B2 P2))
  | _ => .none
theorem qy_e (pa : BS) (k : Int) (A S C B P : LL) (k2 : Int) (A2 S2 C2 B2 P2 : LL) : runF tab FT D23 live 10 noLoops [(true, [(.str, TC.s pa), (.int .i64, TC.i k), (.slice 2, TC.l A), (.slice 2, TC.l S), (.slice 2, TC.l C), (.slice 2, TC.l B), (.slice 62, TC.l P), (.int .i64, TC.i k2), (.slice 2, TC.l A2), (.slice 2, TC.l S2), (.slice 2, TC.l C2), (.slice 2, TC.l B2), (.slice 62, TC.l P2)])] = (qy_t pa k A S C B P k2 A2 S2 C2 B2 P2).run fun p => some (qy_mk p) := by kernel_rfl
theorem qy_s : ∀ xs r, qy_S xs = some (true, r) → runF tab FT D23 live 10 noLoops xs = some r := by
  intro xs r h
  unfold qy_S at h
  split at h
  · obtain ⟨h1, rfl⟩ := sp h
    exact fun_told (qy_e ..) (qy_l _ _ _ _ _ _ _ _ _ _ _ _ _) h1
  · cases h
def D24 : Dt := also D23 10 qy_S
theorem d24 : DOk Go.Proofs.Tryd.prog tab D24 := d23.also mixed_ok tab_ok names_ok noLoops_ok qy_s
theorem qy_cc {pa : BS} {k : Int} {A : LL} {S : LL} {C : LL} {B : LL} {P : LL} {k2 : Int} {A2 : LL} {S2 : LL} {C2 : LL} {B2 : LL} {P2 : LL} (hp : pa.length ≤ 1048576) (hA : Typed tab (.slice 2) (.l A)) (hP : Typed tab (.slice 62) (.l P)) (hA2 : Typed tab (.slice 2) (.l A2)) (hP2 : Typed tab (.slice 62) (.l P2)) : (qy_c pa k A S C B P k2 A2 S2 C2 B2 P2) = true := by
  unfold qy_c
  refine andT (by exact qi_cc hp) ?_
  refine bifT (fun b1 => ?_) (fun b1 => ?_)
  · skip
    rfl
  · skip
    refine andT (by exact qw_cc hA hP) ?_
    refine bifT (fun b2 => ?_) (fun b2 => ?_)
    · skip
      rfl
    · skip
      refine andT (by exact qw_cc hA2 hP2) ?_
      refine bifT (fun b3 => ?_) (fun b3 => ?_)
      · skip
        rfl
      · skip
        refine bifT (fun b4 => ?_) (fun b4 => ?_)
        · skip
          rfl
        · skip
          refine bifT (fun b5 => ?_) (fun b5 => ?_)
          · skip
            rfl
          · skip
            refine andT (by exact qbw_cc hp (formV_fit ((qw_vv _ _ _ _ _ _).symm.trans (notF b2))) (formV_fit ((qw_vv _ _ _ _ _ _).symm.trans (notF b3)))) ?_
            rfl
theorem qy_vv (pa : BS) (k : Int) (A S C B P : LL) (k2 : Int) (A2 S2 C2 B2 P2 : LL) : qy_v pa k A S C B P k2 A2 S2 C2 B2 P2 = mapOkB pa k A S C B P k2 A2 S2 C2 B2 P2 := by
  unfold qy_v
  rw [show qcd_v pa = pathB pa from by unfold qcd_v; rw [qi_vv], qw_vv, qw_vv, qbw_vv, le200]
  unfold mapOkB
  generalize pathB pa = p0, formV k A S C B P = p1, formV k2 A2 S2 C2 B2 P2 = p2, (k == 2) = p3, (k2 == 2) = p4, decide ((mapBy pa (selBy k A S C B P) (selBy k2 A2 S2 C2 B2 P2)).length ≤ 200) = p5
  cases p0 <;> cases p1 <;> cases p2 <;> cases p3 <;> cases p4 <;> cases p5 <;> rfl
def qq_t (pa : BS) (k : Int) (A S C B P : LL) (k2 : Int) (A2 S2 C2 B2 P2 : LL) : Tr (BS) := (.ite ((qy_c pa k A S C B P k2 A2 S2 C2 B2 P2) = true) (.ite ((!(qy_v pa k A S C B P k2 A2 S2 C2 B2 P2)) = true) (.ok ([]))
   (.ite ((qbw_c pa k A S C B P k2 A2 S2 C2 B2 P2) = true) (.ok (qbw_v pa k A S C B P k2 A2 S2 C2 B2 P2))
    .no))
  .no)
def qq_mk (p : BS) : Res := [(false, [⟨.str, .sh, TC.s p⟩])]
def qq_c (pa : BS) (k : Int) (A S C B P : LL) (k2 : Int) (A2 S2 C2 B2 P2 : LL) : Bool := ((qy_c pa k A S C B P k2 A2 S2 C2 B2 P2) && (bif (!(qy_v pa k A S C B P k2 A2 S2 C2 B2 P2)) then true else ((qbw_c pa k A S C B P k2 A2 S2 C2 B2 P2) && true)))
def qq_v (pa : BS) (k : Int) (A S C B P : LL) (k2 : Int) (A2 S2 C2 B2 P2 : LL) : BS := (bif (!(qy_v pa k A S C B P k2 A2 S2 C2 B2 P2)) then [] else (qbw_v pa k A S C B P k2 A2 S2 C2 B2 P2))
theorem qq_l (pa : BS) (k : Int) (A S C B P : LL) (k2 : Int) (A2 S2 C2 B2 P2 : LL) : (qq_c pa k A S C B P k2 A2 S2 C2 B2 P2) = true → (qq_t pa k A S C B P k2 A2 S2 C2 B2 P2).val = some (qq_v pa k A S C B P k2 A2 S2 C2 B2 P2) := by
  unfold qq_t qq_v qq_c
  exact fun h => (Tr.gb h fun h => (Tr.ss h (fun h => rfl) (fun h => (Tr.gb h fun h => rfl))))
def qq_S : List Arg → Option (Bool × Res) := fun xs => match xs with
  | [(true, [(.str, TC.s pa), (.int .i64, TC.i k), (.slice 2, TC.l A), (.slice 2, TC.l S), (.slice 2, TC.l C), (.slice 2, TC.l B), (.slice 62, TC.l P), (.int .i64, TC.i k2), (.slice 2, TC.l A2), (.slice 2, TC.l S2), (.slice 2, TC.l C2), (.slice 2, TC.l B2), (.slice 62, TC.l P2)])] => some ((qq_c pa k A S C B P k2 A2 S2 C2 B2 P2), qq_mk (qq_v pa k A S C B P k2 A2 S2 C2 B2 P2))
  | _ => .none
theorem qq_e (pa : BS) (k : Int) (A S C B P : LL) (k2 : Int) (A2 S2 C2 B2 P2 : LL) : runF tab FT D24 live 5 noLoops [(true, [(.str, TC.s pa), (.int .i64, TC.i k), (.slice 2, TC.l A), (.slice 2, TC.l S), (.slice 2, TC.l C), (.slice 2, TC.l B), (.slice 62, TC.l P), (.int .i64, TC.i k2), (.slice 2, TC.l A2), (.slice 2, TC.l S2), (.slice 2, TC.l C2), (.slice 2, TC.l B2), (.slice 62, TC.l P2)])] = (qq_t pa k A S C B P k2 A2 S2 C2 B2 P2).run fun p => some (qq_mk p) := by kernel_rfl
theorem qq_s : ∀ xs r, qq_S xs = some (true, r) → runF tab FT D24 live 5 noLoops xs = some r := by
  intro xs r h
  unfold qq_S at h
  split at h
  · obtain ⟨h1, rfl⟩ := sp h
    exact fun_told (qq_e ..) (qq_l _ _ _ _ _ _ _ _ _ _ _ _ _) h1
  · cases h
def D25 : Dt := also D24 5 qq_S
theorem d25 : DOk Go.Proofs.Tryd.prog tab D25 := d24.also mixed_ok tab_ok names_ok noLoops_ok qq_s
theorem qq_cc {pa : BS} {k : Int} {A : LL} {S : LL} {C : LL} {B : LL} {P : LL} {k2 : Int} {A2 : LL} {S2 : LL} {C2 : LL} {B2 : LL} {P2 : LL} (hp : pa.length ≤ 1048576) (hA : Typed tab (.slice 2) (.l A)) (hP : Typed tab (.slice 62) (.l P)) (hA2 : Typed tab (.slice 2) (.l A2)) (hP2 : Typed tab (.slice 62) (.l P2)) : (qq_c pa k A S C B P k2 A2 S2 C2 B2 P2) = true := by
  unfold qq_c
  refine andT (by exact qy_cc hp hA hP hA2 hP2) ?_
  refine bifT (fun b1 => ?_) (fun b1 => ?_)
  · skip
    rfl
  · skip
    refine andT (by obtain ⟨f1, f2⟩ := mapOk_fit ((qy_vv _ _ _ _ _ _ _ _ _ _ _ _ _ ).symm.trans (notF b1)); exact qbw_cc hp f1 f2) ?_
    rfl
theorem qq_vv (pa : BS) (k : Int) (A S C B P : LL) (k2 : Int) (A2 S2 C2 B2 P2 : LL) : qq_v pa k A S C B P k2 A2 S2 C2 B2 P2 = mapV pa k A S C B P k2 A2 S2 C2 B2 P2 := by
  unfold qq_v mapV
  rw [qy_vv, qbw_vv]
  cases mapOkB pa k A S C B P k2 A2 S2 C2 B2 P2 <;> rfl
def qbu_t (a0 a1 : BS) : Tr (Bool) := (.ite ((decide ((a0.length : Int) ≥ (a1.length : Int))) = true) (.ite ((0 : Int) ≤ (0 : Int) ∧ (0 : Int) ≤ (a1.length : Int) ∧ (a1.length : Int) ≤ (a0.length : Int)) (.ok (((a0.take ((a1.length : Int)).toNat).drop ((0 : Int)).toNat) == a1))
   .no)
  (.ok false))
def qbu_mk (p : Bool) : Res := [(false, [⟨.bool, .sh, TC.b p⟩])]
def qbu_c (a0 a1 : BS) : Bool := (bif (decide ((a0.length : Int) ≥ (a1.length : Int))) then (is ((0 : Int) ≤ (0 : Int) ∧ (0 : Int) ≤ (a1.length : Int) ∧ (a1.length : Int) ≤ (a0.length : Int)) && true) else true)
def qbu_v (a0 a1 : BS) : Bool := (bif (decide ((a0.length : Int) ≥ (a1.length : Int))) then (((a0.take ((a1.length : Int)).toNat).drop ((0 : Int)).toNat) == a1) else false)
theorem qbu_l (a0 a1 : BS) : (qbu_c a0 a1) = true → (qbu_t a0 a1).val = some (qbu_v a0 a1) := by
  unfold qbu_t qbu_v qbu_c
  exact fun h => (Tr.ss h (fun h => (Tr.gs h fun h => rfl)) (fun h => rfl))
def qbu_S : List Arg → Option (Bool × Res) := fun xs => match xs with
  | [(false, [(.str, TC.s a0)]), (false, [(.str, TC.s a1)])] => some ((qbu_c a0 a1), qbu_mk (qbu_v a0 a1))
  | _ => .none
theorem qbu_e (a0 a1 : BS) : runF tab FT D25 live 71 noLoops [(false, [(.str, TC.s a0)]), (false, [(.str, TC.s a1)])] = (qbu_t a0 a1).run fun p => some (qbu_mk p) := by kernel_rfl
theorem qbu_s : ∀ xs r, qbu_S xs = some (true, r) → runF tab FT D25 live 71 noLoops xs = some r := by
  intro xs r h
  unfold qbu_S at h
  split at h
  · obtain ⟨h1, rfl⟩ := sp h
    exact fun_told (qbu_e ..) (qbu_l _ _) h1
  · cases h
def D26 : Dt := also D25 71 qbu_S
theorem d26 : DOk Go.Proofs.Tryd.prog tab D26 := d25.also mixed_ok tab_ok names_ok noLoops_ok qbu_s
def qbt_t (a0 a1 : BS) : Tr (BS × Bool) := (.ite ((qbu_c a0 a1) = true) (.ite ((!(qbu_v a0 a1)) = true) (.ok (a0, false))
   (.ite ((0 : Int) ≤ (a1.length : Int) ∧ (a1.length : Int) ≤ (a0.length : Int) ∧ (a0.length : Int) ≤ (a0.length : Int)) (.ok (((a0.take ((a0.length : Int)).toNat).drop ((a1.length : Int)).toNat), true))
    .no))
  .no)
def qbt_mk (p : BS × Bool) : Res := [(false, [⟨.str, .sh, TC.s (p.1)⟩]), (false, [⟨.bool, .sh, TC.b (p.2)⟩])]
def qbt_c (a0 a1 : BS) : Bool := ((qbu_c a0 a1) && (bif (!(qbu_v a0 a1)) then true else (is ((0 : Int) ≤ (a1.length : Int) ∧ (a1.length : Int) ≤ (a0.length : Int) ∧ (a0.length : Int) ≤ (a0.length : Int)) && true)))
def qbt_v (a0 a1 : BS) : BS × Bool := (bif (!(qbu_v a0 a1)) then (a0, false) else (((a0.take ((a0.length : Int)).toNat).drop ((a1.length : Int)).toNat), true))
theorem qbt_l (a0 a1 : BS) : (qbt_c a0 a1) = true → (qbt_t a0 a1).val = some (qbt_v a0 a1) := by
  unfold qbt_t qbt_v qbt_c
  exact fun h => (Tr.gb h fun h => (Tr.ss h (fun h => rfl) (fun h => (Tr.gs h fun h => rfl))))
def qbt_S : List Arg → Option (Bool × Res) := fun xs => match xs with
  | [(false, [(.str, TC.s a0)]), (false, [(.str, TC.s a1)])] => some ((qbt_c a0 a1), qbt_mk (qbt_v a0 a1))
  | _ => .none
theorem qbt_e (a0 a1 : BS) : runF tab FT D26 live 64 noLoops [(false, [(.str, TC.s a0)]), (false, [(.str, TC.s a1)])] = (qbt_t a0 a1).run fun p => some (qbt_mk p) := by kernel_rfl
theorem qbt_s : ∀ xs r, qbt_S xs = some (true, r) → runF tab FT D26 live 64 noLoops xs = some r := by
  intro xs r h
  unfold qbt_S at h
  split at h
  · obtain ⟨h1, rfl⟩ := sp h
    exact fun_told (qbt_e ..) (qbt_l _ _) h1
  · cases h
def D27 : Dt := also D26 64 qbt_S
theorem d27 : DOk Go.Proofs.Tryd.prog tab D27 := d26.also mixed_ok tab_ok names_ok noLoops_ok qbt_s
def qbo_t (a0 a1 : BS) : Tr (BS × Bool) := (.ite ((qbt_c a0 a1) = true) (.ok ((qbt_v a0 a1).1, (qbt_v a0 a1).2))
  .no)
def qbo_mk (p : BS × Bool) : Res := [(false, [⟨.str, .sh, TC.s (p.1)⟩]), (false, [⟨.bool, .sh, TC.b (p.2)⟩])]
def qbo_c (a0 a1 : BS) : Bool := (qbt_c a0 a1)
def qbo_v (a0 a1 : BS) : BS × Bool := ((qbt_v a0 a1).1, (qbt_v a0 a1).2)
theorem qbo_l (a0 a1 : BS) : (qbo_c a0 a1) = true → (qbo_t a0 a1).val = some (qbo_v a0 a1) := by
  intro h
  have hc0 : (qbt_c a0 a1) = true := h
  unfold qbo_t
  exact (Tr.t hc0 rfl)
def qbo_S : List Arg → Option (Bool × Res) := fun xs => match xs with
  | [(false, [(.str, TC.s a0)]), (false, [(.str, TC.s a1)])] => some ((qbo_c a0 a1), qbo_mk (qbo_v a0 a1))
  | _ => .none
theorem qbo_e (a0 a1 : BS) : runF tab FT D27 live 47 noLoops [(false, [(.str, TC.s a0)]), (false, [(.str, TC.s a1)])] = (qbo_t a0 a1).run fun p => some (qbo_mk p) := by kernel_rfl
theorem qbo_s : ∀ xs r, qbo_S xs = some (true, r) → runF tab FT D27 live 47 noLoops xs = some r := by
  intro xs r h
  unfold qbo_S at h
  split at h
  · obtain ⟨h1, rfl⟩ := sp h
    exact fun_told (qbo_e ..) (qbo_l _ _) h1
  · cases h
def D28 : Dt := also D27 47 qbo_S
theorem d28 : DOk Go.Proofs.Tryd.prog tab D28 := d27.also mixed_ok tab_ok names_ok noLoops_ok qbo_s
def qci_c (s p : BS) : Bool := is (s.length < 4294967281 ∧ 1 ≤ p.length)
def qci_v (s p : BS) : LL := splL s p
def qci_mk (p : LL) : Res := [(false, [⟨.slice 9, .own true, TC.l p⟩])]
def qci_S : List Arg → Option (Bool × Res) := fun xs => match xs with
  | [(false, [(.str, TC.s s)]), (false, [(.str, TC.s p)])] => some ((qci_c s p), qci_mk (qci_v s p))
  | _ => .none
def D29 : Dt := also D28 48 qci_S
theorem d29 : DOk Go.Proofs.Tryd.prog tab D29 := d28.alsoC names_ok (c := _) Go.Proofs.Tryd.func48 rfl (by
  intro xs r h w S hargs0 hS hG hargs
  unfold qci_S at h
  split at h
  · rename_i s p
    obtain ⟨h1, rfl⟩ := sp h
    obtain ⟨h2, h3⟩ := is_iff.1 h1
    obtain ⟨u, us, rfl, ha, hr⟩ := args_cons hargs
    obtain ⟨u2, us2, rfl, hb, hr⟩ := args_cons hr
    cases args_nil hr
    rw [rep_str' (arg_rep ha), rep_str' (arg_rep hb)]
    exact split_told lays146 split_str split_cts split_gl hG h2 h3
  · cases h)
def qr_f2 (s : BS) (m i : Int) : (Unit) ⊕ ((BS) ⊕ (BS)) := (bif (decide (((s.getD (i).toNat 0).toNat : Int) ≥ (65 : Int))) then (bif (decide (((s.getD (i).toNat 0).toNat : Int) ≤ (90 : Int))) then (.inl ()) else (bif (decide (((s.getD (i).toNat 0).toNat : Int) ≥ (97 : Int))) then (bif (!(decide (((s.getD (i).toNat 0).toNat : Int) ≤ (122 : Int)))) then (bif (i == (0 : Int)) then (.inr (.inl s)) else (bif (decide (((s.getD (i).toNat 0).toNat : Int) < (48 : Int))) then (bif (!(((s.getD (i).toNat 0).toNat : Int) == (95 : Int))) then (.inr (.inl s)) else (.inl ())) else (bif (decide (((s.getD (i).toNat 0).toNat : Int) > (57 : Int))) then (bif (!(((s.getD (i).toNat 0).toNat : Int) == (95 : Int))) then (.inr (.inl s)) else (.inl ())) else (.inl ())))) else (.inl ())) else (bif (i == (0 : Int)) then (.inr (.inl s)) else (bif (decide (((s.getD (i).toNat 0).toNat : Int) < (48 : Int))) then (bif (!(((s.getD (i).toNat 0).toNat : Int) == (95 : Int))) then (.inr (.inl s)) else (.inl ())) else (bif (decide (((s.getD (i).toNat 0).toNat : Int) > (57 : Int))) then (bif (!(((s.getD (i).toNat 0).toNat : Int) == (95 : Int))) then (.inr (.inl s)) else (.inl ())) else (.inl ())))))) else (bif (decide (((s.getD (i).toNat 0).toNat : Int) ≥ (97 : Int))) then (bif (!(decide (((s.getD (i).toNat 0).toNat : Int) ≤ (122 : Int)))) then (bif (i == (0 : Int)) then (.inr (.inl s)) else (bif (decide (((s.getD (i).toNat 0).toNat : Int) < (48 : Int))) then (bif (!(((s.getD (i).toNat 0).toNat : Int) == (95 : Int))) then (.inr (.inl s)) else (.inl ())) else (bif (decide (((s.getD (i).toNat 0).toNat : Int) > (57 : Int))) then (bif (!(((s.getD (i).toNat 0).toNat : Int) == (95 : Int))) then (.inr (.inl s)) else (.inl ())) else (.inl ())))) else (.inl ())) else (bif (i == (0 : Int)) then (.inr (.inl s)) else (bif (decide (((s.getD (i).toNat 0).toNat : Int) < (48 : Int))) then (bif (!(((s.getD (i).toNat 0).toNat : Int) == (95 : Int))) then (.inr (.inl s)) else (.inl ())) else (bif (decide (((s.getD (i).toNat 0).toNat : Int) > (57 : Int))) then (bif (!(((s.getD (i).toNat 0).toNat : Int) == (95 : Int))) then (.inr (.inl s)) else (.inl ())) else (.inl ()))))))
def qr_e2 (s : BS) (m : Int) : (BS) ⊕ (BS) := .inr s
def qr_R2 (s : BS) (m i : Int) : (BS) ⊕ (BS) := iter (fun i a => (qr_f2 s m (i : Int))) (fun a => (qr_e2 s m)) (s.length) 0 ()
abbrev qr_2_σ := BS × Int × Int
abbrev qr_2_ω := (BS) ⊕ (BS)
def qr_2_step (s : BS) (m i : Int) : Tr (qr_2_σ ⊕ qr_2_ω) := (.ite ((decide (i < m)) = true) (.ite ((0 : Int) ≤ i ∧ i < (s.length : Int)) (.ite ((decide (((s.getD (i).toNat 0).toNat : Int) ≥ (65 : Int))) = true) (.ite ((decide (((s.getD (i).toNat 0).toNat : Int) ≤ (90 : Int))) = true) (.ok (.inl (s, m, (IntKind.wrap .i64 (i + (1 : Int))))))
     (.ite ((decide (((s.getD (i).toNat 0).toNat : Int) ≥ (97 : Int))) = true) (.ite ((!(decide (((s.getD (i).toNat 0).toNat : Int) ≤ (122 : Int)))) = true) (.ite ((i == (0 : Int)) = true) (.ok (.inr (.inl s)))
        (.ite ((decide (((s.getD (i).toNat 0).toNat : Int) < (48 : Int))) = true) (.ite ((!(((s.getD (i).toNat 0).toNat : Int) == (95 : Int))) = true) (.ok (.inr (.inl s)))
          (.ok (.inl (s, m, (IntKind.wrap .i64 (i + (1 : Int)))))))
         (.ite ((decide (((s.getD (i).toNat 0).toNat : Int) > (57 : Int))) = true) (.ite ((!(((s.getD (i).toNat 0).toNat : Int) == (95 : Int))) = true) (.ok (.inr (.inl s)))
           (.ok (.inl (s, m, (IntKind.wrap .i64 (i + (1 : Int)))))))
          (.ok (.inl (s, m, (IntKind.wrap .i64 (i + (1 : Int)))))))))
       (.ok (.inl (s, m, (IntKind.wrap .i64 (i + (1 : Int)))))))
      (.ite ((i == (0 : Int)) = true) (.ok (.inr (.inl s)))
       (.ite ((decide (((s.getD (i).toNat 0).toNat : Int) < (48 : Int))) = true) (.ite ((!(((s.getD (i).toNat 0).toNat : Int) == (95 : Int))) = true) (.ok (.inr (.inl s)))
         (.ok (.inl (s, m, (IntKind.wrap .i64 (i + (1 : Int)))))))
        (.ite ((decide (((s.getD (i).toNat 0).toNat : Int) > (57 : Int))) = true) (.ite ((!(((s.getD (i).toNat 0).toNat : Int) == (95 : Int))) = true) (.ok (.inr (.inl s)))
          (.ok (.inl (s, m, (IntKind.wrap .i64 (i + (1 : Int)))))))
         (.ok (.inl (s, m, (IntKind.wrap .i64 (i + (1 : Int)))))))))))
    (.ite ((decide (((s.getD (i).toNat 0).toNat : Int) ≥ (97 : Int))) = true) (.ite ((!(decide (((s.getD (i).toNat 0).toNat : Int) ≤ (122 : Int)))) = true) (.ite ((i == (0 : Int)) = true) (.ok (.inr (.inl s)))
       (.ite ((decide (((s.getD (i).toNat 0).toNat : Int) < (48 : Int))) = true) (.ite ((!(((s.getD (i).toNat 0).toNat : Int) == (95 : Int))) = true) (.ok (.inr (.inl s)))
         (.ok (.inl (s, m, (IntKind.wrap .i64 (i + (1 : Int)))))))
        (.ite ((decide (((s.getD (i).toNat 0).toNat : Int) > (57 : Int))) = true) (.ite ((!(((s.getD (i).toNat 0).toNat : Int) == (95 : Int))) = true) (.ok (.inr (.inl s)))
          (.ok (.inl (s, m, (IntKind.wrap .i64 (i + (1 : Int)))))))
         (.ok (.inl (s, m, (IntKind.wrap .i64 (i + (1 : Int)))))))))
      (.ok (.inl (s, m, (IntKind.wrap .i64 (i + (1 : Int)))))))
     (.ite ((i == (0 : Int)) = true) (.ok (.inr (.inl s)))
      (.ite ((decide (((s.getD (i).toNat 0).toNat : Int) < (48 : Int))) = true) (.ite ((!(((s.getD (i).toNat 0).toNat : Int) == (95 : Int))) = true) (.ok (.inr (.inl s)))
        (.ok (.inl (s, m, (IntKind.wrap .i64 (i + (1 : Int)))))))
       (.ite ((decide (((s.getD (i).toNat 0).toNat : Int) > (57 : Int))) = true) (.ite ((!(((s.getD (i).toNat 0).toNat : Int) == (95 : Int))) = true) (.ok (.inr (.inl s)))
         (.ok (.inl (s, m, (IntKind.wrap .i64 (i + (1 : Int)))))))
        (.ok (.inl (s, m, (IntKind.wrap .i64 (i + (1 : Int)))))))))))
   .no)
  (.ok (.inr (.inr s))))
def qr_2_st : qr_2_σ → Tr (qr_2_σ ⊕ qr_2_ω) := fun x => (qr_2_step (x.1) (x.2.1) (x.2.2))
def qr_k2_1 (s : BS) (m i : Int) : Bool := sumIs (qr_R2 s m i)
def qr_o2_2 (s : BS) (m i : Int) : Bool := is (i = 0 ∧ s.length ≤ 140737488355328 ∧ m = (s.length : Int))
def qr_o2_3 (s : BS) (m i : Int) : Bool := is (i = 0 ∧ s.length ≤ 140737488355328 ∧ m = (s.length : Int))
def qr_2_fin (s : BS) (m i : Int) : Told qr_2_ω := (.br (qr_k2_1 s m i) (.leaf (qr_o2_2 s m i) (.inl s)) (.leaf (qr_o2_3 s m i) (.inr s)))
def qr_2_sl (x : qr_2_σ) : List Slot := [⟨.val false [⟨.str, .sh, TC.s (x.1)⟩], ⟨0, 0⟩⟩, ⟨.val false [⟨.int .i64, .sh, TC.i (x.2.1)⟩], ⟨0, 0⟩⟩, ⟨.val false [⟨.int .i64, .sh, TC.i (x.2.2)⟩], ⟨0, 0⟩⟩]
def qr_2_out : qr_2_ω → Ex × List Slot := (Sum.elim (fun x => (.ret, [⟨.val false [⟨.str, .sh, TC.s x⟩], ⟨0, 0⟩⟩, ⟨.val false [⟨.bool, .sh, TC.b false⟩], ⟨0, 0⟩⟩])) (fun x => (.exit 0, [⟨.val false [⟨.str, .sh, TC.s x⟩], ⟨0, 0⟩⟩, Slot.none])))
def qr_lo2 : List Slot → Option (Told (Ex × List Slot)) := fun s => match s with
  | [⟨.val false [⟨.str, .sh, TC.s s⟩], ⟨0, 0⟩⟩, ⟨.val false [⟨.int .i64, .sh, TC.i m⟩], ⟨0, 0⟩⟩, ⟨.val false [⟨.int .i64, .sh, TC.i i⟩], ⟨0, 0⟩⟩] => some (((qr_2_fin s m i)).map qr_2_out)
  | _ => .none
def qr_lo : LoopTeller := fun r s => bif Nat.beq r 2 then qr_lo2 s else .none
theorem qr_2_r (s : BS) (m i : Int) (fuel : Nat) : rounds (rnd tab FT D29 live 51 qr_lo 0 2) leave (fuel + 1) (qr_2_sl (s, m, i)) = ((qr_2_step s m i)).run (goOn (fun s => rounds (rnd tab FT D29 live 51 qr_lo 0 2) leave fuel (qr_2_sl s)) fun w => some (qr_2_out w)) := by kernel_rfl
theorem qr_f2_eq (s : BS) (m i : Int) : qr_f2 s m i = bif nameB i ((s.getD (i).toNat 0).toNat : Int) then Sum.inl () else Sum.inr (Sum.inl s) := by
  unfold qr_f2 nameB letterB
  simp only [dlt, dgt]
  generalize ((s.getD i.toNat 0).toNat : Int) = c
  generalize decide (c ≥ 65) = p0, decide (c ≤ 90) = p1, decide (c ≥ 97) = p2, decide (c ≤ 122) = p3, decide (c ≥ 48) = p4, decide (c ≤ 57) = p5, (c == 95) = p6, (i == 0) = p7
  cases p0 <;> cases p1 <;> cases p2 <;> cases p3 <;> cases p4 <;> cases p5 <;> cases p6 <;> cases p7 <;> rfl
theorem qr_R2_eq (s : BS) (m : Int)  : qr_R2 s m 0 = bif allI (fun i : Nat => nameB (i : Int) ((s.getD ((i : Int)).toNat 0).toNat : Int)) (s.length) then Sum.inr s else (Sum.inl s) := by
  unfold qr_R2
  exact (iter_all (P := (fun i : Nat => nameB (i : Int) ((s.getD ((i : Int)).toNat 0).toNat : Int))) (g := fun _ a => a) (w := Sum.inl s) fun j a _ => qr_f2_eq s m _)
theorem qr_2_h (s : BS) (m i : Int) (ow : qr_2_ω) : ((qr_2_fin s m i)).val = some ow → ∃ fuel, loopN qr_2_st fuel (s, m, i) = some ow := by
  refine auto_const (R := (qr_R2 s m i)) rfl (iter_onR (f := (fun i a => (qr_f2 s m (i : Int)))) (fin := (fun a => (qr_e2 s m))) (Q := endsAs s s) (fun i a => by unfold qr_f2; exact (onR_bif (onR_bif trivial (onR_bif (onR_bif (onR_bif rfl (onR_bif (onR_bif rfl trivial) (onR_bif (onR_bif rfl trivial) trivial))) trivial) (onR_bif rfl (onR_bif (onR_bif rfl trivial) (onR_bif (onR_bif rfl trivial) trivial))))) (onR_bif (onR_bif (onR_bif rfl (onR_bif (onR_bif rfl trivial) (onR_bif (onR_bif rfl trivial) trivial))) trivial) (onR_bif rfl (onR_bif (onR_bif rfl trivial) (onR_bif (onR_bif rfl trivial) trivial)))))) (fun _ => rfl) _ _ _) ?_
  intro ho
  have ho : is (i = 0 ∧ s.length ≤ 140737488355328 ∧ m = (s.length : Int)) = true := ho.elim id id
  obtain ⟨rfl, hs, rfl⟩ := is_iff.1 ho
  skip
  refine ⟨(s.length) + 1, ?_⟩
  refine iter_loop (step := qr_2_st) (s.length) (fun i a => (qr_f2 s (s.length : Int) (i : Int))) (fun a => (qr_e2 s (s.length : Int))) (fun i a => (s, (s.length : Int), (i : Int))) (fun _ _ => True) trivial (fun i a hi hI => ⟨?_, fun _ _ => trivial⟩) (fun a hI => ?_)
  · show (qr_2_step s (s.length : Int) (i : Int)).val = _
    unfold qr_2_step qr_f2
    skip
    refine Tr.t (by simp; omega) ?_
    exact (Tr.t (by first | omega | (constructor <;> omega)) (Tr.bf (Tr.bf (by rw [Tr.val_ok, wrap64 (i := (i : Int) + 1) (by omega) (by omega)]; rfl) (Tr.bf (Tr.bf (Tr.bf rfl (Tr.bf (Tr.bf rfl (by rw [Tr.val_ok, wrap64 (i := (i : Int) + 1) (by omega) (by omega)]; rfl)) (Tr.bf (Tr.bf rfl (by rw [Tr.val_ok, wrap64 (i := (i : Int) + 1) (by omega) (by omega)]; rfl)) (by rw [Tr.val_ok, wrap64 (i := (i : Int) + 1) (by omega) (by omega)]; rfl)))) (by rw [Tr.val_ok, wrap64 (i := (i : Int) + 1) (by omega) (by omega)]; rfl)) (Tr.bf rfl (Tr.bf (Tr.bf rfl (by rw [Tr.val_ok, wrap64 (i := (i : Int) + 1) (by omega) (by omega)]; rfl)) (Tr.bf (Tr.bf rfl (by rw [Tr.val_ok, wrap64 (i := (i : Int) + 1) (by omega) (by omega)]; rfl)) (by rw [Tr.val_ok, wrap64 (i := (i : Int) + 1) (by omega) (by omega)]; rfl)))))) (Tr.bf (Tr.bf (Tr.bf rfl (Tr.bf (Tr.bf rfl (by rw [Tr.val_ok, wrap64 (i := (i : Int) + 1) (by omega) (by omega)]; rfl)) (Tr.bf (Tr.bf rfl (by rw [Tr.val_ok, wrap64 (i := (i : Int) + 1) (by omega) (by omega)]; rfl)) (by rw [Tr.val_ok, wrap64 (i := (i : Int) + 1) (by omega) (by omega)]; rfl)))) (by rw [Tr.val_ok, wrap64 (i := (i : Int) + 1) (by omega) (by omega)]; rfl)) (Tr.bf rfl (Tr.bf (Tr.bf rfl (by rw [Tr.val_ok, wrap64 (i := (i : Int) + 1) (by omega) (by omega)]; rfl)) (Tr.bf (Tr.bf rfl (by rw [Tr.val_ok, wrap64 (i := (i : Int) + 1) (by omega) (by omega)]; rfl)) (by rw [Tr.val_ok, wrap64 (i := (i : Int) + 1) (by omega) (by omega)]; rfl)))))))
  · show (qr_2_step s (s.length : Int) (s.length : Int)).val = _
    refine Tr.n (by first | (simp; done) | (simp; omega) | omega) ?_
    rfl
theorem qr_is2 : LoopIs tab FT D29 live 51 qr_lo 0 2 := by
  refine loop_told (sl := qr_2_sl) (step := qr_2_st) (out := qr_2_out) (lor := qr_lo2) (fin := fun x => (qr_2_fin (x.1) (x.2.1) (x.2.2))) (fun _ => rfl) ?_ (fun x n => qr_2_r x.1 x.2.1 x.2.2 n) (fun x ow => qr_2_h x.1 x.2.1 x.2.2 ow)
  intro s t h
  unfold qr_lo2 at h
  split at h
  · cases h; exact ⟨(_, _, _), rfl, rfl⟩
  · cases h
def qr_t (s : BS) : Tr (Bool) := (.ite ((qr_k2_1 s (s.length : Int) (0 : Int)) = true) (.ite ((qr_o2_2 s (s.length : Int) (0 : Int)) = true) (.ok false)
   .no)
  (.ite ((qr_o2_3 s (s.length : Int) (0 : Int)) = true) (.ite ((decide ((s.length : Int) ≥ (1 : Int))) = true) (.ok (decide ((s.length : Int) ≤ (12 : Int))))
    (.ok false))
   .no))
def qr_mk (p : Bool) : Res := [(false, [⟨.bool, .sh, TC.b p⟩])]
def qr_c (s : BS) : Bool := (bif (qr_k2_1 s (s.length : Int) (0 : Int)) then ((qr_o2_2 s (s.length : Int) (0 : Int)) && true) else ((qr_o2_3 s (s.length : Int) (0 : Int)) && (bif (decide ((s.length : Int) ≥ (1 : Int))) then true else true)))
def qr_v (s : BS) : Bool := (bif (qr_k2_1 s (s.length : Int) (0 : Int)) then false else (bif (decide ((s.length : Int) ≥ (1 : Int))) then (decide ((s.length : Int) ≤ (12 : Int))) else false))
theorem qr_l (s : BS) : (qr_c s) = true → (qr_t s).val = some (qr_v s) := by
  unfold qr_t qr_v qr_c
  exact fun h => (Tr.ss h (fun h => (Tr.gb h fun h => rfl)) (fun h => (Tr.gb h fun h => (Tr.ss h (fun h => rfl) (fun h => rfl)))))
def qr_S : List Arg → Option (Bool × Res) := fun xs => match xs with
  | [(false, [(.str, TC.s s)])] => some ((qr_c s), qr_mk (qr_v s))
  | _ => .none
theorem qr_e (s : BS) : runF tab FT D29 live 51 qr_lo [(false, [(.str, TC.s s)])] = (qr_t s).run fun p => some (qr_mk p) := by kernel_rfl
theorem qr_s : ∀ xs r, qr_S xs = some (true, r) → runF tab FT D29 live 51 qr_lo xs = some r := by
  intro xs r h
  unfold qr_S at h
  split at h
  · obtain ⟨h1, rfl⟩ := sp h
    exact fun_told (qr_e _) (qr_l _) h1
  · cases h
def D30 : Dt := also D29 51 qr_S
theorem d30 : DOk Go.Proofs.Tryd.prog tab D30 := d29.also mixed_ok tab_ok names_ok (fnLoops_one (by kernel_rfl) qr_is2) qr_s
theorem qr_cc {s : BS} (hs : Typed tab (.str) (.s s)) : (qr_c s) = true := by
  unfold qr_c
  refine bifT (fun b1 => ?_) (fun b1 => ?_)
  · skip
    refine andT (by exact is_true ⟨rfl, by have := typed_str_len hs; omega, rfl⟩) ?_
    rfl
  · skip
    refine andT (by exact is_true ⟨rfl, by have := typed_str_len hs; omega, rfl⟩) ?_
    refine bifT (fun b2 => ?_) (fun b2 => ?_)
    · skip
      rfl
    · skip
      rfl
theorem qr_vv (s : BS) : qr_v s = nameOk s := by
  unfold qr_v qr_k2_1 nameOk
  rw [qr_R2_eq]
  generalize allI (fun i : Nat => nameB (i : Int) ((s.getD ((i : Int)).toNat 0).toNat : Int)) s.length = q
  cases q
  · simp [sumIs]
  · show (bif decide ((s.length : Int) ≥ 1) then decide ((s.length : Int) ≤ 12) else false) = (decide ((s.length : Int) ≥ 1) && decide ((s.length : Int) ≤ 12) && true)
    generalize decide ((s.length : Int) ≥ 1) = q1, decide ((s.length : Int) ≤ 12) = q2
    cases q1 <;> cases q2 <;> rfl
def qbv_t (a0 : BS) : Tr (Bool) := (.ite ((qr_c a0) = true) (.ok (!(qr_v a0)))
  .no)
def qbv_mk (p : Bool) : Res := [(false, [⟨.bool, .sh, TC.b p⟩])]
def qbv_c (a0 : BS) : Bool := (qr_c a0)
def qbv_v (a0 : BS) : Bool := (!(qr_v a0))
theorem qbv_l (a0 : BS) : (qbv_c a0) = true → (qbv_t a0).val = some (qbv_v a0) := by
  intro h
  have hc0 : (qr_c a0) = true := h
  unfold qbv_t
  exact (Tr.t hc0 rfl)
def qbv_S : List Arg → Option (Bool × Res) := fun xs => match xs with
  | [(false, [(.str, TC.s a0)])] => some ((qbv_c a0), qbv_mk (qbv_v a0))
  | _ => .none
theorem qbv_e (a0 : BS) : runF tab FT D30 live 50 noLoops [(false, [(.str, TC.s a0)])] = (qbv_t a0).run fun p => some (qbv_mk p) := by kernel_rfl
theorem qbv_s : ∀ xs r, qbv_S xs = some (true, r) → runF tab FT D30 live 50 noLoops xs = some r := by
  intro xs r h
  unfold qbv_S at h
  split at h
  · obtain ⟨h1, rfl⟩ := sp h
    exact fun_told (qbv_e _) (qbv_l _) h1
  · cases h
def D31 : Dt := also D30 50 qbv_S
theorem d31 : DOk Go.Proofs.Tryd.prog tab D31 := d30.also mixed_ok tab_ok names_ok noLoops_ok qbv_s
abbrev qk_2_σ := LL × Int × Int
abbrev qk_2_ω := (Int) ⊕ (Unit)
def qk_2_step (A : LL) (m i : Int) : Tr (qk_2_σ ⊕ qk_2_ω) := (.ite ((decide (i < m)) = true) (.ite ((0 : Int) ≤ i ∧ i < (A.length : Int)) (.ite ((qbv_c ((nth (row A i) 0).str)) = true) (.ite ((qbv_v ((nth (row A i) 0).str)) = true) (.ok (.inr (.inl i)))
     (.ok (.inl (A, m, (IntKind.wrap .i64 (i + (1 : Int)))))))
    .no)
   .no)
  (.ok (.inr (.inr ()))))
def qk_2_st : qk_2_σ → Tr (qk_2_σ ⊕ qk_2_ω) := fun x => (qk_2_step (x.1) (x.2.1) (x.2.2))
def qk_k2_1 (A : LL) (m i : Int) : Bool := A.all (fun x => !(qbv_v ((nth x 0).str)))
def qk_o2_2 (A : LL) (m i : Int) : Bool := is (i = 0 ∧ Typed tab (.slice 9) (.l A) ∧ m = (A.length : Int))
def qk_o2_3 (A : LL) (m i : Int) : Bool := is (i = 0 ∧ Typed tab (.slice 9) (.l A) ∧ m = (A.length : Int))
def qk_u2_3 (A : LL) (m i : Int) : Int := (Int.ofNat (A.findIdx fun x => !(fun x => !(qbv_v ((nth x 0).str))) x))
def qk_2_fin (A : LL) (m i : Int) : Told qk_2_ω := (.br (qk_k2_1 A m i) (.leaf (qk_o2_2 A m i) (.inr ())) (.leaf (qk_o2_3 A m i) (.inl (qk_u2_3 A m i))))
def qk_2_sl (x : qk_2_σ) : List Slot := [⟨.val false [⟨.slice 9, .sh, TC.l (x.1)⟩], ⟨0, 0⟩⟩, ⟨.val false [⟨.func, .sh, TC.f 50 []⟩], ⟨0, 0⟩⟩, ⟨.val false [⟨.int .i64, .sh, TC.i (x.2.1)⟩], ⟨0, 0⟩⟩, ⟨.val false [⟨.int .i64, .sh, TC.i (x.2.2)⟩], ⟨0, 0⟩⟩]
def qk_2_out : qk_2_ω → Ex × List Slot := (Sum.elim (fun x => (.ret, [⟨.val false [⟨.int .i64, .sh, TC.i x⟩], ⟨0, 0⟩⟩])) (fun x => (.exit 0, [Slot.none])))
def qk_lo2 : List Slot → Option (Told (Ex × List Slot)) := fun s => match s with
  | [⟨.val false [⟨.slice 9, .sh, TC.l A⟩], ⟨0, 0⟩⟩, ⟨.val false [⟨.func, .sh, TC.f 50 []⟩], ⟨0, 0⟩⟩, ⟨.val false [⟨.int .i64, .sh, TC.i m⟩], ⟨0, 0⟩⟩, ⟨.val false [⟨.int .i64, .sh, TC.i i⟩], ⟨0, 0⟩⟩] => some (((qk_2_fin A m i)).map qk_2_out)
  | _ => .none
def qk_lo : LoopTeller := fun r s => bif Nat.beq r 2 then qk_lo2 s else .none
theorem qk_2_r (A : LL) (m i : Int) (fuel : Nat) : rounds (rnd tab FT D31 live 66 qk_lo 0 2) leave (fuel + 1) (qk_2_sl (A, m, i)) = ((qk_2_step A m i)).run (goOn (fun s => rounds (rnd tab FT D31 live 66 qk_lo 0 2) leave fuel (qk_2_sl s)) fun w => some (qk_2_out w)) := by kernel_rfl
theorem qk_2_h (A : LL) (m i : Int) (ow : qk_2_ω) : ((qk_2_fin A m i)).val = some ow → ∃ fuel, loopN qk_2_st fuel (A, m, i) = some ow := by
  intro h
  have key : Typed tab (.slice 9) (.l A) → loopN qk_2_st (A.length + 1) (A, (A.length : Int), (0 : Int)) = some (if A.all (fun x => !(qbv_v ((nth x 0).str))) = true then (.inr ()) else (.inl (Int.ofNat (A.findIdx fun x => !(fun x => !(qbv_v ((nth x 0).str))) x)))) := by
    intro ht
    have hlen : A.length ≤ 140737488351232 := by have := typed_room ht; simp only [show (tab 9).bytes = 16 from rfl] at this; omega
    have key := loopN_scan (step := qk_2_st) A [] (fun x => !(qbv_v ((nth x 0).str))) (fun a _ => a) (fun i a => (A, (A.length : Int), (i : Int))) (fun a => (.inr ())) (fun i a => (.inl (i : Int))) (fun i a hi => ?_) (fun a => ?_) A.length 0 () (by omega)
    · first | (rw [Nat.zero_add] at key; exact key) | exact key
    · have c0 : Typed tab (.str) (.s (nth (A.getD i []) 0).str) := typed_s (typed_cell ht (A.getD i []) (mem_getD hi) 0 (by decide))
      show (qk_2_step A (A.length : Int) (i : Int)).val = _
      unfold qk_2_step
      refine Tr.t (by simp; omega) ?_
      skip
      refine Tr.t (by first | omega | (constructor <;> omega)) ?_
      refine Tr.t (by first | (apply is_true; and_intros <;> (first | rfl | assumption | (apply qx_cc <;> assumption) | (apply qj_cc <;> assumption) | (apply ql_cc <;> assumption) | (apply qt_cc <;> assumption) | (apply qp_cc <;> assumption) | (apply qi_cc <;> assumption) | (apply qn_cc <;> assumption) | (apply qf_cc <;> assumption) | (apply qw_cc <;> assumption) | (apply qh_cc <;> assumption) | (apply qy_cc <;> assumption) | (apply qq_cc <;> assumption) | (apply qr_cc <;> assumption) | (first | (apply is_true; and_intros <;> (first | rfl | assumption | (apply qx_cc <;> assumption) | (apply qj_cc <;> assumption) | (apply ql_cc <;> assumption) | (apply qt_cc <;> assumption) | (apply qp_cc <;> assumption) | (apply qi_cc <;> assumption) | (apply qn_cc <;> assumption) | (apply qf_cc <;> assumption) | (apply qw_cc <;> assumption) | (apply qh_cc <;> assumption) | (apply qy_cc <;> assumption) | (apply qq_cc <;> assumption) | (apply qr_cc <;> assumption) | (first | (apply is_true; and_intros <;> (first | rfl | assumption | (apply qx_cc <;> assumption) | (apply qj_cc <;> assumption) | (apply ql_cc <;> assumption) | (apply qt_cc <;> assumption) | (apply qp_cc <;> assumption) | (apply qi_cc <;> assumption) | (apply qn_cc <;> assumption) | (apply qf_cc <;> assumption) | (apply qw_cc <;> assumption) | (apply qh_cc <;> assumption) | (apply qy_cc <;> assumption) | (apply qq_cc <;> assumption) | (apply qr_cc <;> assumption) | (first | (apply is_true; and_intros <;> (first | rfl | assumption | (apply qx_cc <;> assumption) | (apply qj_cc <;> assumption) | (apply ql_cc <;> assumption) | (apply qt_cc <;> assumption) | (apply qp_cc <;> assumption) | (apply qi_cc <;> assumption) | (apply qn_cc <;> assumption) | (apply qf_cc <;> assumption) | (apply qw_cc <;> assumption) | (apply qh_cc <;> assumption) | (apply qy_cc <;> assumption) | (apply qq_cc <;> assumption) | (apply qr_cc <;> assumption))) | (apply qx_cc <;> assumption) | (apply qj_cc <;> assumption) | (apply ql_cc <;> assumption) | (apply qt_cc <;> assumption) | (apply qp_cc <;> assumption) | (apply qi_cc <;> assumption) | (apply qn_cc <;> assumption) | (apply qf_cc <;> assumption) | (apply qw_cc <;> assumption) | (apply qh_cc <;> assumption) | (apply qy_cc <;> assumption) | (apply qq_cc <;> assumption) | (apply qr_cc <;> assumption)))) | (apply qx_cc <;> assumption) | (apply qj_cc <;> assumption) | (apply ql_cc <;> assumption) | (apply qt_cc <;> assumption) | (apply qp_cc <;> assumption) | (apply qi_cc <;> assumption) | (apply qn_cc <;> assumption) | (apply qf_cc <;> assumption) | (apply qw_cc <;> assumption) | (apply qh_cc <;> assumption) | (apply qy_cc <;> assumption) | (apply qq_cc <;> assumption) | (apply qr_cc <;> assumption)))) | (apply qx_cc <;> assumption) | (apply qj_cc <;> assumption) | (apply ql_cc <;> assumption) | (apply qt_cc <;> assumption) | (apply qp_cc <;> assumption) | (apply qi_cc <;> assumption) | (apply qn_cc <;> assumption) | (apply qf_cc <;> assumption) | (apply qw_cc <;> assumption) | (apply qh_cc <;> assumption) | (apply qy_cc <;> assumption) | (apply qq_cc <;> assumption) | (apply qr_cc <;> assumption)))) | (apply qx_cc <;> assumption) | (apply qj_cc <;> assumption) | (apply ql_cc <;> assumption) | (apply qt_cc <;> assumption) | (apply qp_cc <;> assumption) | (apply qi_cc <;> assumption) | (apply qn_cc <;> assumption) | (apply qf_cc <;> assumption) | (apply qw_cc <;> assumption) | (apply qh_cc <;> assumption) | (apply qy_cc <;> assumption) | (apply qq_cc <;> assumption) | (apply qr_cc <;> assumption)) ?_
      refine Tr.b2 (fun hP => ?_) (fun _ => rfl)
      rw [Tr.val_ok, wrap64 (i := (i : Int) + 1) (by omega) (by omega)]; rfl
    · show (qk_2_step A (A.length : Int) (A.length : Int)).val = _
      refine Tr.n (by simp) ?_
      rfl
  simp only [qk_2_fin, Told.val] at h
  cases hk : A.all (fun x => !(qbv_v ((nth x 0).str))) with
  | true =>
    rw [if_pos (show qk_k2_1 A m i = true from hk)] at h
    split at h
    · rename_i ho
      obtain ⟨rfl, ht, rfl⟩ := is_iff.1 ho
      cases h
      refine ⟨_, (key ht).trans ?_⟩
      rw [hk]; rfl
    · cases h
  | false =>
    rw [if_neg (show ¬qk_k2_1 A m i = true from by rw [show qk_k2_1 A m i = (A.all (fun x => !(qbv_v ((nth x 0).str)))) from rfl, hk]; simp)] at h
    split at h
    · rename_i ho
      obtain ⟨rfl, ht, rfl⟩ := is_iff.1 ho
      cases h
      refine ⟨_, (key ht).trans ?_⟩
      rw [hk]; rfl
    · cases h
theorem qk_is2 : LoopIs tab FT D31 live 66 qk_lo 0 2 := by
  refine loop_told (sl := qk_2_sl) (step := qk_2_st) (out := qk_2_out) (lor := qk_lo2) (fin := fun x => (qk_2_fin (x.1) (x.2.1) (x.2.2))) (fun _ => rfl) ?_ (fun x n => qk_2_r x.1 x.2.1 x.2.2 n) (fun x ow => qk_2_h x.1 x.2.1 x.2.2 ow)
  intro s t h
  unfold qk_lo2 at h
  split at h
  · cases h; exact ⟨(_, _, _), rfl, rfl⟩
  · cases h
def qk_t (A : LL) : Tr (Int) := (.ite ((qk_k2_1 A (A.length : Int) (0 : Int)) = true) (.ite ((qk_o2_2 A (A.length : Int) (0 : Int)) = true) (.ok (-1 : Int))
   .no)
  (.ite ((qk_o2_3 A (A.length : Int) (0 : Int)) = true) (.ok (qk_u2_3 A (A.length : Int) (0 : Int)))
   .no))
def qk_mk (p : Int) : Res := [(false, [⟨.int .i64, .sh, TC.i p⟩])]
def qk_c (A : LL) : Bool := is (Typed tab (.slice 9) (.l A))
def qk_v (A : LL) : Int := if (A.all (fun x => !(qbv_v ((nth x 0).str)))) = true then -1 else (Int.ofNat (A.findIdx fun x => !(fun x => !(qbv_v ((nth x 0).str))) x))
theorem qk_l (A : LL) : (qk_c A) = true → (qk_t A).val = some (qk_v A) := by
  intro h
  have ht := is_iff.1 h
  unfold qk_t
  cases hk : A.all (fun x => !(qbv_v ((nth x 0).str))) with
  | true =>
    refine Tr.t (show A.all (fun x => !(qbv_v ((nth x 0).str))) = true from hk) ?_
    refine Tr.t (is_true ⟨rfl, ht, rfl⟩) ?_
    show _ = some (qk_v A ); unfold qk_v; rw [if_pos hk]; rfl
  | false =>
    refine Tr.n (show ¬A.all (fun x => !(qbv_v ((nth x 0).str))) = true from by rw [hk]; simp) ?_
    refine Tr.t (is_true ⟨rfl, ht, rfl⟩) ?_
    show _ = some (qk_v A ); unfold qk_v; rw [if_neg (by rw [hk]; simp)]; rfl
def qk_S : List Arg → Option (Bool × Res) := fun xs => match xs with
  | [(false, [(.slice 9, TC.l A)]), (false, [(.func, TC.f 50 [])])] => some ((qk_c A), qk_mk (qk_v A))
  | _ => .none
theorem qk_e (A : LL) : runF tab FT D31 live 66 qk_lo [(false, [(.slice 9, TC.l A)]), (false, [(.func, TC.f 50 [])])] = (qk_t A).run fun p => some (qk_mk p) := by kernel_rfl
theorem qk_s : ∀ xs r, qk_S xs = some (true, r) → runF tab FT D31 live 66 qk_lo xs = some r := by
  intro xs r h
  unfold qk_S at h
  split at h
  · obtain ⟨h1, rfl⟩ := sp h
    exact fun_told (qk_e _) (qk_l _) h1
  · cases h
def D32 : Dt := also D31 66 qk_S
theorem d32 : DOk Go.Proofs.Tryd.prog tab D32 := d31.also mixed_ok tab_ok names_ok (fnLoops_one (by kernel_rfl) qk_is2) qk_s
def qbj_t (A : LL) : Tr (Bool) := (.ite ((qk_c A) = true) (.ok (decide ((qk_v A) ≥ (0 : Int))))
  .no)
def qbj_mk (p : Bool) : Res := [(false, [⟨.bool, .sh, TC.b p⟩])]
def qbj_c (A : LL) : Bool := is (Typed tab (.slice 9) (.l A))
def qbj_v (A : LL) : Bool := !(A.all (fun x => !(qbv_v ((nth x 0).str))))
theorem qbj_l (A : LL) : (qbj_c A) = true → (qbj_t A).val = some (qbj_v A) := by
  intro h
  have ht := is_iff.1 h
  unfold qbj_t
  refine Tr.t (is_true ht) ?_
  show some (decide (qk_v A  ≥ 0)) = some (!(A.all (fun x => !(qbv_v ((nth x 0).str)))))
  unfold qk_v
  cases hk : A.all (fun x => !(qbv_v ((nth x 0).str))) <;> simp
def qbj_S : List Arg → Option (Bool × Res) := fun xs => match xs with
  | [(false, [(.slice 9, TC.l A)]), (false, [(.func, TC.f 50 [])])] => some ((qbj_c A), qbj_mk (qbj_v A))
  | _ => .none
theorem qbj_e (A : LL) : runF tab FT D32 live 49 noLoops [(false, [(.slice 9, TC.l A)]), (false, [(.func, TC.f 50 [])])] = (qbj_t A).run fun p => some (qbj_mk p) := by kernel_rfl
theorem qbj_s : ∀ xs r, qbj_S xs = some (true, r) → runF tab FT D32 live 49 noLoops xs = some r := by
  intro xs r h
  unfold qbj_S at h
  split at h
  · obtain ⟨h1, rfl⟩ := sp h
    exact fun_told (qbj_e _) (qbj_l _) h1
  · cases h
def D33 : Dt := also D32 49 qbj_S
theorem d33 : DOk Go.Proofs.Tryd.prog tab D33 := d32.also mixed_ok tab_ok names_ok noLoops_ok qbj_s
def qbh_t (s : BS) : Tr (LL × Bool) := (.ite ((s == [47]) = true) (.ok ([], true))
  (.ite ((qbo_c s [47]) = true) (.ite ((qci_c ((qbo_v s [47]).1) [47]) = true) (.ite ((!(qbo_v s [47]).2) = true) (.ok ([], false))
     (.ite ((decide (((qci_v ((qbo_v s [47]).1) [47]).length : Int) > (6 : Int))) = true) (.ok ([], false))
      (.ite ((qbj_c (qci_v ((qbo_v s [47]).1) [47])) = true) (.ite ((qbj_v (qci_v ((qbo_v s [47]).1) [47])) = true) (.ok ([], false))
        (.ok ((qci_v ((qbo_v s [47]).1) [47]), true)))
       .no)))
    .no)
   .no))
def qbh_mk (p : LL × Bool) : Res := [(false, [⟨.slice 9, .own true, TC.l (p.1)⟩]), (false, [⟨.bool, .sh, TC.b (p.2)⟩])]
def qbh_c (s : BS) : Bool := (bif (s == [47]) then true else ((qbo_c s [47]) && ((qci_c ((qbo_v s [47]).1) [47]) && (bif (!(qbo_v s [47]).2) then true else (bif (decide (((qci_v ((qbo_v s [47]).1) [47]).length : Int) > (6 : Int))) then true else ((qbj_c (qci_v ((qbo_v s [47]).1) [47])) && (bif (qbj_v (qci_v ((qbo_v s [47]).1) [47])) then true else true)))))))
def qbh_v (s : BS) : LL × Bool := (bif (s == [47]) then ([], true) else (bif (!(qbo_v s [47]).2) then ([], false) else (bif (decide (((qci_v ((qbo_v s [47]).1) [47]).length : Int) > (6 : Int))) then ([], false) else (bif (qbj_v (qci_v ((qbo_v s [47]).1) [47])) then ([], false) else ((qci_v ((qbo_v s [47]).1) [47]), true)))))
theorem qbh_l (s : BS) : (qbh_c s) = true → (qbh_t s).val = some (qbh_v s) := by
  unfold qbh_t qbh_v qbh_c
  exact fun h => (Tr.ss h (fun h => rfl) (fun h => (Tr.gb h fun h => (Tr.gb h fun h => (Tr.ss h (fun h => rfl) (fun h => (Tr.ss h (fun h => rfl) (fun h => (Tr.gb h fun h => (Tr.ss h (fun h => rfl) (fun h => rfl)))))))))))
def qbh_S : List Arg → Option (Bool × Res) := fun xs => match xs with
  | [(false, [(.str, TC.s s)])] => some ((qbh_c s), qbh_mk (qbh_v s))
  | _ => .none
theorem qbh_e (s : BS) : runF tab FT D33 live 36 noLoops [(false, [(.str, TC.s s)])] = (qbh_t s).run fun p => some (qbh_mk p) := by kernel_rfl
theorem qbh_s : ∀ xs r, qbh_S xs = some (true, r) → runF tab FT D33 live 36 noLoops xs = some r := by
  intro xs r h
  unfold qbh_S at h
  split at h
  · obtain ⟨h1, rfl⟩ := sp h
    exact fun_told (qbh_e _) (qbh_l _) h1
  · cases h
def D34 : Dt := also D33 36 qbh_S
theorem d34 : DOk Go.Proofs.Tryd.prog tab D34 := d33.also mixed_ok tab_ok names_ok noLoops_ok qbh_s
theorem cut_c (s : BS) : qbo_c s [47] = true := by
  unfold qbo_c qbt_c qbu_c
  cases s with
  | nil => rfl
  | cons b l =>
    rw [show decide (((b :: l).length : Int) ≥ (([47] : BS).length : Int)) = true from by simp; omega, is_true (show (0 : Int) ≤ (0 : Int) ∧ (0 : Int) ≤ (([47] : BS).length : Int) ∧ (([47] : BS).length : Int) ≤ ((b :: l).length : Int) from by simp; omega),
      is_true (show (0 : Int) ≤ (([47] : BS).length : Int) ∧ (([47] : BS).length : Int) ≤ ((b :: l).length : Int) ∧ ((b :: l).length : Int) ≤ ((b :: l).length : Int) from by simp; omega)]
    cases qbu_v (b :: l) [47] <;> rfl
theorem cut_v (s : BS) : qbo_v s [47] = bif (!(s == []) && (s.getD 0 0 == 47)) then (s.drop 1, true) else (s, false) := by
  unfold qbo_v qbt_v qbu_v
  cases s with
  | nil => rfl
  | cons b l =>
    rw [show decide (((b :: l).length : Int) ≥ (([47] : BS).length : Int)) = true from by simp; omega]
    rw [show ((((b :: l).take ((([47] : BS).length : Int)).toNat).drop ((0 : Int)).toNat) == ([47] : BS)) = (b == 47) from by
      show ([b] == [47]) = _
      rw [Bool.eq_iff_iff]; simp]
    rw [show (((b :: l).take (((b :: l).length : Int)).toNat).drop ((([47] : BS).length : Int)).toNat) = l from by
      show ((b :: l).take (b :: l).length).drop 1 = l
      rw [List.take_length]; rfl]
    show _ = bif (!false && (b == 47)) then (l, true) else _
    cases b == 47 <;> rfl
theorem pcs_len : ∀ t : BS, (pcs t).length ≤ t.length + 1 ∧ ∀ x, x ∈ pcs t → x.length ≤ t.length
  | [] => ⟨by simp [pcs], fun x hx => by simp [pcs] at hx; subst hx; simp⟩
  | b :: l => by
    obtain ⟨h1, h2⟩ := pcs_len l
    rw [pcs_cons]
    cases b == 47 with
    | true =>
      refine ⟨by simp; omega, fun x hx => ?_⟩
      rcases List.mem_cons.1 hx with rfl | hx
      · simp
      · have := h2 x hx; simp; omega
    | false =>
      show (hdl [b] (pcs l)).length ≤ _ ∧ ∀ x, x ∈ hdl [b] (pcs l) → _
      cases hp : pcs l with
      | nil => exact absurd hp (pcs_ne l)
      | cons y z =>
        rw [hp] at h1 h2
        refine ⟨by simp [hdl] at h1 ⊢; omega, fun x hx => ?_⟩
        rcases List.mem_cons.1 hx with rfl | hx
        · have := h2 y List.mem_cons_self; simp; omega
        · have := h2 x (List.mem_cons_of_mem _ hx); simp; omega
theorem pcs_typed {t : BS} (h : t.length ≤ 1048576) : Typed tab (.slice 9) (.l (rowsS (pcs t))) := by
  obtain ⟨h1, h2⟩ := pcs_len t
  have hl : (rowsS (pcs t)).length ≤ 1048577 := by unfold rowsS; rw [List.length_map]; omega
  refine .slice _ _ (by rw [show (tab 9).bytes = 16 from rfl]; unfold reachBytes; omega) (by unfold maxLen; omega) (fun x hx => ?_) (fun x hx k hk => ?_)
  · obtain ⟨y, _, rfl⟩ := List.mem_map.1 hx
    rfl
  · obtain ⟨y, hy, rfl⟩ := List.mem_map.1 hx
    have hk : k < 1 := hk
    obtain rfl : k = 0 := by omega
    exact .str _ (by have := h2 y hy; unfold reachBytes; omega)
theorem cut_len (s : BS) : (qbo_v s [47]).1.length ≤ s.length := by
  rw [cut_v]
  cases (!(s == []) && (s.getD 0 0 == 47))
  · exact Nat.le_refl _
  · show (s.drop 1).length ≤ _
    rw [List.length_drop]; omega
theorem qbh_cc {s : BS} (hs : s.length ≤ 1048576) : qbh_c s = true := by
  have h1 := cut_len s
  have a1 := cut_c s
  have a2 : qci_c ((qbo_v s [47]).1) [47] = true := is_true ⟨by omega, by simp⟩
  have a3 : qbj_c (qci_v ((qbo_v s [47]).1) [47]) = true := by
    unfold qci_v
    rw [splL_slash]
    exact is_true (pcs_typed (by omega))
  unfold qbh_c
  rw [a1, a2, a3]
  generalize (s == [47]) = p1, (qbo_v s [47]).2 = p2, decide (((qci_v ((qbo_v s [47]).1) [47]).length : Int) > (6 : Int)) = p3, qbj_v (qci_v ((qbo_v s [47]).1) [47]) = p4
  cases p1 <;> cases p2 <;> cases p3 <;> cases p4 <;> rfl
theorem qbh_vv (s : BS) : qbh_v s = (pathV s, pathB s) := by
  unfold qbh_v qbj_v qci_v
  simp only [splL_slash]
  rw [show (fun x : List TC => !(qbv_v (nth x 0).str)) = fun x => nameOk (nth x 0).str from by
    funext x
    unfold qbv_v
    rw [qr_vv, Bool.not_not]]
  have ha : ∀ L : List (BS), (rowsS L).all (fun x => nameOk (nth x 0).str) = L.all nameOk := fun L => by
    unfold rowsS
    rw [List.all_map]
    rfl
  rw [ha, cut_v]
  unfold pathV pathB
  cases h : s == [47] with
  | true =>
    have := eq_of_beq h
    subst this
    rfl
  | false =>
    have e2 : ∀ L : List (BS), decide (((rowsS L).length : Int) > 6) = !decide (L.length ≤ 6) := fun L => by
      rw [← decide_not]; exact decide_eq_decide.2 (by unfold rowsS; rw [List.length_map]; omega)
    rw [e2]
    generalize (s == []) = p1, (s.getD 0 0 == 47) = p2
    cases p1 <;> cases p2 <;> first
      | rfl
      | (show (bif !decide ((pcs (s.drop 1)).length ≤ 6) then _ else bif !((pcs (s.drop 1)).all nameOk) then _ else _) = _
         generalize (pcs (s.drop 1)).all nameOk = p3, decide ((pcs (s.drop 1)).length ≤ 6) = p4
         cases p3 <;> cases p4 <;> rfl)
def qcc_t (a0 : BS) : Tr (Bool) := (.ite ((qbh_c a0) = true) (.ok ((qbh_v a0).2))
  .no)
def qcc_mk (p : Bool) : Res := [(false, [⟨.bool, .sh, TC.b p⟩])]
def qcc_c (a0 : BS) : Bool := (qbh_c a0)
def qcc_v (a0 : BS) : Bool := (qbh_v a0).2
theorem qcc_l (a0 : BS) : (qcc_c a0) = true → (qcc_t a0).val = some (qcc_v a0) := by
  intro h
  have hc0 : (qbh_c a0) = true := h
  unfold qcc_t
  exact (Tr.t hc0 rfl)
def qcc_S : List Arg → Option (Bool × Res) := fun xs => match xs with
  | [(false, [(.str, TC.s a0)])] => some ((qcc_c a0), qcc_mk (qcc_v a0))
  | _ => .none
theorem qcc_e (a0 : BS) : runF tab FT D34 live 24 noLoops [(false, [(.str, TC.s a0)])] = (qcc_t a0).run fun p => some (qcc_mk p) := by kernel_rfl
theorem qcc_s : ∀ xs r, qcc_S xs = some (true, r) → runF tab FT D34 live 24 noLoops xs = some r := by
  intro xs r h
  unfold qcc_S at h
  split at h
  · obtain ⟨h1, rfl⟩ := sp h
    exact fun_told (qcc_e _) (qcc_l _) h1
  · cases h
def D35 : Dt := also D34 24 qcc_S
theorem d35 : DOk Go.Proofs.Tryd.prog tab D35 := d34.also mixed_ok tab_ok names_ok noLoops_ok qcc_s
def qbx_t (a0 : Int) (a1 a2 a3 a4 a5 : LL) : Tr (LL) := .ok ([[TC.l a1], [TC.l a2], [TC.l a3], [TC.l a4]])
def qbx_mk (p : LL) : Res := [(false, [⟨.slice 22, .own false, TC.l p⟩])]
def qbx_c (a0 : Int) (a1 a2 a3 a4 a5 : LL) : Bool := true
def qbx_v (a0 : Int) (a1 a2 a3 a4 a5 : LL) : LL := [[TC.l a1], [TC.l a2], [TC.l a3], [TC.l a4]]
theorem qbx_l (a0 : Int) (a1 a2 a3 a4 a5 : LL) : (qbx_c a0 a1 a2 a3 a4 a5) = true → (qbx_t a0 a1 a2 a3 a4 a5).val = some (qbx_v a0 a1 a2 a3 a4 a5) := by
  intro h
  skip
  unfold qbx_t qbx_v
  exact rfl
def qbx_S : List Arg → Option (Bool × Res) := fun xs => match xs with
  | [(true, [(.int .i64, TC.i a0), (.slice 2, TC.l a1), (.slice 2, TC.l a2), (.slice 2, TC.l a3), (.slice 2, TC.l a4), (.slice 62, TC.l a5)])] => some (true, qbx_mk (qbx_v a0 a1 a2 a3 a4 a5))
  | _ => .none
theorem qbx_e (a0 : Int) (a1 a2 a3 a4 a5 : LL) : runF tab FT D35 live 41 noLoops [(true, [(.int .i64, TC.i a0), (.slice 2, TC.l a1), (.slice 2, TC.l a2), (.slice 2, TC.l a3), (.slice 2, TC.l a4), (.slice 62, TC.l a5)])] = (qbx_t a0 a1 a2 a3 a4 a5).run fun p => some (qbx_mk p) := by kernel_rfl
theorem qbx_s : ∀ xs r, qbx_S xs = some (true, r) → runF tab FT D35 live 41 noLoops xs = some r := by
  intro xs r h
  unfold qbx_S at h
  split at h
  · obtain ⟨h1, rfl⟩ := sp h
    exact fun_told (qbx_e ..) (qbx_l _ _ _ _ _ _) rfl
  · cases h
def D36 : Dt := also D35 41 qbx_S
theorem d36 : DOk Go.Proofs.Tryd.prog tab D36 := d35.also mixed_ok tab_ok names_ok noLoops_ok qbx_s
def E_2 (x y : List TC) : Bool := ((nth x 0).int == (nth y 0).int)
abbrev qv_4_σ := LL × LL × Int × Int
abbrev qv_4_ω := (Unit) ⊕ (Unit)
def qv_4_step (A C : LL) (m i : Int) : Tr (qv_4_σ ⊕ qv_4_ω) := (.ite ((decide (i < m)) = true) (.ite ((0 : Int) ≤ i ∧ i < (A.length : Int)) (.ite ((0 : Int) ≤ i ∧ i < (C.length : Int)) (.ite ((!((nth (row A i) 0).int == (nth (row C i) 0).int)) = true) (.ok (.inr (.inl ())))
     (.ok (.inl (A, C, m, (IntKind.wrap .i64 (i + (1 : Int)))))))
    .no)
   .no)
  (.ok (.inr (.inr ()))))
def qv_4_st : qv_4_σ → Tr (qv_4_σ ⊕ qv_4_ω) := fun x => (qv_4_step (x.1) (x.2.1) (x.2.2.1) (x.2.2.2))
def qv_k4_1 (A C : LL) (m i : Int) : Bool := allEq E_2 A C
def qv_o4_2 (A C : LL) (m i : Int) : Bool := is (A.length = C.length ∧ i = 0 ∧ Typed tab (.slice 2) (.l A) ∧ m = (A.length : Int))
def qv_o4_3 (A C : LL) (m i : Int) : Bool := is (A.length = C.length ∧ i = 0 ∧ Typed tab (.slice 2) (.l A) ∧ m = (A.length : Int))
def qv_4_fin (A C : LL) (m i : Int) : Told qv_4_ω := (.br (qv_k4_1 A C m i) (.leaf (qv_o4_2 A C m i) (.inr ())) (.leaf (qv_o4_3 A C m i) (.inl ())))
def qv_4_sl (x : qv_4_σ) : List Slot := [⟨.val false [⟨.slice 2, .sh, TC.l (x.1)⟩], ⟨0, 0⟩⟩, ⟨.val false [⟨.slice 2, .sh, TC.l (x.2.1)⟩], ⟨0, 0⟩⟩, ⟨.val false [⟨.int .i64, .sh, TC.i (x.2.2.1)⟩], ⟨0, 0⟩⟩, ⟨.val false [⟨.int .i64, .sh, TC.i (x.2.2.2)⟩], ⟨0, 0⟩⟩]
def qv_4_out : qv_4_ω → Ex × List Slot := (Sum.elim (fun x => (.ret, [⟨.val false [⟨.bool, .sh, TC.b false⟩], ⟨0, 0⟩⟩])) (fun x => (.exit 0, [Slot.none])))
def qv_lo4 : List Slot → Option (Told (Ex × List Slot)) := fun s => match s with
  | [⟨.val false [⟨.slice 2, .sh, TC.l A⟩], ⟨0, 0⟩⟩, ⟨.val false [⟨.slice 2, .sh, TC.l C⟩], ⟨0, 0⟩⟩, ⟨.val false [⟨.int .i64, .sh, TC.i m⟩], ⟨0, 0⟩⟩, ⟨.val false [⟨.int .i64, .sh, TC.i i⟩], ⟨0, 0⟩⟩] => some (((qv_4_fin A C m i)).map qv_4_out)
  | _ => .none
def qv_lo : LoopTeller := fun r s => bif Nat.beq r 4 then qv_lo4 s else .none
theorem qv_4_r (A C : LL) (m i : Int) (fuel : Nat) : rounds (rnd tab FT D36 live 53 qv_lo 0 4) leave (fuel + 1) (qv_4_sl (A, C, m, i)) = ((qv_4_step A C m i)).run (goOn (fun s => rounds (rnd tab FT D36 live 53 qv_lo 0 4) leave fuel (qv_4_sl s)) fun w => some (qv_4_out w)) := by kernel_rfl
theorem qv_4_h (A C : LL) (m i : Int) (ow : qv_4_ω) : ((qv_4_fin A C m i)).val = some ow → ∃ fuel, loopN qv_4_st fuel (A, C, m, i) = some ow := by
  intro h
  have key : A.length = C.length → Typed tab (.slice 2) (.l A) → loopN qv_4_st (A.length + 1) (A, C, (A.length : Int), 0) = some (if allEq E_2 A C = true then .inr () else .inl ()) := by
    intro hl ht
    have hlen : A.length ≤ 140737488351232 := by have := typed_room ht; simp only [show (tab 2).bytes = 8 from rfl] at this; omega
    refine loopN_allEq A C E_2 (fun i => (A, C, (A.length : Int), (i : Int))) _ _ hl (fun i hi => ?_) ?_ A.length 0 (by omega)
    · show (qv_4_step A C (A.length : Int) (i : Int)).val = _
      unfold qv_4_step
      refine Tr.t (by simp; omega) ?_
      refine Tr.t (by constructor <;> omega) ?_
      refine Tr.t (by constructor <;> omega) ?_
      rw [wrap64 (i := (i : Int) + 1) (by omega) (by omega)]
      rw [Tr.val_br]
      show (if (!(E_2 (A.getD i []) (C.getD i []))) = true then _ else _) = _
      cases E_2 (A.getD i []) (C.getD i []) <;> rfl
    · show (qv_4_step A C (A.length : Int) (A.length : Int)).val = _
      refine Tr.n (by simp) ?_
      rfl
  simp only [qv_4_fin, Told.val] at h
  cases hk : allEq E_2 A C with
  | true =>
    rw [if_pos (show qv_k4_1 A C m i = true from hk)] at h
    split at h
    · rename_i ho
      obtain ⟨hl, rfl, ht, rfl⟩ := is_iff.1 ho
      cases h
      refine ⟨_, (key hl ht).trans ?_⟩
      rw [hk]; rfl
    · cases h
  | false =>
    rw [if_neg (show ¬qv_k4_1 A C m i = true from by rw [show qv_k4_1 A C m i = allEq E_2 A C from rfl, hk]; simp)] at h
    split at h
    · rename_i ho
      obtain ⟨hl, rfl, ht, rfl⟩ := is_iff.1 ho
      cases h
      refine ⟨_, (key hl ht).trans ?_⟩
      rw [hk]; rfl
    · cases h
theorem qv_is4 : LoopIs tab FT D36 live 53 qv_lo 0 4 := by
  refine loop_told (sl := qv_4_sl) (step := qv_4_st) (out := qv_4_out) (lor := qv_lo4) (fin := fun x => (qv_4_fin (x.1) (x.2.1) (x.2.2.1) (x.2.2.2))) (fun _ => rfl) ?_ (fun x n => qv_4_r x.1 x.2.1 x.2.2.1 x.2.2.2 n) (fun x ow => qv_4_h x.1 x.2.1 x.2.2.1 x.2.2.2 ow)
  intro s t h
  unfold qv_lo4 at h
  split at h
  · cases h; exact ⟨(_, _, _, _), rfl, rfl⟩
  · cases h
def qv_t (A C : LL) : Tr (Bool) := (.ite ((!((A.length : Int) == (C.length : Int))) = true) (.ok false)
  (.ite ((qv_k4_1 A C (A.length : Int) (0 : Int)) = true) (.ite ((qv_o4_2 A C (A.length : Int) (0 : Int)) = true) (.ok true)
    .no)
   (.ite ((qv_o4_3 A C (A.length : Int) (0 : Int)) = true) (.ok false)
    .no)))
def qv_mk (p : Bool) : Res := [(false, [⟨.bool, .sh, TC.b p⟩])]
def qv_c (A C : LL) : Bool := is (Typed tab (.slice 2) (.l A))
def qv_v (A C : LL) : Bool := allEq E_2 A C
theorem qv_l (A C : LL) : (qv_c A C) = true → (qv_t A C).val = some (qv_v A C) := by
  intro h
  have ht := is_iff.1 h
  unfold qv_t
  by_cases hl : A.length = C.length
  · refine Tr.n (by simp [hl]) ?_
    cases hk : allEq E_2 A C with
    | true =>
      refine Tr.t (show allEq E_2 A C = true from hk) ?_
      refine Tr.t (is_true ⟨hl, rfl, ht, rfl⟩) ?_
      show _ = some (allEq E_2 A C); rw [hk]; rfl
    | false =>
      refine Tr.n (show ¬allEq E_2 A C = true from by rw [hk]; simp) ?_
      refine Tr.t (is_true ⟨hl, rfl, ht, rfl⟩) ?_
      show _ = some (allEq E_2 A C); rw [hk]; rfl
  · refine Tr.t (by simp; omega) ?_
    show _ = some (allEq E_2 A C)
    rw [allEq_ne hl]
    rfl
def qv_S : List Arg → Option (Bool × Res) := fun xs => match xs with
  | [(false, [(.slice 2, TC.l A)]), (false, [(.slice 2, TC.l C)])] => some ((qv_c A C), qv_mk (qv_v A C))
  | _ => .none
theorem qv_e (A C : LL) : runF tab FT D36 live 53 qv_lo [(false, [(.slice 2, TC.l A)]), (false, [(.slice 2, TC.l C)])] = (qv_t A C).run fun p => some (qv_mk p) := by kernel_rfl
theorem qv_s : ∀ xs r, qv_S xs = some (true, r) → runF tab FT D36 live 53 qv_lo xs = some r := by
  intro xs r h
  unfold qv_S at h
  split at h
  · obtain ⟨h1, rfl⟩ := sp h
    exact fun_told (qv_e ..) (qv_l _ _) h1
  · cases h
def D37 : Dt := also D36 53 qv_S
theorem d37 : DOk Go.Proofs.Tryd.prog tab D37 := d36.also mixed_ok tab_ok names_ok (fnLoops_one (by kernel_rfl) qv_is4) qv_s
def qe_E (x y : List TC) : Bool := qv_v ((nth x 0).list) ((nth y 0).list)
abbrev qe_4_σ := LL × LL × Int × Int
abbrev qe_4_ω := (Unit) ⊕ (Unit)
def qe_4_step (C A : LL) (m i : Int) : Tr (qe_4_σ ⊕ qe_4_ω) := (.ite ((decide (i < m)) = true) (.ite ((0 : Int) ≤ i ∧ i < (A.length : Int)) (.ite ((0 : Int) ≤ i ∧ i < (C.length : Int)) (.ite ((qv_c ((nth (row A i) 0).list) ((nth (row C i) 0).list)) = true) (.ite ((!(qv_v ((nth (row A i) 0).list) ((nth (row C i) 0).list))) = true) (.ok (.inr (.inl ())))
      (.ok (.inl (C, A, m, (IntKind.wrap .i64 (i + (1 : Int)))))))
     .no)
    .no)
   .no)
  (.ok (.inr (.inr ()))))
def qe_4_st : qe_4_σ → Tr (qe_4_σ ⊕ qe_4_ω) := fun x => (qe_4_step (x.1) (x.2.1) (x.2.2.1) (x.2.2.2))
def qe_k4_1 (C A : LL) (m i : Int) : Bool := allEq qe_E A C
def qe_o4_2 (C A : LL) (m i : Int) : Bool := is (A.length = C.length ∧ i = 0 ∧ Typed tab (.slice 22) (.l A) ∧ m = (A.length : Int) ∧ (∀ x y : List TC, x ∈ A → y ∈ C → qv_c ((nth x 0).list) ((nth y 0).list) = true))
def qe_o4_3 (C A : LL) (m i : Int) : Bool := (qe_o4_2 C A m i)
def qe_4_fin (C A : LL) (m i : Int) : Told qe_4_ω := (.br (qe_k4_1 C A m i) (.leaf (qe_o4_2 C A m i) (.inr ())) (.leaf (qe_o4_3 C A m i) (.inl ())))
def qe_4_sl (x : qe_4_σ) : List Slot := [⟨.val false [⟨.slice 22, .sh, TC.l (x.1)⟩], ⟨0, 0⟩⟩, ⟨.val false [⟨.func, .sh, TC.f 53 []⟩], ⟨0, 0⟩⟩, ⟨.val false [⟨.slice 22, .sh, TC.l (x.2.1)⟩], ⟨0, 0⟩⟩, ⟨.val false [⟨.int .i64, .sh, TC.i (x.2.2.1)⟩], ⟨0, 0⟩⟩, ⟨.val false [⟨.int .i64, .sh, TC.i (x.2.2.2)⟩], ⟨0, 0⟩⟩]
def qe_4_out : qe_4_ω → Ex × List Slot := (Sum.elim (fun x => (.ret, [⟨.val false [⟨.bool, .sh, TC.b false⟩], ⟨0, 0⟩⟩])) (fun x => (.exit 0, [Slot.none])))
def qe_lo4 : List Slot → Option (Told (Ex × List Slot)) := fun s => match s with
  | [⟨.val false [⟨.slice 22, .sh, TC.l C⟩], ⟨0, 0⟩⟩, ⟨.val false [⟨.func, .sh, TC.f 53 []⟩], ⟨0, 0⟩⟩, ⟨.val false [⟨.slice 22, .sh, TC.l A⟩], ⟨0, 0⟩⟩, ⟨.val false [⟨.int .i64, .sh, TC.i m⟩], ⟨0, 0⟩⟩, ⟨.val false [⟨.int .i64, .sh, TC.i i⟩], ⟨0, 0⟩⟩] => some (((qe_4_fin C A m i)).map qe_4_out)
  | _ => .none
def qe_lo : LoopTeller := fun r s => bif Nat.beq r 4 then qe_lo4 s else .none
theorem qe_4_r (C A : LL) (m i : Int) (fuel : Nat) : rounds (rnd tab FT D37 live 52 qe_lo 0 4) leave (fuel + 1) (qe_4_sl (C, A, m, i)) = ((qe_4_step C A m i)).run (goOn (fun s => rounds (rnd tab FT D37 live 52 qe_lo 0 4) leave fuel (qe_4_sl s)) fun w => some (qe_4_out w)) := by kernel_rfl
theorem qe_4_h (C A : LL) (m i : Int) (ow : qe_4_ω) : ((qe_4_fin C A m i)).val = some ow → ∃ fuel, loopN qe_4_st fuel (C, A, m, i) = some ow := by
  intro h
  have key : A.length = C.length → Typed tab (.slice 22) (.l A) → (∀ x y : List TC, x ∈ A → y ∈ C → qv_c ((nth x 0).list) ((nth y 0).list) = true) → loopN qe_4_st (A.length + 1) (C, A, (A.length : Int), 0) = some (if allEq qe_E A C = true then .inr () else .inl ()) := by
    intro hl ht hr
    have hlen : A.length ≤ 140737488351232 := by have := typed_room ht; simp only [show (tab 22).bytes = 24 from rfl] at this; omega
    refine loopN_allEq A C qe_E (fun i => (C, A, (A.length : Int), (i : Int))) _ _ hl (fun i hi => ?_) ?_ A.length 0 (by omega)
    · show (qe_4_step C A (A.length : Int) (i : Int)).val = _
      unfold qe_4_step
      refine Tr.t (by simp; omega) ?_
      refine Tr.t (by constructor <;> omega) ?_
      refine Tr.t (by constructor <;> omega) ?_
      refine Tr.t (hr _ _ (mem_getD hi) (mem_getD (by omega))) ?_
      rw [wrap64 (i := (i : Int) + 1) (by omega) (by omega)]
      rw [Tr.val_br]
      show (if (!(qe_E (A.getD i []) (C.getD i []))) = true then _ else _) = _
      cases qe_E (A.getD i []) (C.getD i []) <;> rfl
    · show (qe_4_step C A (A.length : Int) (A.length : Int)).val = _
      refine Tr.n (by simp) ?_
      rfl
  simp only [qe_4_fin, Told.val] at h
  cases hk : allEq qe_E A C with
  | true =>
    rw [if_pos (show qe_k4_1 C A m i = true from hk)] at h
    split at h
    · rename_i ho
      obtain ⟨hl, rfl, ht, rfl, hr⟩ := is_iff.1 ho
      cases h
      refine ⟨_, (key hl ht hr).trans ?_⟩
      rw [hk]; rfl
    · cases h
  | false =>
    rw [if_neg (show ¬qe_k4_1 C A m i = true from by rw [show qe_k4_1 C A m i = allEq qe_E A C from rfl, hk]; simp)] at h
    split at h
    · rename_i ho
      obtain ⟨hl, rfl, ht, rfl, hr⟩ := is_iff.1 ho
      cases h
      refine ⟨_, (key hl ht hr).trans ?_⟩
      rw [hk]; rfl
    · cases h
theorem qe_is4 : LoopIs tab FT D37 live 52 qe_lo 0 4 := by
  refine loop_told (sl := qe_4_sl) (step := qe_4_st) (out := qe_4_out) (lor := qe_lo4) (fin := fun x => (qe_4_fin (x.1) (x.2.1) (x.2.2.1) (x.2.2.2))) (fun _ => rfl) ?_ (fun x n => qe_4_r x.1 x.2.1 x.2.2.1 x.2.2.2 n) (fun x ow => qe_4_h x.1 x.2.1 x.2.2.1 x.2.2.2 ow)
  intro s t h
  unfold qe_lo4 at h
  split at h
  · cases h; exact ⟨(_, _, _, _), rfl, rfl⟩
  · cases h
def qe_t (A C : LL) : Tr (Bool) := (.ite ((!((A.length : Int) == (C.length : Int))) = true) (.ok false)
  (.ite ((qe_k4_1 C A (A.length : Int) (0 : Int)) = true) (.ite ((qe_o4_2 C A (A.length : Int) (0 : Int)) = true) (.ok true)
    .no)
   (.ite ((qe_o4_3 C A (A.length : Int) (0 : Int)) = true) (.ok false)
    .no)))
def qe_mk (p : Bool) : Res := [(false, [⟨.bool, .sh, TC.b p⟩])]
def qe_c (A C : LL) : Bool := is (Typed tab (.slice 22) (.l A) ∧ (∀ x y : List TC, x ∈ A → y ∈ C → qv_c ((nth x 0).list) ((nth y 0).list) = true))
def qe_v (A C : LL) : Bool := allEq qe_E A C
theorem qe_l (A C : LL) : (qe_c A C) = true → (qe_t A C).val = some (qe_v A C) := by
  intro h
  obtain ⟨ht, hr⟩ := is_iff.1 h
  unfold qe_t
  by_cases hl : A.length = C.length
  · refine Tr.n (by simp [hl]) ?_
    cases hk : allEq qe_E A C with
    | true =>
      refine Tr.t (show allEq qe_E A C = true from hk) ?_
      refine Tr.t (is_true ⟨hl, rfl, ht, rfl, hr⟩) ?_
      show _ = some (allEq qe_E A C); rw [hk]; rfl
    | false =>
      refine Tr.n (show ¬allEq qe_E A C = true from by rw [hk]; simp) ?_
      refine Tr.t (is_true ⟨hl, rfl, ht, rfl, hr⟩) ?_
      show _ = some (allEq qe_E A C); rw [hk]; rfl
  · refine Tr.t (by simp; omega) ?_
    show _ = some (allEq qe_E A C)
    rw [allEq_ne hl]; rfl
def qe_S : List Arg → Option (Bool × Res) := fun xs => match xs with
  | [(false, [(.slice 22, TC.l A)]), (false, [(.slice 22, TC.l C)]), (false, [(.func, TC.f 53 [])])] => some ((qe_c A C), qe_mk (qe_v A C))
  | _ => .none
theorem qe_e (A C : LL) : runF tab FT D37 live 52 qe_lo [(false, [(.slice 22, TC.l A)]), (false, [(.slice 22, TC.l C)]), (false, [(.func, TC.f 53 [])])] = (qe_t A C).run fun p => some (qe_mk p) := by kernel_rfl
theorem qe_s : ∀ xs r, qe_S xs = some (true, r) → runF tab FT D37 live 52 qe_lo xs = some r := by
  intro xs r h
  unfold qe_S at h
  split at h
  · obtain ⟨h1, rfl⟩ := sp h
    exact fun_told (qe_e ..) (qe_l _ _) h1
  · cases h
def D38 : Dt := also D37 52 qe_S
theorem d38 : DOk Go.Proofs.Tryd.prog tab D38 := d37.also mixed_ok tab_ok names_ok (fnLoops_one (by kernel_rfl) qe_is4) qe_s
def qce_t (a0 a1 : LL) : Tr (Bool) := (.ite ((qv_c a0 a1) = true) (.ok (qv_v a0 a1))
  .no)
def qce_mk (p : Bool) : Res := [(false, [⟨.bool, .sh, TC.b p⟩])]
def qce_c (a0 a1 : LL) : Bool := (qv_c a0 a1)
def qce_v (a0 a1 : LL) : Bool := (qv_v a0 a1)
theorem qce_l (a0 a1 : LL) : (qce_c a0 a1) = true → (qce_t a0 a1).val = some (qce_v a0 a1) := by
  intro h
  have hc0 : (qv_c a0 a1) = true := h
  unfold qce_t
  exact (Tr.t hc0 rfl)
def qce_S : List Arg → Option (Bool × Res) := fun xs => match xs with
  | [(true, [(.slice 2, TC.l a0)]), (true, [(.slice 2, TC.l a1)])] => some ((qce_c a0 a1), qce_mk (qce_v a0 a1))
  | _ => .none
theorem qce_e (a0 a1 : LL) : runF tab FT D38 live 55 noLoops [(true, [(.slice 2, TC.l a0)]), (true, [(.slice 2, TC.l a1)])] = (qce_t a0 a1).run fun p => some (qce_mk p) := by kernel_rfl
theorem qce_s : ∀ xs r, qce_S xs = some (true, r) → runF tab FT D38 live 55 noLoops xs = some r := by
  intro xs r h
  unfold qce_S at h
  split at h
  · obtain ⟨h1, rfl⟩ := sp h
    exact fun_told (qce_e ..) (qce_l _ _) h1
  · cases h
def D39 : Dt := also D38 55 qce_S
theorem d39 : DOk Go.Proofs.Tryd.prog tab D39 := d38.also mixed_ok tab_ok names_ok noLoops_ok qce_s
def qa_E (x y : List TC) : Bool := qce_v ((nth x 0).list) ((nth y 0).list)
abbrev qa_4_σ := LL × LL × Int × Int
abbrev qa_4_ω := (Unit) ⊕ (Unit)
def qa_4_step (C A : LL) (m i : Int) : Tr (qa_4_σ ⊕ qa_4_ω) := (.ite ((decide (i < m)) = true) (.ite ((0 : Int) ≤ i ∧ i < (A.length : Int)) (.ite ((0 : Int) ≤ i ∧ i < (C.length : Int)) (.ite ((qce_c ((nth (row A i) 0).list) ((nth (row C i) 0).list)) = true) (.ite ((!(qce_v ((nth (row A i) 0).list) ((nth (row C i) 0).list))) = true) (.ok (.inr (.inl ())))
      (.ok (.inl (C, A, m, (IntKind.wrap .i64 (i + (1 : Int)))))))
     .no)
    .no)
   .no)
  (.ok (.inr (.inr ()))))
def qa_4_st : qa_4_σ → Tr (qa_4_σ ⊕ qa_4_ω) := fun x => (qa_4_step (x.1) (x.2.1) (x.2.2.1) (x.2.2.2))
def qa_k4_1 (C A : LL) (m i : Int) : Bool := allEq qa_E A C
def qa_o4_2 (C A : LL) (m i : Int) : Bool := is (A.length = C.length ∧ i = 0 ∧ Typed tab (.slice 62) (.l A) ∧ m = (A.length : Int) ∧ (∀ x y : List TC, x ∈ A → y ∈ C → qce_c ((nth x 0).list) ((nth y 0).list) = true))
def qa_o4_3 (C A : LL) (m i : Int) : Bool := (qa_o4_2 C A m i)
def qa_4_fin (C A : LL) (m i : Int) : Told qa_4_ω := (.br (qa_k4_1 C A m i) (.leaf (qa_o4_2 C A m i) (.inr ())) (.leaf (qa_o4_3 C A m i) (.inl ())))
def qa_4_sl (x : qa_4_σ) : List Slot := [⟨.val false [⟨.slice 62, .sh, TC.l (x.1)⟩], ⟨0, 0⟩⟩, ⟨.val false [⟨.func, .sh, TC.f 55 []⟩], ⟨0, 0⟩⟩, ⟨.val false [⟨.slice 62, .sh, TC.l (x.2.1)⟩], ⟨0, 0⟩⟩, ⟨.val false [⟨.int .i64, .sh, TC.i (x.2.2.1)⟩], ⟨0, 0⟩⟩, ⟨.val false [⟨.int .i64, .sh, TC.i (x.2.2.2)⟩], ⟨0, 0⟩⟩]
def qa_4_out : qa_4_ω → Ex × List Slot := (Sum.elim (fun x => (.ret, [⟨.val false [⟨.bool, .sh, TC.b false⟩], ⟨0, 0⟩⟩])) (fun x => (.exit 0, [Slot.none])))
def qa_lo4 : List Slot → Option (Told (Ex × List Slot)) := fun s => match s with
  | [⟨.val false [⟨.slice 62, .sh, TC.l C⟩], ⟨0, 0⟩⟩, ⟨.val false [⟨.func, .sh, TC.f 55 []⟩], ⟨0, 0⟩⟩, ⟨.val false [⟨.slice 62, .sh, TC.l A⟩], ⟨0, 0⟩⟩, ⟨.val false [⟨.int .i64, .sh, TC.i m⟩], ⟨0, 0⟩⟩, ⟨.val false [⟨.int .i64, .sh, TC.i i⟩], ⟨0, 0⟩⟩] => some (((qa_4_fin C A m i)).map qa_4_out)
  | _ => .none
def qa_lo : LoopTeller := fun r s => bif Nat.beq r 4 then qa_lo4 s else .none
theorem qa_4_r (C A : LL) (m i : Int) (fuel : Nat) : rounds (rnd tab FT D39 live 54 qa_lo 0 4) leave (fuel + 1) (qa_4_sl (C, A, m, i)) = ((qa_4_step C A m i)).run (goOn (fun s => rounds (rnd tab FT D39 live 54 qa_lo 0 4) leave fuel (qa_4_sl s)) fun w => some (qa_4_out w)) := by kernel_rfl
theorem qa_4_h (C A : LL) (m i : Int) (ow : qa_4_ω) : ((qa_4_fin C A m i)).val = some ow → ∃ fuel, loopN qa_4_st fuel (C, A, m, i) = some ow := by
  intro h
  have key : A.length = C.length → Typed tab (.slice 62) (.l A) → (∀ x y : List TC, x ∈ A → y ∈ C → qce_c ((nth x 0).list) ((nth y 0).list) = true) → loopN qa_4_st (A.length + 1) (C, A, (A.length : Int), 0) = some (if allEq qa_E A C = true then .inr () else .inl ()) := by
    intro hl ht hr
    have hlen : A.length ≤ 140737488351232 := by have := typed_room ht; simp only [show (tab 62).bytes = 24 from rfl] at this; omega
    refine loopN_allEq A C qa_E (fun i => (C, A, (A.length : Int), (i : Int))) _ _ hl (fun i hi => ?_) ?_ A.length 0 (by omega)
    · show (qa_4_step C A (A.length : Int) (i : Int)).val = _
      unfold qa_4_step
      refine Tr.t (by simp; omega) ?_
      refine Tr.t (by constructor <;> omega) ?_
      refine Tr.t (by constructor <;> omega) ?_
      refine Tr.t (hr _ _ (mem_getD hi) (mem_getD (by omega))) ?_
      rw [wrap64 (i := (i : Int) + 1) (by omega) (by omega)]
      rw [Tr.val_br]
      show (if (!(qa_E (A.getD i []) (C.getD i []))) = true then _ else _) = _
      cases qa_E (A.getD i []) (C.getD i []) <;> rfl
    · show (qa_4_step C A (A.length : Int) (A.length : Int)).val = _
      refine Tr.n (by simp) ?_
      rfl
  simp only [qa_4_fin, Told.val] at h
  cases hk : allEq qa_E A C with
  | true =>
    rw [if_pos (show qa_k4_1 C A m i = true from hk)] at h
    split at h
    · rename_i ho
      obtain ⟨hl, rfl, ht, rfl, hr⟩ := is_iff.1 ho
      cases h
      refine ⟨_, (key hl ht hr).trans ?_⟩
      rw [hk]; rfl
    · cases h
  | false =>
    rw [if_neg (show ¬qa_k4_1 C A m i = true from by rw [show qa_k4_1 C A m i = allEq qa_E A C from rfl, hk]; simp)] at h
    split at h
    · rename_i ho
      obtain ⟨hl, rfl, ht, rfl, hr⟩ := is_iff.1 ho
      cases h
      refine ⟨_, (key hl ht hr).trans ?_⟩
      rw [hk]; rfl
    · cases h
theorem qa_is4 : LoopIs tab FT D39 live 54 qa_lo 0 4 := by
  refine loop_told (sl := qa_4_sl) (step := qa_4_st) (out := qa_4_out) (lor := qa_lo4) (fin := fun x => (qa_4_fin (x.1) (x.2.1) (x.2.2.1) (x.2.2.2))) (fun _ => rfl) ?_ (fun x n => qa_4_r x.1 x.2.1 x.2.2.1 x.2.2.2 n) (fun x ow => qa_4_h x.1 x.2.1 x.2.2.1 x.2.2.2 ow)
  intro s t h
  unfold qa_lo4 at h
  split at h
  · cases h; exact ⟨(_, _, _, _), rfl, rfl⟩
  · cases h
def qa_t (A C : LL) : Tr (Bool) := (.ite ((!((A.length : Int) == (C.length : Int))) = true) (.ok false)
  (.ite ((qa_k4_1 C A (A.length : Int) (0 : Int)) = true) (.ite ((qa_o4_2 C A (A.length : Int) (0 : Int)) = true) (.ok true)
    .no)
   (.ite ((qa_o4_3 C A (A.length : Int) (0 : Int)) = true) (.ok false)
    .no)))
def qa_mk (p : Bool) : Res := [(false, [⟨.bool, .sh, TC.b p⟩])]
def qa_c (A C : LL) : Bool := is (Typed tab (.slice 62) (.l A) ∧ (∀ x y : List TC, x ∈ A → y ∈ C → qce_c ((nth x 0).list) ((nth y 0).list) = true))
def qa_v (A C : LL) : Bool := allEq qa_E A C
theorem qa_l (A C : LL) : (qa_c A C) = true → (qa_t A C).val = some (qa_v A C) := by
  intro h
  obtain ⟨ht, hr⟩ := is_iff.1 h
  unfold qa_t
  by_cases hl : A.length = C.length
  · refine Tr.n (by simp [hl]) ?_
    cases hk : allEq qa_E A C with
    | true =>
      refine Tr.t (show allEq qa_E A C = true from hk) ?_
      refine Tr.t (is_true ⟨hl, rfl, ht, rfl, hr⟩) ?_
      show _ = some (allEq qa_E A C); rw [hk]; rfl
    | false =>
      refine Tr.n (show ¬allEq qa_E A C = true from by rw [hk]; simp) ?_
      refine Tr.t (is_true ⟨hl, rfl, ht, rfl, hr⟩) ?_
      show _ = some (allEq qa_E A C); rw [hk]; rfl
  · refine Tr.t (by simp; omega) ?_
    show _ = some (allEq qa_E A C)
    rw [allEq_ne hl]; rfl
def qa_S : List Arg → Option (Bool × Res) := fun xs => match xs with
  | [(false, [(.slice 62, TC.l A)]), (false, [(.slice 62, TC.l C)]), (false, [(.func, TC.f 55 [])])] => some ((qa_c A C), qa_mk (qa_v A C))
  | _ => .none
theorem qa_e (A C : LL) : runF tab FT D39 live 54 qa_lo [(false, [(.slice 62, TC.l A)]), (false, [(.slice 62, TC.l C)]), (false, [(.func, TC.f 55 [])])] = (qa_t A C).run fun p => some (qa_mk p) := by kernel_rfl
theorem qa_s : ∀ xs r, qa_S xs = some (true, r) → runF tab FT D39 live 54 qa_lo xs = some r := by
  intro xs r h
  unfold qa_S at h
  split at h
  · obtain ⟨h1, rfl⟩ := sp h
    exact fun_told (qa_e ..) (qa_l _ _) h1
  · cases h
def D40 : Dt := also D39 54 qa_S
theorem d40 : DOk Go.Proofs.Tryd.prog tab D40 := d39.also mixed_ok tab_ok names_ok (fnLoops_one (by kernel_rfl) qa_is4) qa_s
def qbr_t (sk : Int) (A B C Q P : LL) (sk2 : Int) (A2 B2 C2 Q2 P2 : LL) : Tr (Bool) := (.ite ((sk == sk2) = true) (.ite ((qe_c [[TC.l A], [TC.l B], [TC.l C], [TC.l Q]] [[TC.l A2], [TC.l B2], [TC.l C2], [TC.l Q2]]) = true) (.ite ((qe_v [[TC.l A], [TC.l B], [TC.l C], [TC.l Q]] [[TC.l A2], [TC.l B2], [TC.l C2], [TC.l Q2]]) = true) (.ite ((qa_c P P2) = true) (.ok (qa_v P P2))
     .no)
    (.ok false))
   .no)
  (.ok false))
def qbr_mk (p : Bool) : Res := [(false, [⟨.bool, .sh, TC.b p⟩])]
def qbr_c (sk : Int) (A B C Q P : LL) (sk2 : Int) (A2 B2 C2 Q2 P2 : LL) : Bool := (bif (sk == sk2) then ((qe_c [[TC.l A], [TC.l B], [TC.l C], [TC.l Q]] [[TC.l A2], [TC.l B2], [TC.l C2], [TC.l Q2]]) && (bif (qe_v [[TC.l A], [TC.l B], [TC.l C], [TC.l Q]] [[TC.l A2], [TC.l B2], [TC.l C2], [TC.l Q2]]) then ((qa_c P P2) && true) else true)) else true)
def qbr_v (sk : Int) (A B C Q P : LL) (sk2 : Int) (A2 B2 C2 Q2 P2 : LL) : Bool := (bif (sk == sk2) then (bif (qe_v [[TC.l A], [TC.l B], [TC.l C], [TC.l Q]] [[TC.l A2], [TC.l B2], [TC.l C2], [TC.l Q2]]) then (qa_v P P2) else false) else false)
theorem qbr_l (sk : Int) (A B C Q P : LL) (sk2 : Int) (A2 B2 C2 Q2 P2 : LL) : (qbr_c sk A B C Q P sk2 A2 B2 C2 Q2 P2) = true → (qbr_t sk A B C Q P sk2 A2 B2 C2 Q2 P2).val = some (qbr_v sk A B C Q P sk2 A2 B2 C2 Q2 P2) := by
  unfold qbr_t qbr_v qbr_c
  exact fun h => (Tr.ss h (fun h => (Tr.gb h fun h => (Tr.ss h (fun h => (Tr.gb h fun h => rfl)) (fun h => rfl)))) (fun h => rfl))
def qbr_S : List Arg → Option (Bool × Res) := fun xs => match xs with
  | [(true, [(.int .i64, TC.i sk), (.slice 2, TC.l A), (.slice 2, TC.l B), (.slice 2, TC.l C), (.slice 2, TC.l Q), (.slice 62, TC.l P)]), (true, [(.int .i64, TC.i sk2), (.slice 2, TC.l A2), (.slice 2, TC.l B2), (.slice 2, TC.l C2), (.slice 2, TC.l Q2), (.slice 62, TC.l P2)])] => some ((qbr_c sk A B C Q P sk2 A2 B2 C2 Q2 P2), qbr_mk (qbr_v sk A B C Q P sk2 A2 B2 C2 Q2 P2))
  | _ => .none
theorem qbr_e (sk : Int) (A B C Q P : LL) (sk2 : Int) (A2 B2 C2 Q2 P2 : LL) : runF tab FT D40 live 37 noLoops [(true, [(.int .i64, TC.i sk), (.slice 2, TC.l A), (.slice 2, TC.l B), (.slice 2, TC.l C), (.slice 2, TC.l Q), (.slice 62, TC.l P)]), (true, [(.int .i64, TC.i sk2), (.slice 2, TC.l A2), (.slice 2, TC.l B2), (.slice 2, TC.l C2), (.slice 2, TC.l Q2), (.slice 62, TC.l P2)])] = (qbr_t sk A B C Q P sk2 A2 B2 C2 Q2 P2).run fun p => some (qbr_mk p) := by kernel_rfl
theorem qbr_s : ∀ xs r, qbr_S xs = some (true, r) → runF tab FT D40 live 37 noLoops xs = some r := by
  intro xs r h
  unfold qbr_S at h
  split at h
  · obtain ⟨h1, rfl⟩ := sp h
    exact fun_told (qbr_e ..) (qbr_l _ _ _ _ _ _ _ _ _ _ _ _) h1
  · cases h
def D41 : Dt := also D40 37 qbr_S
theorem d41 : DOk Go.Proofs.Tryd.prog tab D41 := d40.also mixed_ok tab_ok names_ok noLoops_ok qbr_s
theorem form_2 {A : LL} (h : Typed tab (.slice 2) (.l A)) {x : List TC} (hx : x ∈ A) : x = [TC.i (nth x 0).int] := by
  obtain ⟨hl, hk⟩ := typed_elem h hx
  have e0 : TC.i (nth x 0).int = nth x 0 := typed_int_eq (hk 0 (by decide))
  rw [e0]
  exact row_eta hl
theorem form_62 {A : LL} (h : Typed tab (.slice 62) (.l A)) {x : List TC} (hx : x ∈ A) : x = [TC.l (nth x 0).list] := by
  obtain ⟨hl, hk⟩ := typed_elem h hx
  have e0 : TC.l (nth x 0).list = nth x 0 := typed_list_eq (hk 0 (by decide))
  rw [e0]
  exact row_eta hl
theorem l00_eqL {A C : LL} (a : Typed tab (.slice 2) (.l A)) (c : Typed tab (.slice 2) (.l C)) : allEq E_2 A C = eqL A C := allEq_eqL (E := E_2) (fun x y hx hy => by
    constructor
    · intro h
      have hh : (nth x 0).int = (nth y 0).int := by
        simpa [E_2] using h
      have e0 := hh
      have hx' := form_2 a hx
      have hy' := form_2 c hy
      rw [hx', hy', e0]
    · rintro rfl
      simp [E_2])
theorem pts_eqL {E : List TC → List TC → Bool} {A C : LL} (hE : ∀ x y, E x y = allEq E_2 (nth x 0).list (nth y 0).list) (a : Typed tab (.slice 62) (.l A)) (c : Typed tab (.slice 62) (.l C)) : allEq E A C = eqL A C := allEq_eqL (fun x y hx hy => by
    rw [hE, l00_eqL (typed_list ((typed_elem a hx).2 0 (by decide))) (typed_list ((typed_elem c hy).2 0 (by decide))), eqL_iff]
    constructor
    · intro h
      have hx' := form_62 a hx
      have hy' := form_62 c hy
      rw [hx', hy', h]
    · rintro rfl; rfl)

theorem sel_lists {A B C Q : LL} (tA : Typed tab (.slice 2) (.l A)) (tB : Typed tab (.slice 2) (.l B)) (tC : Typed tab (.slice 2) (.l C)) (tQ : Typed tab (.slice 2) (.l Q)) : Typed tab (.slice 22) (.l [[TC.l A], [TC.l B], [TC.l C], [TC.l Q]]) := by
  refine .slice _ _ (by show 4 * 24 ≤ 140737488351232; omega) (by show 4 ≤ maxLen; unfold maxLen; omega) (fun x hx => ?_) (fun x hx k hk => ?_)
  · simp only [List.mem_cons, List.not_mem_nil, or_false] at hx
    rcases hx with rfl | rfl | rfl | rfl <;> rfl
  · have hk : k = 0 := by have : k < 1 := hk; omega
    subst hk
    simp only [List.mem_cons, List.not_mem_nil, or_false] at hx
    rcases hx with rfl | rfl | rfl | rfl <;> assumption
theorem qbr_cc {sk sk2 : Int} {A B C Q P A2 B2 C2 Q2 P2 : LL} (tA : Typed tab (.slice 2) (.l A)) (tB : Typed tab (.slice 2) (.l B)) (tC : Typed tab (.slice 2) (.l C)) (tQ : Typed tab (.slice 2) (.l Q)) (tP : Typed tab (.slice 62) (.l P)) : qbr_c sk A B C Q P sk2 A2 B2 C2 Q2 P2 = true := by
  have e1 : qe_c [[TC.l A], [TC.l B], [TC.l C], [TC.l Q]] [[TC.l A2], [TC.l B2], [TC.l C2], [TC.l Q2]] = true := is_true ⟨sel_lists tA tB tC tQ, fun x y hx hy => by
    simp only [List.mem_cons, List.not_mem_nil, or_false] at hx
    rcases hx with rfl | rfl | rfl | rfl <;> exact is_true (by assumption)⟩
  have e2 : qa_c P P2 = true := is_true ⟨tP, fun x y hx hy => is_true (typed_list ((typed_elem tP hx).2 0 (by decide)))⟩
  unfold qbr_c
  first | (simp only [e1, e2, Bool.true_and, Bool.and_true, bif_same]; done) | (simp [e1, e2, is_iff, bif_same])
theorem qbr_q {sk sk2 : Int} {A B C Q P A2 B2 C2 Q2 P2 : LL} (tA : Typed tab (.slice 2) (.l A)) (tB : Typed tab (.slice 2) (.l B)) (tC : Typed tab (.slice 2) (.l C)) (tQ : Typed tab (.slice 2) (.l Q)) (tP : Typed tab (.slice 62) (.l P)) (tA2 : Typed tab (.slice 2) (.l A2)) (tB2 : Typed tab (.slice 2) (.l B2)) (tC2 : Typed tab (.slice 2) (.l C2)) (tQ2 : Typed tab (.slice 2) (.l Q2)) (tP2 : Typed tab (.slice 62) (.l P2)) : qbr_v sk A B C Q P sk2 A2 B2 C2 Q2 P2 = selV sk A B C Q P sk2 A2 B2 C2 Q2 P2 := by
  unfold qbr_v selV
  rw [show qe_v [[TC.l A], [TC.l B], [TC.l C], [TC.l Q]] [[TC.l A2], [TC.l B2], [TC.l C2], [TC.l Q2]] = (allEq E_2 A A2 && (allEq E_2 B B2 && (allEq E_2 C C2 && (allEq E_2 Q Q2 && true)))) from rfl, l00_eqL tA tA2, l00_eqL tB tB2, l00_eqL tC tC2, l00_eqL tQ tQ2, show qa_v P P2 = eqL P P2 from pts_eqL (E := qa_E) (fun _ _ => rfl) tP tP2]
  simp only [bif_ft, Bool.and_true, Bool.and_assoc]
def qcf_t (a0 a1 a2 : Int) : Tr (Bool) := (.ite ((decide (a0 ≥ a1)) = true) (.ok (decide (a0 ≤ a2)))
  (.ok false))
def qcf_mk (p : Bool) : Res := [(false, [⟨.bool, .sh, TC.b p⟩])]
def qcf_c (a0 a1 a2 : Int) : Bool := true
def qcf_v (a0 a1 a2 : Int) : Bool := (bif (decide (a0 ≥ a1)) then (decide (a0 ≤ a2)) else false)
theorem qcf_l (a0 a1 a2 : Int) : (qcf_c a0 a1 a2) = true → (qcf_t a0 a1 a2).val = some (qcf_v a0 a1 a2) := by
  intro h
  skip
  unfold qcf_t qcf_v
  exact (Tr.s rfl rfl)
def qcf_S : List Arg → Option (Bool × Res) := fun xs => match xs with
  | [(false, [(.int .i64, TC.i a0)]), (false, [(.int .i64, TC.i a1)]), (false, [(.int .i64, TC.i a2)])] => some (true, qcf_mk (qcf_v a0 a1 a2))
  | _ => .none
theorem qcf_e (a0 a1 a2 : Int) : runF tab FT D41 live 56 noLoops [(false, [(.int .i64, TC.i a0)]), (false, [(.int .i64, TC.i a1)]), (false, [(.int .i64, TC.i a2)])] = (qcf_t a0 a1 a2).run fun p => some (qcf_mk p) := by kernel_rfl
theorem qcf_s : ∀ xs r, qcf_S xs = some (true, r) → runF tab FT D41 live 56 noLoops xs = some r := by
  intro xs r h
  unfold qcf_S at h
  split at h
  · obtain ⟨h1, rfl⟩ := sp h
    exact fun_told (qcf_e ..) (qcf_l _ _ _) rfl
  · cases h
def D42 : Dt := also D41 56 qcf_S
theorem d42 : DOk Go.Proofs.Tryd.prog tab D42 := d41.also mixed_ok tab_ok names_ok noLoops_ok qcf_s
def qby_t (a0 : Int) (a1 a2 a3 a4 a5 : LL) (a6 : Int) : Tr (Int) := (.ite ((0 : Int) ≤ a6 ∧ a6 < (a1.length : Int)) (.ite ((0 : Int) ≤ a6 ∧ a6 < (a3.length : Int)) (.ite ((0 : Int) ≤ a6 ∧ a6 < (a2.length : Int)) (.ite ((0 : Int) ≤ a6 ∧ a6 < (a4.length : Int)) (.ok (IntKind.wrap .i64 ((IntKind.wrap .i64 ((nth (row a1 a6) 0).int + (IntKind.wrap .i64 ((IntKind.wrap .i64 ((nth (row a3 a6) 0).int - (1 : Int))) * (nth (row a2 a6) 0).int)))) + (nth (row a4 a6) 0).int)))
     .no)
    .no)
   .no)
  .no)
def qby_mk (p : Int) : Res := [(false, [⟨.int .i64, .sh, TC.i p⟩])]
def qby_c (a0 : Int) (a1 a2 a3 a4 a5 : LL) (a6 : Int) : Bool := is (((0 : Int) ≤ a6 ∧ a6 < (a1.length : Int)) ∧ ((0 : Int) ≤ a6 ∧ a6 < (a3.length : Int)) ∧ ((0 : Int) ≤ a6 ∧ a6 < (a2.length : Int)) ∧ ((0 : Int) ≤ a6 ∧ a6 < (a4.length : Int)))
def qby_v (a0 : Int) (a1 a2 a3 a4 a5 : LL) (a6 : Int) : Int := (IntKind.wrap .i64 ((IntKind.wrap .i64 ((nth (row a1 a6) 0).int + (IntKind.wrap .i64 ((IntKind.wrap .i64 ((nth (row a3 a6) 0).int - (1 : Int))) * (nth (row a2 a6) 0).int)))) + (nth (row a4 a6) 0).int))
theorem qby_l (a0 : Int) (a1 a2 a3 a4 a5 : LL) (a6 : Int) : (qby_c a0 a1 a2 a3 a4 a5 a6) = true → (qby_t a0 a1 a2 a3 a4 a5 a6).val = some (qby_v a0 a1 a2 a3 a4 a5 a6) := by
  intro h
  obtain ⟨hc0, hc1, hc2, hc3⟩ := is_iff.1 h
  unfold qby_t
  exact (Tr.t hc0 (Tr.t hc1 (Tr.t hc2 (Tr.t hc3 rfl))))
def qby_S : List Arg → Option (Bool × Res) := fun xs => match xs with
  | [(true, [(.int .i64, TC.i a0), (.slice 2, TC.l a1), (.slice 2, TC.l a2), (.slice 2, TC.l a3), (.slice 2, TC.l a4), (.slice 62, TC.l a5)]), (false, [(.int .i64, TC.i a6)])] => some ((qby_c a0 a1 a2 a3 a4 a5 a6), qby_mk (qby_v a0 a1 a2 a3 a4 a5 a6))
  | _ => .none
theorem qby_e (a0 : Int) (a1 a2 a3 a4 a5 : LL) (a6 : Int) : runF tab FT D42 live 57 noLoops [(true, [(.int .i64, TC.i a0), (.slice 2, TC.l a1), (.slice 2, TC.l a2), (.slice 2, TC.l a3), (.slice 2, TC.l a4), (.slice 62, TC.l a5)]), (false, [(.int .i64, TC.i a6)])] = (qby_t a0 a1 a2 a3 a4 a5 a6).run fun p => some (qby_mk p) := by kernel_rfl
theorem qby_s : ∀ xs r, qby_S xs = some (true, r) → runF tab FT D42 live 57 noLoops xs = some r := by
  intro xs r h
  unfold qby_S at h
  split at h
  · obtain ⟨h1, rfl⟩ := sp h
    exact fun_told (qby_e ..) (qby_l _ _ _ _ _ _ _) h1
  · cases h
def D43 : Dt := also D42 57 qby_S
theorem d43 : DOk Go.Proofs.Tryd.prog tab D43 := d42.also mixed_ok tab_ok names_ok noLoops_ok qby_s
def qb_f5 (k : Int) (A S C B P : LL) (m i : Int) : (Unit) ⊕ ((Unit) ⊕ (Unit)) := (bif (!(qcf_v ((nth (row A i) 0).int) (0 : Int) (40 : Int))) then (.inr (.inl ())) else (bif (!(qcf_v ((nth (row C i) 0).int) (1 : Int) (40 : Int))) then (.inr (.inl ())) else (bif (!(qcf_v ((nth (row B i) 0).int) (1 : Int) (40 : Int))) then (.inr (.inl ())) else (bif (!(qcf_v ((nth (row S i) 0).int) ((nth (row B i) 0).int) (40 : Int))) then (.inr (.inl ())) else (bif (decide ((qby_v k A S C B P i) > (40 : Int))) then (.inr (.inl ())) else (.inl ()))))))
def qb_e5 (k : Int) (A S C B P : LL) (m : Int) : (Unit) ⊕ (Unit) := .inr ()
def qb_R5 (k : Int) (A S C B P : LL) (m i : Int) : (Unit) ⊕ (Unit) := iter (fun i a => (qb_f5 k A S C B P m (i : Int))) (fun a => (qb_e5 k A S C B P m)) (A.length) 0 ()
abbrev qb_5_σ := Int × LL × LL × LL × LL × LL × Int × Int
abbrev qb_5_ω := (Unit) ⊕ (Unit)
def qb_5_step (k : Int) (A S C B P : LL) (m i : Int) : Tr (qb_5_σ ⊕ qb_5_ω) := (.ite ((decide (i < m)) = true) (.ite ((0 : Int) ≤ i ∧ i < (A.length : Int)) (.ite ((!(qcf_v ((nth (row A i) 0).int) (0 : Int) (40 : Int))) = true) (.ok (.inr (.inl ())))
    (.ite ((0 : Int) ≤ i ∧ i < (C.length : Int)) (.ite ((!(qcf_v ((nth (row C i) 0).int) (1 : Int) (40 : Int))) = true) (.ok (.inr (.inl ())))
      (.ite ((0 : Int) ≤ i ∧ i < (B.length : Int)) (.ite ((!(qcf_v ((nth (row B i) 0).int) (1 : Int) (40 : Int))) = true) (.ok (.inr (.inl ())))
        (.ite ((0 : Int) ≤ i ∧ i < (S.length : Int)) (.ite ((0 : Int) ≤ i ∧ i < (B.length : Int)) (.ite ((!(qcf_v ((nth (row S i) 0).int) ((nth (row B i) 0).int) (40 : Int))) = true) (.ok (.inr (.inl ())))
           (.ite ((qby_c k A S C B P i) = true) (.ite ((decide ((qby_v k A S C B P i) > (40 : Int))) = true) (.ok (.inr (.inl ())))
             (.ok (.inl (k, A, S, C, B, P, m, (IntKind.wrap .i64 (i + (1 : Int)))))))
            .no))
          .no)
         .no))
       .no))
     .no))
   .no)
  (.ok (.inr (.inr ()))))
def qb_5_st : qb_5_σ → Tr (qb_5_σ ⊕ qb_5_ω) := fun x => (qb_5_step (x.1) (x.2.1) (x.2.2.1) (x.2.2.2.1) (x.2.2.2.2.1) (x.2.2.2.2.2.1) (x.2.2.2.2.2.2.1) (x.2.2.2.2.2.2.2))
def qb_k5_1 (k : Int) (A S C B P : LL) (m i : Int) : Bool := sumIs (qb_R5 k A S C B P m i)
def qb_o5_2 (k : Int) (A S C B P : LL) (m i : Int) : Bool := is (i = 0 ∧ Typed tab (.slice 2) (.l A) ∧ m = (A.length : Int) ∧ S.length = A.length ∧ C.length = A.length ∧ B.length = A.length)
def qb_o5_3 (k : Int) (A S C B P : LL) (m i : Int) : Bool := (qb_o5_2 k A S C B P m i)
def qb_5_fin (k : Int) (A S C B P : LL) (m i : Int) : Told qb_5_ω := (.br (qb_k5_1 k A S C B P m i) (.leaf (qb_o5_2 k A S C B P m i) (.inl ())) (.leaf (qb_o5_3 k A S C B P m i) (.inr ())))
def qb_5_sl (x : qb_5_σ) : List Slot := [⟨.bx 32 [⟨.int .i64, .sh, TC.i (x.1)⟩, ⟨.slice 2, .sh, TC.l (x.2.1)⟩, ⟨.slice 2, .sh, TC.l (x.2.2.1)⟩, ⟨.slice 2, .sh, TC.l (x.2.2.2.1)⟩, ⟨.slice 2, .sh, TC.l (x.2.2.2.2.1)⟩, ⟨.slice 62, .sh, TC.l (x.2.2.2.2.2.1)⟩], ⟨0, 0⟩⟩, ⟨.val false [⟨.int .i64, .sh, TC.i (x.2.2.2.2.2.2.1)⟩], ⟨0, 0⟩⟩, ⟨.val false [⟨.int .i64, .sh, TC.i (x.2.2.2.2.2.2.2)⟩], ⟨0, 0⟩⟩]
def qb_5_out : qb_5_ω → Ex × List Slot := (Sum.elim (fun x => (.ret, [⟨.val false [⟨.bool, .sh, TC.b false⟩], ⟨0, 0⟩⟩])) (fun x => (.exit 0, [Slot.none])))
def qb_lo5 : List Slot → Option (Told (Ex × List Slot)) := fun s => match s with
  | [⟨.bx 32 [⟨.int .i64, .sh, TC.i k⟩, ⟨.slice 2, .sh, TC.l A⟩, ⟨.slice 2, .sh, TC.l S⟩, ⟨.slice 2, .sh, TC.l C⟩, ⟨.slice 2, .sh, TC.l B⟩, ⟨.slice 62, .sh, TC.l P⟩], ⟨0, 0⟩⟩, ⟨.val false [⟨.int .i64, .sh, TC.i m⟩], ⟨0, 0⟩⟩, ⟨.val false [⟨.int .i64, .sh, TC.i i⟩], ⟨0, 0⟩⟩] => some (((qb_5_fin k A S C B P m i)).map qb_5_out)
  | _ => .none
def qb_lo : LoopTeller := fun r s => bif Nat.beq r 5 then qb_lo5 s else .none
end
end Go.Proofs.YtjhbfeeaehaniaaDoor.V
