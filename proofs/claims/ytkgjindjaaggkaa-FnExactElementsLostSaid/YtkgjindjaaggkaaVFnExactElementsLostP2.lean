/- What the functions of FnExactElementsLost answer. No condition. -/
import Derived.Test.YtkgjindjaaggkaaVFnExactElementsLostP1
namespace Go.Proofs.Ytkgjindjaaggkaa.V
open Go
set_option maxRecDepth 100000
set_option linter.unusedVariables false
set_option linter.unusedSectionVars false
set_option linter.unusedSimpArgs false
set_option maxHeartbeats 2000000
noncomputable section
theorem qa_s : ∀ xs r, qa_S xs = some (true, r) → runF tab FT D16 live 21 qa_lo xs = some r := by
  intro xs r h
  unfold qa_S at h
  split at h
  · obtain ⟨h1, rfl⟩ := sp h
    exact fun_told (qa_e ..) (qa_l _ _ _ _) h1
  · cases h
def D17 : Dt := also D16 21 qa_S
theorem d17 : DOk Go.Proofs.Try.prog tab D17 := d16.also mixed_ok tab_ok names_ok (fnLoops_two (by kernel_rfl) qa_is6 qa_is10) qa_s
theorem qa_go {D F C : LL} {q : Int} (hC : Typed tab (.slice 2) (.l C)) (h1 : qbe_v D F C = true) (h2 : qq_v D C q = true) : qa_o6_1 D F C [] (qj_v D C q).1 (qj_v D C q).2 0 = true := by
  obtain ⟨hk, hF⟩ := two_ok h1
  rw [qq_vv, Bool.and_eq_true] at h2
  rw [qj_vv]
  have k := chunkOk_ck hk
  have hp := place_digits hk h2.2
  have hr : pl16 D q = rowsF (crdD (List.replicate D.length [TC.i (16 : Int)]).length (dimD (List.replicate D.length [TC.i (16 : Int)])) q) D.length := by
    unfold pl16
    rw [coords_rows]
    exact congrArg (rowsF _) (by simp)
  have hp2 : ∀ j, j < D.length → 0 ≤ crdD (List.replicate D.length [TC.i (16 : Int)]).length (dimD (List.replicate D.length [TC.i (16 : Int)])) q j ∧ crdD (List.replicate D.length [TC.i (16 : Int)]).length (dimD (List.replicate D.length [TC.i (16 : Int)])) q j < 16 := fun j hj => by
    obtain ⟨a, ea, h⟩ := hp [TC.i (crdD (List.replicate D.length [TC.i (16 : Int)]).length (dimD (List.replicate D.length [TC.i (16 : Int)])) q j)] (by
      show _ ∈ pl16 D q
      rw [hr]
      exact List.mem_map.2 ⟨j, List.mem_range.2 hj, rfl⟩)
    injection ea with ea _
    injection ea with ea
    rw [ea]; exact h
  have hlow := boxP_low k hr hp2
  refine is_true ⟨rfl, rfl, hC, hk, hF, ?_, fun j hj => ?_⟩
  · show (rowsF (loC C (pl16 D q)) (pl16 D q).length).length = _
    rw [rowsF_len, hr, rowsF_len]
  · show 0 ≤ dimD (boxP D C (pl16 D q)).1 j ∧ dimD (boxP D C (pl16 D q)).1 j ≤ 1000
    rw [hlow j hj]
    obtain ⟨a, b⟩ := hp2 j hj
    obtain ⟨c, d⟩ := k.cc j (by have := k.len; omega)
    refine ⟨Int.mul_nonneg a (by omega), Int.le_trans (Int.mul_le_mul (Int.le_of_lt b) d (by omega) (by omega)) (by decide)⟩
theorem qa_cc {D : LL} {F : LL} {C : LL} {q : Int} (hD : Typed tab (.slice 2) (.l D)) (hF : Typed tab (.slice 2) (.l F)) (hC : Typed tab (.slice 2) (.l C)) : (qa_c D F C q) = true := by
  unfold qa_c
  refine andT (by exact is_true ⟨qf_cc hD hC, qf_cc hF hC⟩) ?_
  refine bifT (fun b1 => ?_) (fun b1 => ?_)
  · skip
    rfl
  · skip
    refine andT (by exact qq_cc hD hC) ?_
    refine bifT (fun b2 => ?_) (fun b2 => ?_)
    · skip
      rfl
    · skip
      refine andT (by have h2 := two_ok (notF b1); have k := chunkOk_ck h2.1; exact qj_cc k.r3 k.len) ?_
      refine andT (by exact qa_go hC (notF b1) (notF b2)) ?_
      rfl
theorem qa_vv (D F C : LL) (q : Int) : qa_v D F C q = elV D F C q := by
  unfold qa_v elV
  have h2 : qbe_v D F C = (chunkOk D C && chunkOk F C) := by
    unfold qbe_v
    rw [qf_vv, qf_vv]
    cases chunkOk D C <;> rfl
  rw [h2, qq_vv, qj_vv]
  cases chunkOk D C with
  | false => rfl
  | true =>
    cases chunkOk F C with
    | false => rfl
    | true => cases hasK (keysG D C) q <;> rfl
def qbh_t (a0 a1 a2 : Int) : Tr (Bool) := (.ite ((decide (a0 ≥ a1)) = true) (.ok (decide (a0 ≤ a2)))
  (.ok false))
def qbh_mk (p : Bool) : Res := [(false, [⟨.bool, .sh, TC.b p⟩])]
def qbh_c (a0 a1 a2 : Int) : Bool := true
def qbh_v (a0 a1 a2 : Int) : Bool := (bif (decide (a0 ≥ a1)) then (decide (a0 ≤ a2)) else false)
theorem qbh_l (a0 a1 a2 : Int) : (qbh_c a0 a1 a2) = true → (qbh_t a0 a1 a2).val = some (qbh_v a0 a1 a2) := by
  intro h
  skip
  unfold qbh_t qbh_v
  exact (Tr.s rfl rfl)
def qbh_S : List Arg → Option (Bool × Res) := fun xs => match xs with
  | [(false, [(.int .i64, TC.i a0)]), (false, [(.int .i64, TC.i a1)]), (false, [(.int .i64, TC.i a2)])] => some (true, qbh_mk (qbh_v a0 a1 a2))
  | _ => .none
theorem qbh_e (a0 a1 a2 : Int) : runF tab FT D17 live 115 noLoops [(false, [(.int .i64, TC.i a0)]), (false, [(.int .i64, TC.i a1)]), (false, [(.int .i64, TC.i a2)])] = (qbh_t a0 a1 a2).run fun p => some (qbh_mk p) := by kernel_rfl
theorem qbh_s : ∀ xs r, qbh_S xs = some (true, r) → runF tab FT D17 live 115 noLoops xs = some r := by
  intro xs r h
  unfold qbh_S at h
  split at h
  · obtain ⟨h1, rfl⟩ := sp h
    exact fun_told (qbh_e ..) (qbh_l _ _ _) rfl
  · cases h
def D18 : Dt := also D17 115 qbh_S
theorem d18 : DOk Go.Proofs.Try.prog tab D18 := d17.also mixed_ok tab_ok names_ok noLoops_ok qbh_s
def qbf_t (a0 : Int) (a1 a2 : List TC) : Tr (Bool) := .ok (!(qbh_v a0 ((nth a1 0).int) ((nth a2 0).int)))
def qbf_mk (p : Bool) : Res := [(false, [⟨.bool, .sh, TC.b p⟩])]
def qbf_c (a0 : Int) (a1 a2 : List TC) : Bool := true
def qbf_v (a0 : Int) (a1 a2 : List TC) : Bool := (!(qbh_v a0 ((nth a1 0).int) ((nth a2 0).int)))
theorem qbf_l (a0 : Int) (a1 a2 : List TC) : (qbf_c a0 a1 a2) = true → (qbf_t a0 a1 a2).val = some (qbf_v a0 a1 a2) := by
  intro h
  skip
  unfold qbf_t qbf_v
  exact rfl
def qbf_S : List Arg → Option (Bool × Res) := fun xs => match xs with
  | [(false, [(.int .i64, TC.i a0)]), (false, [(.ptr 2, TC.p a1)]), (false, [(.ptr 2, TC.p a2)])] => some (true, qbf_mk (qbf_v a0 a1 a2))
  | _ => .none
theorem qbf_e (a0 : Int) (a1 a2 : List TC) : runF tab FT D18 live 114 noLoops [(false, [(.int .i64, TC.i a0)]), (false, [(.ptr 2, TC.p a1)]), (false, [(.ptr 2, TC.p a2)])] = (qbf_t a0 a1 a2).run fun p => some (qbf_mk p) := by kernel_rfl
theorem qbf_s : ∀ xs r, qbf_S xs = some (true, r) → runF tab FT D18 live 114 noLoops xs = some r := by
  intro xs r h
  unfold qbf_S at h
  split at h
  · obtain ⟨h1, rfl⟩ := sp h
    exact fun_told (qbf_e ..) (qbf_l _ _ _) rfl
  · cases h
def D19 : Dt := also D18 114 qbf_S
theorem d19 : DOk Go.Proofs.Try.prog tab D19 := d18.also mixed_ok tab_ok names_ok noLoops_ok qbf_s
abbrev qo_2_σ := LL × List TC × List TC × Int × Int
abbrev qo_2_ω := (Int) ⊕ (Unit)
def qo_2_step (A : LL) (lw hg : List TC) (m i : Int) : Tr (qo_2_σ ⊕ qo_2_ω) := (.ite ((decide (i < m)) = true) (.ite ((0 : Int) ≤ i ∧ i < (A.length : Int)) (.ite ((!(qbh_v ((nth (row A i) 0).int) ((nth lw 0).int) ((nth hg 0).int))) = true) (.ok (.inr (.inl i)))
    (.ok (.inl (A, lw, hg, m, (IntKind.wrap .i64 (i + (1 : Int)))))))
   .no)
  (.ok (.inr (.inr ()))))
def qo_2_st : qo_2_σ → Tr (qo_2_σ ⊕ qo_2_ω) := fun x => (qo_2_step (x.1) (x.2.1) (x.2.2.1) (x.2.2.2.1) (x.2.2.2.2))
def qo_k2_1 (A : LL) (lw hg : List TC) (m i : Int) : Bool := A.all (inR (nth lw 0).int (nth hg 0).int)
def qo_o2_2 (A : LL) (lw hg : List TC) (m i : Int) : Bool := is (i = 0 ∧ Typed tab (.slice 2) (.l A) ∧ m = (A.length : Int))
def qo_o2_3 (A : LL) (lw hg : List TC) (m i : Int) : Bool := is (i = 0 ∧ Typed tab (.slice 2) (.l A) ∧ m = (A.length : Int))
def qo_u2_3 (A : LL) (lw hg : List TC) (m i : Int) : Int := (Int.ofNat (A.findIdx fun x => !(inR (nth lw 0).int (nth hg 0).int) x))
def qo_2_fin (A : LL) (lw hg : List TC) (m i : Int) : Told qo_2_ω := (.br (qo_k2_1 A lw hg m i) (.leaf (qo_o2_2 A lw hg m i) (.inr ())) (.leaf (qo_o2_3 A lw hg m i) (.inl (qo_u2_3 A lw hg m i))))
def qo_2_sl (x : qo_2_σ) : List Slot := [⟨.val false [⟨.slice 2, .sh, TC.l (x.1)⟩], ⟨0, 0⟩⟩, ⟨.val false [⟨.func, .sh, TC.f 114 [(2, x.2.1), (2, x.2.2.1)]⟩], ⟨0, 0⟩⟩, ⟨.val false [⟨.int .i64, .sh, TC.i (x.2.2.2.1)⟩], ⟨0, 0⟩⟩, ⟨.val false [⟨.int .i64, .sh, TC.i (x.2.2.2.2)⟩], ⟨0, 0⟩⟩]
def qo_2_out : qo_2_ω → Ex × List Slot := (Sum.elim (fun x => (.ret, [⟨.val false [⟨.int .i64, .sh, TC.i x⟩], ⟨0, 0⟩⟩])) (fun x => (.exit 0, [Slot.none])))
def qo_lo2 : List Slot → Option (Told (Ex × List Slot)) := fun s => match s with
  | [⟨.val false [⟨.slice 2, .sh, TC.l A⟩], ⟨0, 0⟩⟩, ⟨.val false [⟨.func, .sh, TC.f 114 [(2, lw), (2, hg)]⟩], ⟨0, 0⟩⟩, ⟨.val false [⟨.int .i64, .sh, TC.i m⟩], ⟨0, 0⟩⟩, ⟨.val false [⟨.int .i64, .sh, TC.i i⟩], ⟨0, 0⟩⟩] => some (((qo_2_fin A lw hg m i)).map qo_2_out)
  | _ => .none
def qo_lo : LoopTeller := fun r s => bif Nat.beq r 2 then qo_lo2 s else .none
theorem qo_2_r (A : LL) (lw hg : List TC) (m i : Int) (fuel : Nat) : rounds (rnd tab FT D19 live 146 qo_lo 0 2) leave (fuel + 1) (qo_2_sl (A, lw, hg, m, i)) = ((qo_2_step A lw hg m i)).run (goOn (fun s => rounds (rnd tab FT D19 live 146 qo_lo 0 2) leave fuel (qo_2_sl s)) fun w => some (qo_2_out w)) := by kernel_rfl
theorem qo_2_h (A : LL) (lw hg : List TC) (m i : Int) (ow : qo_2_ω) : ((qo_2_fin A lw hg m i)).val = some ow → ∃ fuel, loopN qo_2_st fuel (A, lw, hg, m, i) = some ow := by
  intro h
  have key : Typed tab (.slice 2) (.l A) → loopN qo_2_st (A.length + 1) (A, lw, hg, (A.length : Int), (0 : Int)) = some (if A.all (inR (nth lw 0).int (nth hg 0).int) = true then (.inr ()) else (.inl (Int.ofNat (A.findIdx fun x => !(inR (nth lw 0).int (nth hg 0).int) x)))) := by
    intro ht
    have hlen : A.length ≤ 140737488351232 := by have := typed_room ht; simp only [show (tab 2).bytes = 8 from rfl] at this; omega
    have key := loopN_scan (step := qo_2_st) A [] (inR (nth lw 0).int (nth hg 0).int) (fun a _ => a) (fun i a => (A, lw, hg, (A.length : Int), (i : Int))) (fun a => (.inr ())) (fun i a => (.inl (i : Int))) (fun i a hi => ?_) (fun a => ?_) A.length 0 () (by omega)
    · first | (rw [Nat.zero_add] at key; exact key) | exact key
    · skip
      show (qo_2_step A lw hg (A.length : Int) (i : Int)).val = _
      unfold qo_2_step
      refine Tr.t (by simp; omega) ?_
      skip
      refine Tr.t (by first | omega | (constructor <;> omega)) ?_
      refine Tr.b (P := (inR (nth lw 0).int (nth hg 0).int) (A.getD i [])) (fun hP => ?_) (fun _ => rfl)
      rw [Tr.val_ok, wrap64 (i := (i : Int) + 1) (by omega) (by omega)]; rfl
    · show (qo_2_step A lw hg (A.length : Int) (A.length : Int)).val = _
      refine Tr.n (by simp) ?_
      rfl
  simp only [qo_2_fin, Told.val] at h
  cases hk : A.all (inR (nth lw 0).int (nth hg 0).int) with
  | true =>
    rw [if_pos (show qo_k2_1 A lw hg m i = true from hk)] at h
    split at h
    · rename_i ho
      obtain ⟨rfl, ht, rfl⟩ := is_iff.1 ho
      cases h
      refine ⟨_, (key ht).trans ?_⟩
      rw [hk]; rfl
    · cases h
  | false =>
    rw [if_neg (show ¬qo_k2_1 A lw hg m i = true from by rw [show qo_k2_1 A lw hg m i = (A.all (inR (nth lw 0).int (nth hg 0).int)) from rfl, hk]; simp)] at h
    split at h
    · rename_i ho
      obtain ⟨rfl, ht, rfl⟩ := is_iff.1 ho
      cases h
      refine ⟨_, (key ht).trans ?_⟩
      rw [hk]; rfl
    · cases h
theorem qo_is2 : LoopIs tab FT D19 live 146 qo_lo 0 2 := by
  refine loop_told (sl := qo_2_sl) (step := qo_2_st) (out := qo_2_out) (lor := qo_lo2) (fin := fun x => (qo_2_fin (x.1) (x.2.1) (x.2.2.1) (x.2.2.2.1) (x.2.2.2.2))) (fun _ => rfl) ?_ (fun x n => qo_2_r x.1 x.2.1 x.2.2.1 x.2.2.2.1 x.2.2.2.2 n) (fun x ow => qo_2_h x.1 x.2.1 x.2.2.1 x.2.2.2.1 x.2.2.2.2 ow)
  intro s t h
  unfold qo_lo2 at h
  split at h
  · cases h; exact ⟨(_, _, _, _, _), rfl, rfl⟩
  · cases h
def qo_t (A : LL) (lw hg : List TC) : Tr (Int) := (.ite ((qo_k2_1 A lw hg (A.length : Int) (0 : Int)) = true) (.ite ((qo_o2_2 A lw hg (A.length : Int) (0 : Int)) = true) (.ok (-1 : Int))
   .no)
  (.ite ((qo_o2_3 A lw hg (A.length : Int) (0 : Int)) = true) (.ok (qo_u2_3 A lw hg (A.length : Int) (0 : Int)))
   .no))
def qo_mk (p : Int) : Res := [(false, [⟨.int .i64, .sh, TC.i p⟩])]
def qo_c (A : LL) (lw hg : List TC) : Bool := is (Typed tab (.slice 2) (.l A))
def qo_v (A : LL) (lw hg : List TC) : Int := if (A.all (inR (nth lw 0).int (nth hg 0).int)) = true then -1 else (Int.ofNat (A.findIdx fun x => !(inR (nth lw 0).int (nth hg 0).int) x))
theorem qo_l (A : LL) (lw hg : List TC) : (qo_c A lw hg) = true → (qo_t A lw hg).val = some (qo_v A lw hg) := by
  intro h
  have ht := is_iff.1 h
  unfold qo_t
  cases hk : A.all (inR (nth lw 0).int (nth hg 0).int) with
  | true =>
    refine Tr.t (show A.all (inR (nth lw 0).int (nth hg 0).int) = true from hk) ?_
    refine Tr.t (is_true ⟨rfl, ht, rfl⟩) ?_
    show _ = some (qo_v A lw hg); unfold qo_v; rw [if_pos hk]; rfl
  | false =>
    refine Tr.n (show ¬A.all (inR (nth lw 0).int (nth hg 0).int) = true from by rw [hk]; simp) ?_
    refine Tr.t (is_true ⟨rfl, ht, rfl⟩) ?_
    show _ = some (qo_v A lw hg); unfold qo_v; rw [if_neg (by rw [hk]; simp)]; rfl
def qo_S : List Arg → Option (Bool × Res) := fun xs => match xs with
  | [(false, [(.slice 2, TC.l A)]), (false, [(.func, TC.f 114 [(2, lw), (2, hg)])])] => some ((qo_c A lw hg), qo_mk (qo_v A lw hg))
  | _ => .none
theorem qo_e (A : LL) (lw hg : List TC) : runF tab FT D19 live 146 qo_lo [(false, [(.slice 2, TC.l A)]), (false, [(.func, TC.f 114 [(2, lw), (2, hg)])])] = (qo_t A lw hg).run fun p => some (qo_mk p) := by kernel_rfl
theorem qo_s : ∀ xs r, qo_S xs = some (true, r) → runF tab FT D19 live 146 qo_lo xs = some r := by
  intro xs r h
  unfold qo_S at h
  split at h
  · obtain ⟨h1, rfl⟩ := sp h
    exact fun_told (qo_e ..) (qo_l _ _ _) h1
  · cases h
def D20 : Dt := also D19 146 qo_S
theorem d20 : DOk Go.Proofs.Try.prog tab D20 := d19.also mixed_ok tab_ok names_ok (fnLoops_one (by kernel_rfl) qo_is2) qo_s
def qbb_t (A : LL) (lw hg : List TC) : Tr (Bool) := (.ite ((qo_c A lw hg) = true) (.ok (decide ((qo_v A lw hg) ≥ (0 : Int))))
  .no)
def qbb_mk (p : Bool) : Res := [(false, [⟨.bool, .sh, TC.b p⟩])]
def qbb_c (A : LL) (lw hg : List TC) : Bool := is (Typed tab (.slice 2) (.l A))
def qbb_v (A : LL) (lw hg : List TC) : Bool := !(A.all (inR (nth lw 0).int (nth hg 0).int))
theorem qbb_l (A : LL) (lw hg : List TC) : (qbb_c A lw hg) = true → (qbb_t A lw hg).val = some (qbb_v A lw hg) := by
  intro h
  have ht := is_iff.1 h
  unfold qbb_t
  refine Tr.t (is_true ht) ?_
  show some (decide (qo_v A lw hg ≥ 0)) = some (!(A.all (inR (nth lw 0).int (nth hg 0).int)))
  unfold qo_v
  cases hk : A.all (inR (nth lw 0).int (nth hg 0).int) <;> simp
def qbb_S : List Arg → Option (Bool × Res) := fun xs => match xs with
  | [(false, [(.slice 2, TC.l A)]), (false, [(.func, TC.f 114 [(2, lw), (2, hg)])])] => some ((qbb_c A lw hg), qbb_mk (qbb_v A lw hg))
  | _ => .none
theorem qbb_e (A : LL) (lw hg : List TC) : runF tab FT D20 live 113 noLoops [(false, [(.slice 2, TC.l A)]), (false, [(.func, TC.f 114 [(2, lw), (2, hg)])])] = (qbb_t A lw hg).run fun p => some (qbb_mk p) := by kernel_rfl
theorem qbb_s : ∀ xs r, qbb_S xs = some (true, r) → runF tab FT D20 live 113 noLoops xs = some r := by
  intro xs r h
  unfold qbb_S at h
  split at h
  · obtain ⟨h1, rfl⟩ := sp h
    exact fun_told (qbb_e ..) (qbb_l _ _ _) h1
  · cases h
def D21 : Dt := also D20 113 qbb_S
theorem d21 : DOk Go.Proofs.Try.prog tab D21 := d20.also mixed_ok tab_ok names_ok noLoops_ok qbb_s
def qbc_t (a0 : LL) (a1 a2 : Int) : Tr (Bool) := (.ite ((qbb_c a0 [TC.i a1] [TC.i a2]) = true) (.ok (!(qbb_v a0 [TC.i a1] [TC.i a2])))
  .no)
def qbc_mk (p : Bool) : Res := [(false, [⟨.bool, .sh, TC.b p⟩])]
def qbc_c (a0 : LL) (a1 a2 : Int) : Bool := (qbb_c a0 [TC.i a1] [TC.i a2])
def qbc_v (a0 : LL) (a1 a2 : Int) : Bool := (!(qbb_v a0 [TC.i a1] [TC.i a2]))
theorem qbc_l (a0 : LL) (a1 a2 : Int) : (qbc_c a0 a1 a2) = true → (qbc_t a0 a1 a2).val = some (qbc_v a0 a1 a2) := by
  intro h
  have hc0 : (qbb_c a0 [TC.i a1] [TC.i a2]) = true := h
  unfold qbc_t
  exact (Tr.t hc0 rfl)
def qbc_S : List Arg → Option (Bool × Res) := fun xs => match xs with
  | [(false, [(.slice 2, TC.l a0)]), (false, [(.int .i64, TC.i a1)]), (false, [(.int .i64, TC.i a2)])] => some ((qbc_c a0 a1 a2), qbc_mk (qbc_v a0 a1 a2))
  | _ => .none
theorem qbc_e (a0 : LL) (a1 a2 : Int) : runF tab FT D21 live 68 noLoops [(false, [(.slice 2, TC.l a0)]), (false, [(.int .i64, TC.i a1)]), (false, [(.int .i64, TC.i a2)])] = (qbc_t a0 a1 a2).run fun p => some (qbc_mk p) := by kernel_rfl
theorem qbc_s : ∀ xs r, qbc_S xs = some (true, r) → runF tab FT D21 live 68 noLoops xs = some r := by
  intro xs r h
  unfold qbc_S at h
  split at h
  · obtain ⟨h1, rfl⟩ := sp h
    exact fun_told (qbc_e ..) (qbc_l _ _ _) h1
  · cases h
def D22 : Dt := also D21 68 qbc_S
theorem d22 : DOk Go.Proofs.Try.prog tab D22 := d21.also mixed_ok tab_ok names_ok noLoops_ok qbc_s
abbrev qt_3_σ := Int × LL × Int × Int
abbrev qt_3_ω := (Int)
def qt_3_step (n : Int) (A : LL) (m i : Int) : Tr (qt_3_σ ⊕ qt_3_ω) := (.ite ((decide (i < m)) = true) (.ite ((0 : Int) ≤ i ∧ i < (A.length : Int)) (.ok (.inl ((IntKind.wrap .i64 (n * (nth (row A i) 0).int)), A, m, (IntKind.wrap .i64 (i + (1 : Int))))))
   .no)
  (.ok (.inr n)))
def qt_3_st : qt_3_σ → Tr (qt_3_σ ⊕ qt_3_ω) := fun x => (qt_3_step (x.1) (x.2.1) (x.2.2.1) (x.2.2.2))
def qt_o3_1 (n : Int) (A : LL) (m i : Int) : Bool := is (i = 0 ∧ n = 1 ∧ Typed tab (.slice 2) (.l A) ∧ m = (A.length : Int))
def qt_u3_1 (n : Int) (A : LL) (m i : Int) : Int := (A.foldl mulR (1 : Int))
def qt_3_fin (n : Int) (A : LL) (m i : Int) : Told qt_3_ω := (.leaf (qt_o3_1 n A m i) (qt_u3_1 n A m i))
def qt_3_sl (x : qt_3_σ) : List Slot := [⟨.val false [⟨.int .i64, .sh, TC.i (x.1)⟩], ⟨0, 0⟩⟩, ⟨.val false [⟨.slice 2, .sh, TC.l (x.2.1)⟩], ⟨0, 0⟩⟩, ⟨.val false [⟨.int .i64, .sh, TC.i (x.2.2.1)⟩], ⟨0, 0⟩⟩, ⟨.val false [⟨.int .i64, .sh, TC.i (x.2.2.2)⟩], ⟨0, 0⟩⟩]
def qt_3_out : qt_3_ω → Ex × List Slot := (fun x => (.exit 0, [Slot.none, ⟨.val false [⟨.int .i64, .sh, TC.i x⟩], ⟨0, 0⟩⟩]))
def qt_lo3 : List Slot → Option (Told (Ex × List Slot)) := fun s => match s with
  | [⟨.val false [⟨.int .i64, .sh, TC.i n⟩], ⟨0, 0⟩⟩, ⟨.val false [⟨.slice 2, .sh, TC.l A⟩], ⟨0, 0⟩⟩, ⟨.val false [⟨.int .i64, .sh, TC.i m⟩], ⟨0, 0⟩⟩, ⟨.val false [⟨.int .i64, .sh, TC.i i⟩], ⟨0, 0⟩⟩] => some (((qt_3_fin n A m i)).map qt_3_out)
  | _ => .none
def qt_lo : LoopTeller := fun r s => bif Nat.beq r 3 then qt_lo3 s else .none
theorem qt_3_r (n : Int) (A : LL) (m i : Int) (fuel : Nat) : rounds (rnd tab FT D22 live 69 qt_lo 0 3) leave (fuel + 1) (qt_3_sl (n, A, m, i)) = ((qt_3_step n A m i)).run (goOn (fun s => rounds (rnd tab FT D22 live 69 qt_lo 0 3) leave fuel (qt_3_sl s)) fun w => some (qt_3_out w)) := by kernel_rfl
theorem qt_3_h (n : Int) (A : LL) (m i : Int) (ow : qt_3_ω) : ((qt_3_fin n A m i)).val = some ow → ∃ fuel, loopN qt_3_st fuel (n, A, m, i) = some ow := by
  intro h
  have key : Typed tab (.slice 2) (.l A) → loopN qt_3_st (A.length + 1) ((1 : Int), A, (A.length : Int), (0 : Int)) = some ((A.foldl mulR (1 : Int))) := by
    intro ht
    have hlen : A.length ≤ 140737488351232 := by have := typed_room ht; simp only [show (tab 2).bytes = 8 from rfl] at this; omega
    have key := loopN_scan (step := qt_3_st) A [] (fun _ => true) mulR (fun i a => (a, A, (A.length : Int), (i : Int))) (fun a => a) (fun i a => a) (fun i a hi => ?_) (fun a => ?_) A.length 0 (1 : Int) (by omega)
    · first | (rw [Nat.zero_add] at key; exact key) | exact key | (simpa using key)
    · skip
      show (qt_3_step a A (A.length : Int) (i : Int)).val = _
      unfold qt_3_step
      refine Tr.t (by simp; omega) ?_
      show _ = some _
      refine Tr.t (by first | omega | (constructor <;> omega)) ?_
      rw [Tr.val_ok, wrap64 (i := (i : Int) + 1) (by omega) (by omega)]; rfl
    · show (qt_3_step a A (A.length : Int) (A.length : Int)).val = _
      refine Tr.n (by simp) ?_
      rfl
  simp only [qt_3_fin, Told.val] at h
  split at h
  · rename_i ho
    obtain ⟨rfl, rfl, ht, rfl⟩ := is_iff.1 ho
    cases h
    exact ⟨_, key ht⟩
  · cases h
theorem qt_is3 : LoopIs tab FT D22 live 69 qt_lo 0 3 := by
  refine loop_told (sl := qt_3_sl) (step := qt_3_st) (out := qt_3_out) (lor := qt_lo3) (fin := fun x => (qt_3_fin (x.1) (x.2.1) (x.2.2.1) (x.2.2.2))) (fun _ => rfl) ?_ (fun x n => qt_3_r x.1 x.2.1 x.2.2.1 x.2.2.2 n) (fun x ow => qt_3_h x.1 x.2.1 x.2.2.1 x.2.2.2 ow)
  intro s t h
  unfold qt_lo3 at h
  split at h
  · cases h; exact ⟨(_, _, _, _), rfl, rfl⟩
  · cases h
def qt_t (A : LL) : Tr (Int) := (.ite ((qt_o3_1 (1 : Int) A (A.length : Int) (0 : Int)) = true) (.ok (qt_u3_1 (1 : Int) A (A.length : Int) (0 : Int)))
  .no)
def qt_mk (p : Int) : Res := [(false, [⟨.int .i64, .sh, TC.i p⟩])]
def qt_c (A : LL) : Bool := (qt_o3_1 (1 : Int) A (A.length : Int) (0 : Int))
def qt_v (A : LL) : Int := (qt_u3_1 (1 : Int) A (A.length : Int) (0 : Int))
theorem qt_l (A : LL) : (qt_c A) = true → (qt_t A).val = some (qt_v A) := by
  intro h
  have hc0 : (qt_o3_1 (1 : Int) A (A.length : Int) (0 : Int)) = true := h
  unfold qt_t
  exact (Tr.t hc0 rfl)
def qt_S : List Arg → Option (Bool × Res) := fun xs => match xs with
  | [(false, [(.slice 2, TC.l A)])] => some ((qt_c A), qt_mk (qt_v A))
  | _ => .none
theorem qt_e (A : LL) : runF tab FT D22 live 69 qt_lo [(false, [(.slice 2, TC.l A)])] = (qt_t A).run fun p => some (qt_mk p) := by kernel_rfl
theorem qt_s : ∀ xs r, qt_S xs = some (true, r) → runF tab FT D22 live 69 qt_lo xs = some r := by
  intro xs r h
  unfold qt_S at h
  split at h
  · obtain ⟨h1, rfl⟩ := sp h
    exact fun_told (qt_e _) (qt_l _) h1
  · cases h
def D23 : Dt := also D22 69 qt_S
theorem d23 : DOk Go.Proofs.Try.prog tab D23 := d22.also mixed_ok tab_ok names_ok (fnLoops_one (by kernel_rfl) qt_is3) qt_s
def qbd_t (A : LL) : Tr (Bool) := (.ite ((decide ((A.length : Int) ≤ (3 : Int))) = true) (.ite ((qbc_c A (0 : Int) (40 : Int)) = true) (.ite ((qbc_v A (0 : Int) (40 : Int)) = true) (.ite ((qt_c A) = true) (.ok (decide ((qt_v A) ≤ (600 : Int))))
     .no)
    (.ok false))
   .no)
  (.ok false))
def qbd_mk (p : Bool) : Res := [(false, [⟨.bool, .sh, TC.b p⟩])]
def qbd_c (A : LL) : Bool := is (((qbc_c A (0 : Int) (40 : Int)) = true) ∧ ((qt_c A) = true))
def qbd_v (A : LL) : Bool := (bif (decide ((A.length : Int) ≤ (3 : Int))) then (bif (qbc_v A (0 : Int) (40 : Int)) then (decide ((qt_v A) ≤ (600 : Int))) else false) else false)
theorem qbd_l (A : LL) : (qbd_c A) = true → (qbd_t A).val = some (qbd_v A) := by
  intro h
  obtain ⟨g0, g1⟩ := is_iff.1 h
  unfold qbd_t qbd_v
  exact (Tr.s (Tr.t g0 (Tr.s (Tr.t g1 rfl) rfl)) rfl)
def qbd_S : List Arg → Option (Bool × Res) := fun xs => match xs with
  | [(false, [(.slice 2, TC.l A)])] => some ((qbd_c A), qbd_mk (qbd_v A))
  | _ => .none
theorem qbd_e (A : LL) : runF tab FT D23 live 67 noLoops [(false, [(.slice 2, TC.l A)])] = (qbd_t A).run fun p => some (qbd_mk p) := by kernel_rfl
theorem qbd_s : ∀ xs r, qbd_S xs = some (true, r) → runF tab FT D23 live 67 noLoops xs = some r := by
  intro xs r h
  unfold qbd_S at h
  split at h
  · obtain ⟨h1, rfl⟩ := sp h
    exact fun_told (qbd_e _) (qbd_l _) h1
  · cases h
def D24 : Dt := also D23 67 qbd_S
theorem d24 : DOk Go.Proofs.Try.prog tab D24 := d23.also mixed_ok tab_ok names_ok noLoops_ok qbd_s
theorem qbd_vv (A : LL) : qbd_v A = dimsOk A := by
  show (bif decide ((A.length : Int) ≤ 3) then bif (!(!(A.all (inR 0 40)))) then decide (prodL A ≤ 600) else false else false) = _
  unfold dimsOk
  cases decide ((A.length : Int) ≤ 3) <;> cases A.all (inR 0 40) <;> rfl
abbrev qba_3_σ := LL × LL × LL × Int × Int
abbrev qba_3_ω := (LL)
def qba_3_step (C X D : LL) (m i : Int) : Tr (qba_3_σ ⊕ qba_3_ω) := (.ite ((decide (i < m)) = true) (.ite ((0 : Int) ≤ i ∧ i < (D.length : Int)) (.ite ((0 : Int) ≤ i ∧ i < (C.length : Int)) (.ite ((0 : Int) ≤ i ∧ i < (C.length : Int)) (.ite ((nth (row C i) 0).int ≠ 0) (.ite (roomFor (tab 2) (X ++ [[TC.i (IntKind.wrap .i64 (Int.tdiv (IntKind.wrap .i64 ((IntKind.wrap .i64 ((nth (row D i) 0).int + (nth (row C i) 0).int)) - (1 : Int))) ((nth (row C i) 0).int)))]]).length) (.ok (.inl (C, (X ++ [[TC.i (IntKind.wrap .i64 (Int.tdiv (IntKind.wrap .i64 ((IntKind.wrap .i64 ((nth (row D i) 0).int + (nth (row C i) 0).int)) - (1 : Int))) ((nth (row C i) 0).int)))]]), D, m, (IntKind.wrap .i64 (i + (1 : Int))))))
       .no)
      .no)
     .no)
    .no)
   .no)
  (.ok (.inr X)))
def qba_3_st : qba_3_σ → Tr (qba_3_σ ⊕ qba_3_ω) := fun x => (qba_3_step (x.1) (x.2.1) (x.2.2.1) (x.2.2.2.1) (x.2.2.2.2))
def qba_o3_1 (C X D : LL) (m i : Int) : Bool := is (X = [] ∧ i = 0 ∧ Typed tab (.slice 2) (.l D) ∧ D.length = C.length ∧ C.all (inR 1 40) = true ∧ m = (D.length : Int))
def qba_u3_1 (C X D : LL) (m i : Int) : LL := gridL D C
def qba_3_fin (C X D : LL) (m i : Int) : Told qba_3_ω := (.leaf (qba_o3_1 C X D m i) (qba_u3_1 C X D m i))
def qba_3_sl (x : qba_3_σ) : List Slot := [⟨.val false [⟨.slice 2, .sh, TC.l (x.1)⟩], ⟨0, 0⟩⟩, ⟨.val false [⟨.slice 2, .own true, TC.l (x.2.1)⟩], ⟨0, 0⟩⟩, ⟨.val false [⟨.slice 2, .sh, TC.l (x.2.2.1)⟩], ⟨0, 0⟩⟩, ⟨.val false [⟨.int .i64, .sh, TC.i (x.2.2.2.1)⟩], ⟨0, 0⟩⟩, ⟨.val false [⟨.int .i64, .sh, TC.i (x.2.2.2.2)⟩], ⟨0, 0⟩⟩]
def qba_3_out : qba_3_ω → Ex × List Slot := (fun x => (.exit 0, [Slot.none, ⟨.val false [⟨.slice 2, .own true, TC.l x⟩], ⟨0, 0⟩⟩]))
def qba_lo3 : List Slot → Option (Told (Ex × List Slot)) := fun s => match s with
  | [⟨.val false [⟨.slice 2, .sh, TC.l C⟩], ⟨0, 0⟩⟩, ⟨.val false [⟨.slice 2, .own true, TC.l X⟩], ⟨0, 0⟩⟩, ⟨.val false [⟨.slice 2, .sh, TC.l D⟩], ⟨0, 0⟩⟩, ⟨.val false [⟨.int .i64, .sh, TC.i m⟩], ⟨0, 0⟩⟩, ⟨.val false [⟨.int .i64, .sh, TC.i i⟩], ⟨0, 0⟩⟩] => some (((qba_3_fin C X D m i)).map qba_3_out)
  | _ => .none
def qba_lo : LoopTeller := fun r s => bif Nat.beq r 3 then qba_lo3 s else .none
theorem qba_3_r (C X D : LL) (m i : Int) (fuel : Nat) : rounds (rnd tab FT D24 live 70 qba_lo 0 3) leave (fuel + 1) (qba_3_sl (C, X, D, m, i)) = ((qba_3_step C X D m i)).run (goOn (fun s => rounds (rnd tab FT D24 live 70 qba_lo 0 3) leave fuel (qba_3_sl s)) fun w => some (qba_3_out w)) := by kernel_rfl
theorem qba_3_h (C X D : LL) (m i : Int) (ow : qba_3_ω) : ((qba_3_fin C X D m i)).val = some ow → ∃ fuel, loopN qba_3_st fuel (C, X, D, m, i) = some ow := by
  intro h
  simp only [qba_3_fin, Told.val] at h
  split at h
  · rename_i ho
    obtain ⟨rfl, rfl, ht, hl, hc, rfl⟩ := is_iff.1 ho
    cases h
    have hlen : D.length ≤ 17592186044404 := by have := typed_room ht; simp only [show (tab 2).bytes = 8 from rfl] at this; omega
    have hg : (gridL D C).length = D.length := by simp [gridL, hl]
    refine ⟨_, loopN_build (step := qba_3_st) (gridL D C) (fun i X => (C, X, D, (D.length : Int), (i : Int))) _ (fun i hi => ?_) ?_⟩
    · have hi' : i < D.length := by omega
      rw [gridL_at hl hi]
      show (qba_3_step C ((gridL D C).take i) D (D.length : Int) (i : Int)).val = _
      unfold qba_3_step
      refine Tr.t (by simp; omega) ?_
      refine Tr.t (by constructor <;> omega) ?_
      refine Tr.t (by constructor <;> omega) ?_
      refine Tr.t (by constructor <;> omega) ?_
      refine Tr.t (inR_1 hc (by omega)) ?_
      refine Tr.t (by unfold roomFor; simp only [show (tab 2).bytes = 8 from rfl, List.length_append, List.length_take, List.length_singleton]; omega) ?_
      rw [Tr.val_ok, wrap64 (i := (i : Int) + 1) (by omega) (by omega)]; rfl
    · show (qba_3_step C (gridL D C) D (D.length : Int) ((gridL D C).length : Int)).val = _
      refine Tr.n (by simp [hg]) ?_
      rfl
  · cases h
theorem qba_is3 : LoopIs tab FT D24 live 70 qba_lo 0 3 := by
  refine loop_told (sl := qba_3_sl) (step := qba_3_st) (out := qba_3_out) (lor := qba_lo3) (fin := fun x => (qba_3_fin (x.1) (x.2.1) (x.2.2.1) (x.2.2.2.1) (x.2.2.2.2))) (fun _ => rfl) ?_ (fun x n => qba_3_r x.1 x.2.1 x.2.2.1 x.2.2.2.1 x.2.2.2.2 n) (fun x ow => qba_3_h x.1 x.2.1 x.2.2.1 x.2.2.2.1 x.2.2.2.2 ow)
  intro s t h
  unfold qba_lo3 at h
  split at h
  · cases h; exact ⟨(_, _, _, _, _), rfl, rfl⟩
  · cases h
def qba_t (D C : LL) : Tr (LL) := (.ite ((qba_o3_1 C [] D (D.length : Int) (0 : Int)) = true) (.ok (qba_u3_1 C [] D (D.length : Int) (0 : Int)))
  .no)
def qba_mk (p : LL) : Res := [(false, [⟨.slice 2, .own true, TC.l p⟩])]
def qba_c (D C : LL) : Bool := is (Typed tab (.slice 2) (.l D) ∧ D.length = C.length ∧ C.all (inR 1 40) = true)
def qba_v (D C : LL) : LL := gridL D C
theorem qba_l (D C : LL) : (qba_c D C) = true → (qba_t D C).val = some (qba_v D C) := by
  intro h
  obtain ⟨ht, hl, hc⟩ := is_iff.1 h
  unfold qba_t
  exact Tr.t (is_true ⟨rfl, rfl, ht, hl, hc, rfl⟩) rfl
def qba_S : List Arg → Option (Bool × Res) := fun xs => match xs with
  | [(false, [(.slice 2, TC.l D)]), (false, [(.slice 2, TC.l C)])] => some ((qba_c D C), qba_mk (qba_v D C))
  | _ => .none
theorem qba_e (D C : LL) : runF tab FT D24 live 70 qba_lo [(false, [(.slice 2, TC.l D)]), (false, [(.slice 2, TC.l C)])] = (qba_t D C).run fun p => some (qba_mk p) := by kernel_rfl
theorem qba_s : ∀ xs r, qba_S xs = some (true, r) → runF tab FT D24 live 70 qba_lo xs = some r := by
  intro xs r h
  unfold qba_S at h
  split at h
  · obtain ⟨h1, rfl⟩ := sp h
    exact fun_told (qba_e ..) (qba_l _ _) h1
  · cases h
def D25 : Dt := also D24 70 qba_S
theorem d25 : DOk Go.Proofs.Try.prog tab D25 := d24.also mixed_ok tab_ok names_ok (fnLoops_one (by kernel_rfl) qba_is3) qba_s
def qm_t (D C : LL) : Tr (Bool) := (.ite ((qbd_c D) = true) (.ite ((!(qbd_v D)) = true) (.ok false)
   (.ite ((!((C.length : Int) == (D.length : Int))) = true) (.ok false)
    (.ite ((qbc_c C (1 : Int) (40 : Int)) = true) (.ite ((!(qbc_v C (1 : Int) (40 : Int))) = true) (.ok false)
      (.ite ((qt_c C) = true) (.ite ((decide ((qt_v C) > (64 : Int))) = true) (.ok false)
        (.ite ((qba_c D C) = true) (.ite ((qbc_c (qba_v D C) (0 : Int) (16 : Int)) = true) (.ite ((qbc_v (qba_v D C) (0 : Int) (16 : Int)) = true) (.ite ((qt_c (qba_v D C)) = true) (.ok (decide ((qt_v (qba_v D C)) ≤ (256 : Int))))
            .no)
           (.ok false))
          .no)
         .no))
       .no))
     .no)))
  .no)
def qm_mk (p : Bool) : Res := [(false, [⟨.bool, .sh, TC.b p⟩])]
def qm_c (D C : LL) : Bool := ((qbd_c D) && (bif (!(qbd_v D)) then true else (bif (!((C.length : Int) == (D.length : Int))) then true else ((qbc_c C (1 : Int) (40 : Int)) && (bif (!(qbc_v C (1 : Int) (40 : Int))) then true else ((qt_c C) && (bif (decide ((qt_v C) > (64 : Int))) then true else ((qba_c D C) && ((qbc_c (qba_v D C) (0 : Int) (16 : Int)) && (bif (qbc_v (qba_v D C) (0 : Int) (16 : Int)) then ((qt_c (qba_v D C)) && true) else true))))))))))
def qm_v (D C : LL) : Bool := (bif (!(qbd_v D)) then false else (bif (!((C.length : Int) == (D.length : Int))) then false else (bif (!(qbc_v C (1 : Int) (40 : Int))) then false else (bif (decide ((qt_v C) > (64 : Int))) then false else (bif (qbc_v (qba_v D C) (0 : Int) (16 : Int)) then (decide ((qt_v (qba_v D C)) ≤ (256 : Int))) else false)))))
theorem qm_l (D C : LL) : (qm_c D C) = true → (qm_t D C).val = some (qm_v D C) := by
  unfold qm_t qm_v qm_c
  exact fun h => (Tr.gb h fun h => (Tr.ss h (fun h => rfl) (fun h => (Tr.ss h (fun h => rfl) (fun h => (Tr.gb h fun h => (Tr.ss h (fun h => rfl) (fun h => (Tr.gb h fun h => (Tr.ss h (fun h => rfl) (fun h => (Tr.gb h fun h => (Tr.gb h fun h => (Tr.ss h (fun h => (Tr.gb h fun h => rfl)) (fun h => rfl)))))))))))))))
def qm_S : List Arg → Option (Bool × Res) := fun xs => match xs with
  | [(false, [(.slice 2, TC.l D)]), (false, [(.slice 2, TC.l C)])] => some ((qm_c D C), qm_mk (qm_v D C))
  | _ => .none
theorem qm_e (D C : LL) : runF tab FT D25 live 26 noLoops [(false, [(.slice 2, TC.l D)]), (false, [(.slice 2, TC.l C)])] = (qm_t D C).run fun p => some (qm_mk p) := by kernel_rfl
theorem qm_s : ∀ xs r, qm_S xs = some (true, r) → runF tab FT D25 live 26 noLoops xs = some r := by
  intro xs r h
  unfold qm_S at h
  split at h
  · obtain ⟨h1, rfl⟩ := sp h
    exact fun_told (qm_e ..) (qm_l _ _) h1
  · cases h
def D26 : Dt := also D25 26 qm_S
theorem d26 : DOk Go.Proofs.Try.prog tab D26 := d25.also mixed_ok tab_ok names_ok noLoops_ok qm_s
theorem qm_cc {D : LL} {C : LL} (hD : Typed tab (.slice 2) (.l D)) (hC : Typed tab (.slice 2) (.l C)) : (qm_c D C) = true := by
  unfold qm_c
  refine andT (by first | (apply is_true; and_intros <;> (first | rfl | assumption | (apply qf_cc <;> assumption) | (apply qi_cc <;> assumption) | (apply ql_cc <;> assumption) | (apply qq_cc <;> assumption) | (apply qg_cc <;> assumption) | (apply qj_cc <;> assumption) | (apply qc_cc <;> assumption) | (apply qa_cc <;> assumption) | (first | (apply is_true; and_intros <;> (first | rfl | assumption | (apply qf_cc <;> assumption) | (apply qi_cc <;> assumption) | (apply ql_cc <;> assumption) | (apply qq_cc <;> assumption) | (apply qg_cc <;> assumption) | (apply qj_cc <;> assumption) | (apply qc_cc <;> assumption) | (apply qa_cc <;> assumption) | (first | (apply is_true; and_intros <;> (first | rfl | assumption | (apply qf_cc <;> assumption) | (apply qi_cc <;> assumption) | (apply ql_cc <;> assumption) | (apply qq_cc <;> assumption) | (apply qg_cc <;> assumption) | (apply qj_cc <;> assumption) | (apply qc_cc <;> assumption) | (apply qa_cc <;> assumption) | (first | (apply is_true; and_intros <;> (first | rfl | assumption | (apply qf_cc <;> assumption) | (apply qi_cc <;> assumption) | (apply ql_cc <;> assumption) | (apply qq_cc <;> assumption) | (apply qg_cc <;> assumption) | (apply qj_cc <;> assumption) | (apply qc_cc <;> assumption) | (apply qa_cc <;> assumption))) | (apply qf_cc <;> assumption) | (apply qi_cc <;> assumption) | (apply ql_cc <;> assumption) | (apply qq_cc <;> assumption) | (apply qg_cc <;> assumption) | (apply qj_cc <;> assumption) | (apply qc_cc <;> assumption) | (apply qa_cc <;> assumption)))) | (apply qf_cc <;> assumption) | (apply qi_cc <;> assumption) | (apply ql_cc <;> assumption) | (apply qq_cc <;> assumption) | (apply qg_cc <;> assumption) | (apply qj_cc <;> assumption) | (apply qc_cc <;> assumption) | (apply qa_cc <;> assumption)))) | (apply qf_cc <;> assumption) | (apply qi_cc <;> assumption) | (apply ql_cc <;> assumption) | (apply qq_cc <;> assumption) | (apply qg_cc <;> assumption) | (apply qj_cc <;> assumption) | (apply qc_cc <;> assumption) | (apply qa_cc <;> assumption)))) | (apply qf_cc <;> assumption) | (apply qi_cc <;> assumption) | (apply ql_cc <;> assumption) | (apply qq_cc <;> assumption) | (apply qg_cc <;> assumption) | (apply qj_cc <;> assumption) | (apply qc_cc <;> assumption) | (apply qa_cc <;> assumption)) ?_
  refine bifT (fun b1 => ?_) (fun b1 => ?_)
  · skip
    rfl
  · skip
    refine bifT (fun b2 => ?_) (fun b2 => ?_)
    · skip
      rfl
    · skip
      refine andT (by first | (apply is_true; and_intros <;> (first | rfl | assumption | (apply qf_cc <;> assumption) | (apply qi_cc <;> assumption) | (apply ql_cc <;> assumption) | (apply qq_cc <;> assumption) | (apply qg_cc <;> assumption) | (apply qj_cc <;> assumption) | (apply qc_cc <;> assumption) | (apply qa_cc <;> assumption) | (first | (apply is_true; and_intros <;> (first | rfl | assumption | (apply qf_cc <;> assumption) | (apply qi_cc <;> assumption) | (apply ql_cc <;> assumption) | (apply qq_cc <;> assumption) | (apply qg_cc <;> assumption) | (apply qj_cc <;> assumption) | (apply qc_cc <;> assumption) | (apply qa_cc <;> assumption) | (first | (apply is_true; and_intros <;> (first | rfl | assumption | (apply qf_cc <;> assumption) | (apply qi_cc <;> assumption) | (apply ql_cc <;> assumption) | (apply qq_cc <;> assumption) | (apply qg_cc <;> assumption) | (apply qj_cc <;> assumption) | (apply qc_cc <;> assumption) | (apply qa_cc <;> assumption) | (first | (apply is_true; and_intros <;> (first | rfl | assumption | (apply qf_cc <;> assumption) | (apply qi_cc <;> assumption) | (apply ql_cc <;> assumption) | (apply qq_cc <;> assumption) | (apply qg_cc <;> assumption) | (apply qj_cc <;> assumption) | (apply qc_cc <;> assumption) | (apply qa_cc <;> assumption))) | (apply qf_cc <;> assumption) | (apply qi_cc <;> assumption) | (apply ql_cc <;> assumption) | (apply qq_cc <;> assumption) | (apply qg_cc <;> assumption) | (apply qj_cc <;> assumption) | (apply qc_cc <;> assumption) | (apply qa_cc <;> assumption)))) | (apply qf_cc <;> assumption) | (apply qi_cc <;> assumption) | (apply ql_cc <;> assumption) | (apply qq_cc <;> assumption) | (apply qg_cc <;> assumption) | (apply qj_cc <;> assumption) | (apply qc_cc <;> assumption) | (apply qa_cc <;> assumption)))) | (apply qf_cc <;> assumption) | (apply qi_cc <;> assumption) | (apply ql_cc <;> assumption) | (apply qq_cc <;> assumption) | (apply qg_cc <;> assumption) | (apply qj_cc <;> assumption) | (apply qc_cc <;> assumption) | (apply qa_cc <;> assumption)))) | (apply qf_cc <;> assumption) | (apply qi_cc <;> assumption) | (apply ql_cc <;> assumption) | (apply qq_cc <;> assumption) | (apply qg_cc <;> assumption) | (apply qj_cc <;> assumption) | (apply qc_cc <;> assumption) | (apply qa_cc <;> assumption)) ?_
      refine bifT (fun b3 => ?_) (fun b3 => ?_)
      · skip
        rfl
      · skip
        refine andT (by first | (apply is_true; and_intros <;> (first | rfl | assumption | (apply qf_cc <;> assumption) | (apply qi_cc <;> assumption) | (apply ql_cc <;> assumption) | (apply qq_cc <;> assumption) | (apply qg_cc <;> assumption) | (apply qj_cc <;> assumption) | (apply qc_cc <;> assumption) | (apply qa_cc <;> assumption) | (first | (apply is_true; and_intros <;> (first | rfl | assumption | (apply qf_cc <;> assumption) | (apply qi_cc <;> assumption) | (apply ql_cc <;> assumption) | (apply qq_cc <;> assumption) | (apply qg_cc <;> assumption) | (apply qj_cc <;> assumption) | (apply qc_cc <;> assumption) | (apply qa_cc <;> assumption) | (first | (apply is_true; and_intros <;> (first | rfl | assumption | (apply qf_cc <;> assumption) | (apply qi_cc <;> assumption) | (apply ql_cc <;> assumption) | (apply qq_cc <;> assumption) | (apply qg_cc <;> assumption) | (apply qj_cc <;> assumption) | (apply qc_cc <;> assumption) | (apply qa_cc <;> assumption) | (first | (apply is_true; and_intros <;> (first | rfl | assumption | (apply qf_cc <;> assumption) | (apply qi_cc <;> assumption) | (apply ql_cc <;> assumption) | (apply qq_cc <;> assumption) | (apply qg_cc <;> assumption) | (apply qj_cc <;> assumption) | (apply qc_cc <;> assumption) | (apply qa_cc <;> assumption))) | (apply qf_cc <;> assumption) | (apply qi_cc <;> assumption) | (apply ql_cc <;> assumption) | (apply qq_cc <;> assumption) | (apply qg_cc <;> assumption) | (apply qj_cc <;> assumption) | (apply qc_cc <;> assumption) | (apply qa_cc <;> assumption)))) | (apply qf_cc <;> assumption) | (apply qi_cc <;> assumption) | (apply ql_cc <;> assumption) | (apply qq_cc <;> assumption) | (apply qg_cc <;> assumption) | (apply qj_cc <;> assumption) | (apply qc_cc <;> assumption) | (apply qa_cc <;> assumption)))) | (apply qf_cc <;> assumption) | (apply qi_cc <;> assumption) | (apply ql_cc <;> assumption) | (apply qq_cc <;> assumption) | (apply qg_cc <;> assumption) | (apply qj_cc <;> assumption) | (apply qc_cc <;> assumption) | (apply qa_cc <;> assumption)))) | (apply qf_cc <;> assumption) | (apply qi_cc <;> assumption) | (apply ql_cc <;> assumption) | (apply qq_cc <;> assumption) | (apply qg_cc <;> assumption) | (apply qj_cc <;> assumption) | (apply qc_cc <;> assumption) | (apply qa_cc <;> assumption)) ?_
        refine bifT (fun b4 => ?_) (fun b4 => ?_)
        · skip
          rfl
        · skip
          refine andT (by exact is_true (p := Typed tab (.slice 2) (.l D) ∧ D.length = C.length ∧ C.all (inR 1 40) = true) ⟨hD, lenEq b2, nnF b3⟩) ?_
          refine andT (by exact is_true (gridL_ty rfl hD)) ?_
          refine bifT (fun b5 => ?_) (fun b5 => ?_)
          · skip
            refine andT (by exact is_true ⟨rfl, rfl, gridL_ty rfl hD, rfl⟩) ?_
            rfl
          · skip
            rfl
theorem qm_vv (D C : LL) : qm_v D C = chunkOk D C := by
  show (bif (!(qbd_v D)) then false else bif (!((C.length : Int) == (D.length : Int))) then false else bif (!(!(!(C.all (inR 1 40))))) then false else bif decide (prodL C > 64) then false else bif (!(!((gridL D C).all (inR 0 16)))) then decide (prodL (gridL D C) ≤ 256) else false) = _
  rw [qbd_vv]
  unfold chunkOk
  rw [show decide (prodL C > 64) = !decide (prodL C ≤ 64) from by rw [← decide_not]; simp]
  cases dimsOk D <;> cases ((C.length : Int) == (D.length : Int)) <;> cases C.all (inR 1 40) <;> cases (gridL D C).all (inR 0 16) <;> cases decide (prodL C ≤ 64) <;> rfl
def qbk_c (A : LL) (x : Int) : Bool := is (Typed tab (.slice 2) (.l A) ∧ ∀ j : Nat, j < A.length → (nth (A.getD j []) 0).int ≠ 0)
def qbk_v (A : LL) (x : Int) : LL := coordsV A x
def qbk_mk (p : LL) : Res := [(false, [⟨.slice 2, .own true, TC.l p⟩])]
def qbk_S : List Arg → Option (Bool × Res) := fun xs => match xs with
  | [(false, [(.slice 2, TC.l A)]), (false, [(.int .i64, TC.i x)])] => some ((qbk_c A x), qbk_mk (qbk_v A x))
  | _ => .none
def D27 : Dt := also D26 97 qbk_S
theorem d27 : DOk Go.Proofs.Try.prog tab D27 := d26.alsoC names_ok (c := _) Go.Proofs.Try.func97 rfl (by
  intro xs r h w S hargs0 hS hG hargs
  unfold qbk_S at h
  split at h
  · rename_i A x
    obtain ⟨h1, rfl⟩ := sp h
    obtain ⟨u, us, rfl, ha, hr⟩ := args_cons hargs
    obtain ⟨u2, us2, rfl, hb, hr2⟩ := args_cons hr
    have := args_nil hr2
    subst this
    obtain ⟨ht, hz⟩ := is_iff.1 h1
    have hlen := typed_room ht
    simp only [show (tab 2).bytes = 8 from rfl] at hlen
    rw [rep_int' (arg_rep hb)]
    exact coords_told hS (arg_rep ha) hz hlen
  · cases h)
def qz_f3 (A : LL) (m i n : Int) : (Int) ⊕ ((Int)) := (.inl (IntKind.wrap .i64 ((IntKind.wrap .i64 (n * (16 : Int))) + (nth (row A i) 0).int)))
def qz_e3 (A : LL) (m n : Int) : (Int) := n
def qz_R3 (n : Int) (A : LL) (m i : Int) : (Int) := iter (fun i a => (qz_f3 A m (i : Int) a)) (fun a => (qz_e3 A m a)) (A.length) 0 n
abbrev qz_3_σ := Int × LL × Int × Int
abbrev qz_3_ω := (Int)
def qz_3_step (n : Int) (A : LL) (m i : Int) : Tr (qz_3_σ ⊕ qz_3_ω) := (.ite ((decide (i < m)) = true) (.ite ((0 : Int) ≤ i ∧ i < (A.length : Int)) (.ok (.inl ((IntKind.wrap .i64 ((IntKind.wrap .i64 (n * (16 : Int))) + (nth (row A i) 0).int)), A, m, (IntKind.wrap .i64 (i + (1 : Int))))))
   .no)
  (.ok (.inr n)))
def qz_3_st : qz_3_σ → Tr (qz_3_σ ⊕ qz_3_ω) := fun x => (qz_3_step (x.1) (x.2.1) (x.2.2.1) (x.2.2.2))
def qz_o3_1 (n : Int) (A : LL) (m i : Int) : Bool := is (i = 0 ∧ n = 0 ∧ A.length ≤ 140737488351232 ∧ m = (A.length : Int))
def qz_u3_1 (n : Int) (A : LL) (m i : Int) : Int := (qz_R3 n A m i)
def qz_3_fin (n : Int) (A : LL) (m i : Int) : Told qz_3_ω := (.leaf (qz_o3_1 n A m i) (qz_u3_1 n A m i))
def qz_3_sl (x : qz_3_σ) : List Slot := [⟨.val false [⟨.int .i64, .sh, TC.i (x.1)⟩], ⟨0, 0⟩⟩, ⟨.val false [⟨.slice 2, .sh, TC.l (x.2.1)⟩], ⟨0, 0⟩⟩, ⟨.val false [⟨.int .i64, .sh, TC.i (x.2.2.1)⟩], ⟨0, 0⟩⟩, ⟨.val false [⟨.int .i64, .sh, TC.i (x.2.2.2)⟩], ⟨0, 0⟩⟩]
def qz_3_out : qz_3_ω → Ex × List Slot := (fun x => (.exit 0, [Slot.none, ⟨.val false [⟨.int .i64, .sh, TC.i x⟩], ⟨0, 0⟩⟩]))
def qz_lo3 : List Slot → Option (Told (Ex × List Slot)) := fun s => match s with
  | [⟨.val false [⟨.int .i64, .sh, TC.i n⟩], ⟨0, 0⟩⟩, ⟨.val false [⟨.slice 2, .sh, TC.l A⟩], ⟨0, 0⟩⟩, ⟨.val false [⟨.int .i64, .sh, TC.i m⟩], ⟨0, 0⟩⟩, ⟨.val false [⟨.int .i64, .sh, TC.i i⟩], ⟨0, 0⟩⟩] => some (((qz_3_fin n A m i)).map qz_3_out)
  | _ => .none
def qz_lo : LoopTeller := fun r s => bif Nat.beq r 3 then qz_lo3 s else .none
theorem qz_3_r (n : Int) (A : LL) (m i : Int) (fuel : Nat) : rounds (rnd tab FT D27 live 112 qz_lo 0 3) leave (fuel + 1) (qz_3_sl (n, A, m, i)) = ((qz_3_step n A m i)).run (goOn (fun s => rounds (rnd tab FT D27 live 112 qz_lo 0 3) leave fuel (qz_3_sl s)) fun w => some (qz_3_out w)) := by kernel_rfl
theorem qz_R3_eq (A : LL) : qz_R3 0 A (A.length : Int) 0 = keyL A := by
  unfold qz_R3
  refine (iter_each (g := (fun i n => IntKind.wrap .i64 ((IntKind.wrap .i64 (n * 16)) + (nth (row A (i : Int)) 0).int))) (fin := fun a => qz_e3 A (A.length : Int) a) fun j a hj => ?_)
  unfold qz_f3
  rfl
theorem qz_3_h (n : Int) (A : LL) (m i : Int) (ow : qz_3_ω) : ((qz_3_fin n A m i)).val = some ow → ∃ fuel, loopN qz_3_st fuel (n, A, m, i) = some ow := by
  refine auto_leaf (R := (qz_R3 n A m i)) ?_
  intro ho
  have ho : is (i = 0 ∧ n = 0 ∧ A.length ≤ 140737488351232 ∧ m = (A.length : Int)) = true := ho
  obtain ⟨rfl, rfl, hlen, rfl⟩ := is_iff.1 ho
  skip
  refine ⟨(A.length) + 1, ?_⟩
  refine iter_loop (step := qz_3_st) (A.length) (fun i a => (qz_f3 A (A.length : Int) (i : Int) a)) (fun a => (qz_e3 A (A.length : Int) a)) (fun i a => (a, A, (A.length : Int), (i : Int))) (fun _ _ => True) trivial (fun i a hi hI => ⟨?_, fun _ _ => trivial⟩) (fun a hI => ?_)
  · show (qz_3_step a A (A.length : Int) (i : Int)).val = _
    unfold qz_3_step qz_f3
    skip
    refine Tr.t (by simp; omega) ?_
    exact (Tr.t (by first | omega | (constructor <;> omega)) (by rw [Tr.val_ok, wrap64 (i := (i : Int) + 1) (by omega) (by omega)]; rfl))
  · show (qz_3_step a A (A.length : Int) (A.length : Int)).val = _
    refine Tr.n (by first | (simp; done) | (simp; omega) | omega) ?_
    rfl
theorem qz_is3 : LoopIs tab FT D27 live 112 qz_lo 0 3 := by
  refine loop_told (sl := qz_3_sl) (step := qz_3_st) (out := qz_3_out) (lor := qz_lo3) (fin := fun x => (qz_3_fin (x.1) (x.2.1) (x.2.2.1) (x.2.2.2))) (fun _ => rfl) ?_ (fun x n => qz_3_r x.1 x.2.1 x.2.2.1 x.2.2.2 n) (fun x ow => qz_3_h x.1 x.2.1 x.2.2.1 x.2.2.2 ow)
  intro s t h
  unfold qz_lo3 at h
  split at h
  · cases h; exact ⟨(_, _, _, _), rfl, rfl⟩
  · cases h
def qz_t (A : LL) : Tr (Int) := (.ite ((qz_o3_1 (0 : Int) A (A.length : Int) (0 : Int)) = true) (.ok (qz_u3_1 (0 : Int) A (A.length : Int) (0 : Int)))
  .no)
def qz_mk (p : Int) : Res := [(false, [⟨.int .i64, .sh, TC.i p⟩])]
def qz_c (A : LL) : Bool := (qz_o3_1 (0 : Int) A (A.length : Int) (0 : Int))
def qz_v (A : LL) : Int := (qz_u3_1 (0 : Int) A (A.length : Int) (0 : Int))
theorem qz_l (A : LL) : (qz_c A) = true → (qz_t A).val = some (qz_v A) := by
  intro h
  have hc0 : (qz_o3_1 (0 : Int) A (A.length : Int) (0 : Int)) = true := h
  unfold qz_t
  exact (Tr.t hc0 rfl)
def qz_S : List Arg → Option (Bool × Res) := fun xs => match xs with
  | [(false, [(.slice 2, TC.l A)])] => some ((qz_c A), qz_mk (qz_v A))
  | _ => .none
theorem qz_e (A : LL) : runF tab FT D27 live 112 qz_lo [(false, [(.slice 2, TC.l A)])] = (qz_t A).run fun p => some (qz_mk p) := by kernel_rfl
theorem qz_s : ∀ xs r, qz_S xs = some (true, r) → runF tab FT D27 live 112 qz_lo xs = some r := by
  intro xs r h
  unfold qz_S at h
  split at h
  · obtain ⟨h1, rfl⟩ := sp h
    exact fun_told (qz_e _) (qz_l _) h1
  · cases h
def D28 : Dt := also D27 112 qz_S
theorem d28 : DOk Go.Proofs.Try.prog tab D28 := d27.also mixed_ok tab_ok names_ok (fnLoops_one (by kernel_rfl) qz_is3) qz_s
theorem qz_vv (A : LL) : qz_v A = keyL A := qz_R3_eq A
def qv_f3 (D T : LL) (m i n : Int) : (Int) ⊕ ((Int)) := (.inl (IntKind.wrap .i64 ((IntKind.wrap .i64 (n * (nth (row D i) 0).int)) + (nth (row T i) 0).int)))
def qv_e3 (D T : LL) (m n : Int) : (Int) := n
def qv_R3 (D : LL) (n : Int) (T : LL) (m i : Int) : (Int) := iter (fun i a => (qv_f3 D T m (i : Int) a)) (fun a => (qv_e3 D T m a)) (T.length) 0 n
abbrev qv_3_σ := LL × Int × LL × Int × Int
abbrev qv_3_ω := (Int)
def qv_3_step (D : LL) (n : Int) (T : LL) (m i : Int) : Tr (qv_3_σ ⊕ qv_3_ω) := (.ite ((decide (i < m)) = true) (.ite ((0 : Int) ≤ i ∧ i < (T.length : Int)) (.ite ((0 : Int) ≤ i ∧ i < (D.length : Int)) (.ok (.inl (D, (IntKind.wrap .i64 ((IntKind.wrap .i64 (n * (nth (row D i) 0).int)) + (nth (row T i) 0).int)), T, m, (IntKind.wrap .i64 (i + (1 : Int))))))
    .no)
   .no)
  (.ok (.inr n)))
def qv_3_st : qv_3_σ → Tr (qv_3_σ ⊕ qv_3_ω) := fun x => (qv_3_step (x.1) (x.2.1) (x.2.2.1) (x.2.2.2.1) (x.2.2.2.2))
def qv_o3_1 (D : LL) (n : Int) (T : LL) (m i : Int) : Bool := is (i = 0 ∧ n = 0 ∧ T.length ≤ 140737488351232 ∧ m = (T.length : Int) ∧ D.length = T.length)
def qv_u3_1 (D : LL) (n : Int) (T : LL) (m i : Int) : Int := (qv_R3 D n T m i)
def qv_3_fin (D : LL) (n : Int) (T : LL) (m i : Int) : Told qv_3_ω := (.leaf (qv_o3_1 D n T m i) (qv_u3_1 D n T m i))
def qv_3_sl (x : qv_3_σ) : List Slot := [⟨.val false [⟨.slice 2, .sh, TC.l (x.1)⟩], ⟨0, 0⟩⟩, ⟨.val false [⟨.int .i64, .sh, TC.i (x.2.1)⟩], ⟨0, 0⟩⟩, ⟨.val false [⟨.slice 2, .sh, TC.l (x.2.2.1)⟩], ⟨0, 0⟩⟩, ⟨.val false [⟨.int .i64, .sh, TC.i (x.2.2.2.1)⟩], ⟨0, 0⟩⟩, ⟨.val false [⟨.int .i64, .sh, TC.i (x.2.2.2.2)⟩], ⟨0, 0⟩⟩]
def qv_3_out : qv_3_ω → Ex × List Slot := (fun x => (.exit 0, [Slot.none, ⟨.val false [⟨.int .i64, .sh, TC.i x⟩], ⟨0, 0⟩⟩]))
def qv_lo3 : List Slot → Option (Told (Ex × List Slot)) := fun s => match s with
  | [⟨.val false [⟨.slice 2, .sh, TC.l D⟩], ⟨0, 0⟩⟩, ⟨.val false [⟨.int .i64, .sh, TC.i n⟩], ⟨0, 0⟩⟩, ⟨.val false [⟨.slice 2, .sh, TC.l T⟩], ⟨0, 0⟩⟩, ⟨.val false [⟨.int .i64, .sh, TC.i m⟩], ⟨0, 0⟩⟩, ⟨.val false [⟨.int .i64, .sh, TC.i i⟩], ⟨0, 0⟩⟩] => some (((qv_3_fin D n T m i)).map qv_3_out)
  | _ => .none
def qv_lo : LoopTeller := fun r s => bif Nat.beq r 3 then qv_lo3 s else .none
theorem qv_3_r (D : LL) (n : Int) (T : LL) (m i : Int) (fuel : Nat) : rounds (rnd tab FT D28 live 116 qv_lo 0 3) leave (fuel + 1) (qv_3_sl (D, n, T, m, i)) = ((qv_3_step D n T m i)).run (goOn (fun s => rounds (rnd tab FT D28 live 116 qv_lo 0 3) leave fuel (qv_3_sl s)) fun w => some (qv_3_out w)) := by kernel_rfl
theorem qv_R3_eq (D T : LL) : qv_R3 D 0 T (T.length : Int) 0 = indexN D T T.length := by
  unfold qv_R3
  refine (iter_each (g := (fun i n => IntKind.wrap .i64 ((IntKind.wrap .i64 (n * (nth (row D (i : Int)) 0).int)) + (nth (row T (i : Int)) 0).int))) (fin := fun a => qv_e3 D T (T.length : Int) a) fun j a hj => ?_)
  unfold qv_f3
  rfl
theorem qv_3_h (D : LL) (n : Int) (T : LL) (m i : Int) (ow : qv_3_ω) : ((qv_3_fin D n T m i)).val = some ow → ∃ fuel, loopN qv_3_st fuel (D, n, T, m, i) = some ow := by
  refine auto_leaf (R := (qv_R3 D n T m i)) ?_
  intro ho
  have ho : is (i = 0 ∧ n = 0 ∧ T.length ≤ 140737488351232 ∧ m = (T.length : Int) ∧ D.length = T.length) = true := ho
  obtain ⟨rfl, rfl, hlen, rfl, hl⟩ := is_iff.1 ho
  skip
  refine ⟨(T.length) + 1, ?_⟩
  refine iter_loop (step := qv_3_st) (T.length) (fun i a => (qv_f3 D T (T.length : Int) (i : Int) a)) (fun a => (qv_e3 D T (T.length : Int) a)) (fun i a => (D, a, T, (T.length : Int), (i : Int))) (fun _ _ => True) trivial (fun i a hi hI => ⟨?_, fun _ _ => trivial⟩) (fun a hI => ?_)
  · show (qv_3_step D a T (T.length : Int) (i : Int)).val = _
    unfold qv_3_step qv_f3
    skip
    refine Tr.t (by simp; omega) ?_
    exact (Tr.t (by first | omega | (constructor <;> omega)) (Tr.t (by first | omega | (constructor <;> omega)) (by rw [Tr.val_ok, wrap64 (i := (i : Int) + 1) (by omega) (by omega)]; rfl)))
  · show (qv_3_step D a T (T.length : Int) (T.length : Int)).val = _
    refine Tr.n (by first | (simp; done) | (simp; omega) | omega) ?_
    rfl
theorem qv_is3 : LoopIs tab FT D28 live 116 qv_lo 0 3 := by
  refine loop_told (sl := qv_3_sl) (step := qv_3_st) (out := qv_3_out) (lor := qv_lo3) (fin := fun x => (qv_3_fin (x.1) (x.2.1) (x.2.2.1) (x.2.2.2.1) (x.2.2.2.2))) (fun _ => rfl) ?_ (fun x n => qv_3_r x.1 x.2.1 x.2.2.1 x.2.2.2.1 x.2.2.2.2 n) (fun x ow => qv_3_h x.1 x.2.1 x.2.2.1 x.2.2.2.1 x.2.2.2.2 ow)
  intro s t h
  unfold qv_lo3 at h
  split at h
  · cases h; exact ⟨(_, _, _, _, _), rfl, rfl⟩
  · cases h
def qv_t (D T : LL) : Tr (Int) := (.ite ((qv_o3_1 D (0 : Int) T (T.length : Int) (0 : Int)) = true) (.ok (qv_u3_1 D (0 : Int) T (T.length : Int) (0 : Int)))
  .no)
def qv_mk (p : Int) : Res := [(false, [⟨.int .i64, .sh, TC.i p⟩])]
def qv_c (D T : LL) : Bool := (qv_o3_1 D (0 : Int) T (T.length : Int) (0 : Int))
def qv_v (D T : LL) : Int := (qv_u3_1 D (0 : Int) T (T.length : Int) (0 : Int))
theorem qv_l (D T : LL) : (qv_c D T) = true → (qv_t D T).val = some (qv_v D T) := by
  intro h
  have hc0 : (qv_o3_1 D (0 : Int) T (T.length : Int) (0 : Int)) = true := h
  unfold qv_t
  exact (Tr.t hc0 rfl)
def qv_S : List Arg → Option (Bool × Res) := fun xs => match xs with
  | [(false, [(.slice 2, TC.l D)]), (false, [(.slice 2, TC.l T)])] => some ((qv_c D T), qv_mk (qv_v D T))
  | _ => .none
theorem qv_e (D T : LL) : runF tab FT D28 live 116 qv_lo [(false, [(.slice 2, TC.l D)]), (false, [(.slice 2, TC.l T)])] = (qv_t D T).run fun p => some (qv_mk p) := by kernel_rfl
theorem qv_s : ∀ xs r, qv_S xs = some (true, r) → runF tab FT D28 live 116 qv_lo xs = some r := by
  intro xs r h
  unfold qv_S at h
  split at h
  · obtain ⟨h1, rfl⟩ := sp h
    exact fun_told (qv_e ..) (qv_l _ _) h1
  · cases h
def D29 : Dt := also D28 116 qv_S
theorem d29 : DOk Go.Proofs.Try.prog tab D29 := d28.also mixed_ok tab_ok names_ok (fnLoops_one (by kernel_rfl) qv_is3) qv_s
theorem qv_vv (D T : LL) : qv_v D T = indexN D T T.length := qv_R3_eq D T
def qh_f3 (C T : LL) (m i : Int) (X Y : LL) : (LL × LL) ⊕ ((LL × LL × LL)) := (.inl ((X ++ [[TC.i (IntKind.wrap .i64 (Int.tdiv ((nth (row T i) 0).int) ((nth (row C i) 0).int)))]]), (Y ++ [[TC.i (Int.tmod ((nth (row T i) 0).int) ((nth (row C i) 0).int))]])))
def qh_e3 (C T : LL) (m : Int) (X Y : LL) : (LL × LL × LL) := (C, X, Y)
def qh_R3 (C X Y T : LL) (m i : Int) : (LL × LL × LL) := iter (fun i a => (qh_f3 C T m (i : Int) (a.1) (a.2))) (fun a => (qh_e3 C T m (a.1) (a.2))) (T.length) 0 (X, Y)
abbrev qh_3_σ := LL × LL × LL × LL × Int × Int
abbrev qh_3_ω := (LL × LL × LL)
def qh_3_step (C X Y T : LL) (m i : Int) : Tr (qh_3_σ ⊕ qh_3_ω) := (.ite ((decide (i < m)) = true) (.ite ((0 : Int) ≤ i ∧ i < (T.length : Int)) (.ite ((0 : Int) ≤ i ∧ i < (C.length : Int)) (.ite ((nth (row C i) 0).int ≠ 0) (.ite (roomFor (tab 2) (X ++ [[TC.i (IntKind.wrap .i64 (Int.tdiv ((nth (row T i) 0).int) ((nth (row C i) 0).int)))]]).length) (.ite ((0 : Int) ≤ i ∧ i < (C.length : Int)) (.ite ((nth (row C i) 0).int ≠ 0) (.ite (roomFor (tab 2) (Y ++ [[TC.i (Int.tmod ((nth (row T i) 0).int) ((nth (row C i) 0).int))]]).length) (.ok (.inl (C, (X ++ [[TC.i (IntKind.wrap .i64 (Int.tdiv ((nth (row T i) 0).int) ((nth (row C i) 0).int)))]]), (Y ++ [[TC.i (Int.tmod ((nth (row T i) 0).int) ((nth (row C i) 0).int))]]), T, m, (IntKind.wrap .i64 (i + (1 : Int))))))
         .no)
        .no)
       .no)
      .no)
     .no)
    .no)
   .no)
  (.ok (.inr (C, X, Y))))
def qh_3_st : qh_3_σ → Tr (qh_3_σ ⊕ qh_3_ω) := fun x => (qh_3_step (x.1) (x.2.1) (x.2.2.1) (x.2.2.2.1) (x.2.2.2.2.1) (x.2.2.2.2.2))
def qh_o3_1 (C X Y T : LL) (m i : Int) : Bool := is (i = 0 ∧ Typed tab (.slice 2) (.l T) ∧ m = (T.length : Int) ∧ T.length = C.length ∧ (∀ j : Nat, j < C.length → (nth (row C (j : Int)) 0).int ≠ 0) ∧ X = [] ∧ Y = [])
def qh_u3_1_0 (C X Y T : LL) (m i : Int) : LL := (qh_R3 C X Y T m i).1
def qh_u3_1_1 (C X Y T : LL) (m i : Int) : LL := (qh_R3 C X Y T m i).2.1
def qh_u3_1_2 (C X Y T : LL) (m i : Int) : LL := (qh_R3 C X Y T m i).2.2
def qh_3_fin (C X Y T : LL) (m i : Int) : Told qh_3_ω := (.leaf (qh_o3_1 C X Y T m i) ((qh_u3_1_0 C X Y T m i), (qh_u3_1_1 C X Y T m i), (qh_u3_1_2 C X Y T m i)))
def qh_3_sl (x : qh_3_σ) : List Slot := [⟨.val false [⟨.slice 2, .sh, TC.l (x.1)⟩], ⟨0, 0⟩⟩, ⟨.val false [⟨.slice 2, .own true, TC.l (x.2.1)⟩], ⟨0, 0⟩⟩, ⟨.val false [⟨.slice 2, .own true, TC.l (x.2.2.1)⟩], ⟨0, 0⟩⟩, ⟨.val false [⟨.slice 2, .sh, TC.l (x.2.2.2.1)⟩], ⟨0, 0⟩⟩, ⟨.val false [⟨.int .i64, .sh, TC.i (x.2.2.2.2.1)⟩], ⟨0, 0⟩⟩, ⟨.val false [⟨.int .i64, .sh, TC.i (x.2.2.2.2.2)⟩], ⟨0, 0⟩⟩]
def qh_3_out : qh_3_ω → Ex × List Slot := (fun x => (.exit 0, [⟨.val false [⟨.slice 2, .sh, TC.l (x.1)⟩], ⟨0, 0⟩⟩, Slot.none, Slot.none, ⟨.val false [⟨.slice 2, .own true, TC.l (x.2.1)⟩], ⟨0, 0⟩⟩, ⟨.val false [⟨.slice 2, .own true, TC.l (x.2.2)⟩], ⟨0, 0⟩⟩]))
def qh_lo3 : List Slot → Option (Told (Ex × List Slot)) := fun s => match s with
  | [⟨.val false [⟨.slice 2, .sh, TC.l C⟩], ⟨0, 0⟩⟩, ⟨.val false [⟨.slice 2, .own true, TC.l X⟩], ⟨0, 0⟩⟩, ⟨.val false [⟨.slice 2, .own true, TC.l Y⟩], ⟨0, 0⟩⟩, ⟨.val false [⟨.slice 2, .sh, TC.l T⟩], ⟨0, 0⟩⟩, ⟨.val false [⟨.int .i64, .sh, TC.i m⟩], ⟨0, 0⟩⟩, ⟨.val false [⟨.int .i64, .sh, TC.i i⟩], ⟨0, 0⟩⟩] => some (((qh_3_fin C X Y T m i)).map qh_3_out)
  | _ => .none
def qh_lo : LoopTeller := fun r s => bif Nat.beq r 3 then qh_lo3 s else .none
theorem qh_3_r (C X Y T : LL) (m i : Int) (fuel : Nat) : rounds (rnd tab FT D29 live 77 qh_lo 0 3) leave (fuel + 1) (qh_3_sl (C, X, Y, T, m, i)) = ((qh_3_step C X Y T m i)).run (goOn (fun s => rounds (rnd tab FT D29 live 77 qh_lo 0 3) leave fuel (qh_3_sl s)) fun w => some (qh_3_out w)) := by kernel_rfl
theorem qh_R3_eq (C T : LL) : qh_R3 C [] [] T (T.length : Int) 0 = (C, (divs C T T.length).1, (divs C T T.length).2) := by
  unfold qh_R3
  exact iter_each (g := divStep C T) (fin := fun a => qh_e3 C T (T.length : Int) a.1 a.2) fun j a hj => rfl
theorem qh_u3_0 (C T : LL) : qh_u3_1_0 C [] [] T (T.length : Int) 0 = C := by
  unfold qh_u3_1_0
  rw [qh_R3_eq]
theorem qh_u3_1 (C T : LL) : qh_u3_1_1 C [] [] T (T.length : Int) 0 = (divs C T T.length).1 := by
  unfold qh_u3_1_1
  rw [qh_R3_eq]
theorem qh_u3_2 (C T : LL) : qh_u3_1_2 C [] [] T (T.length : Int) 0 = (divs C T T.length).2 := by
  unfold qh_u3_1_2
  rw [qh_R3_eq]
theorem qh_3_h (C X Y T : LL) (m i : Int) (ow : qh_3_ω) : ((qh_3_fin C X Y T m i)).val = some ow → ∃ fuel, loopN qh_3_st fuel (C, X, Y, T, m, i) = some ow := by
  refine auto_leaf (R := (qh_R3 C X Y T m i)) ?_
  intro ho
  have ho : is (i = 0 ∧ Typed tab (.slice 2) (.l T) ∧ m = (T.length : Int) ∧ T.length = C.length ∧ (∀ j : Nat, j < C.length → (nth (row C (j : Int)) 0).int ≠ 0) ∧ X = [] ∧ Y = []) = true := ho
  obtain ⟨rfl, ht, rfl, hl, hz, rfl, rfl⟩ := is_iff.1 ho
  have hlen : T.length ≤ 140737488351232 := by have := typed_room ht; simp only [show (tab 2).bytes = 8 from rfl] at this; omega
  refine ⟨(T.length) + 1, ?_⟩
  refine iter_loop (step := qh_3_st) (a := (([] : LL), ([] : LL))) (T.length) (fun i a => (qh_f3 C T (T.length : Int) (i : Int) (a.1) (a.2))) (fun a => (qh_e3 C T (T.length : Int) (a.1) (a.2))) (fun i a => (C, a.1, a.2, T, (T.length : Int), (i : Int))) (fun i (a : LL × LL) => a.1.length = i ∧ a.2.length = i) ⟨rfl, rfl⟩ (fun i a hi hI => ⟨?_, fun a' h => by
    unfold qh_f3 at h
    cases h
    simp only [List.length_append, List.length_singleton]
    omega⟩) (fun a hI => ?_)
  · show (qh_3_step C (a.1) (a.2) T (T.length : Int) (i : Int)).val = _
    unfold qh_3_step qh_f3
    skip
    refine Tr.t (by simp; omega) ?_
    exact (Tr.t (by first | omega | (constructor <;> omega) | (exact hz i (by omega)) | (unfold roomFor; simp only [show (tab 2).bytes = 8 from rfl, List.length_append, List.length_singleton]; have hI := hI; have hlen8 : T.length ≤ 17592186043904 := (by have := typed_room ht; simp only [show (tab 2).bytes = 8 from rfl] at this; omega); omega)) (Tr.t (by first | omega | (constructor <;> omega) | (exact hz i (by omega)) | (unfold roomFor; simp only [show (tab 2).bytes = 8 from rfl, List.length_append, List.length_singleton]; have hI := hI; have hlen8 : T.length ≤ 17592186043904 := (by have := typed_room ht; simp only [show (tab 2).bytes = 8 from rfl] at this; omega); omega)) (Tr.t (by first | omega | (constructor <;> omega) | (exact hz i (by omega)) | (unfold roomFor; simp only [show (tab 2).bytes = 8 from rfl, List.length_append, List.length_singleton]; have hI := hI; have hlen8 : T.length ≤ 17592186043904 := (by have := typed_room ht; simp only [show (tab 2).bytes = 8 from rfl] at this; omega); omega)) (Tr.t (by first | omega | (constructor <;> omega) | (exact hz i (by omega)) | (unfold roomFor; simp only [show (tab 2).bytes = 8 from rfl, List.length_append, List.length_singleton]; have hI := hI; have hlen8 : T.length ≤ 17592186043904 := (by have := typed_room ht; simp only [show (tab 2).bytes = 8 from rfl] at this; omega); omega)) (Tr.t (by first | omega | (constructor <;> omega) | (exact hz i (by omega)) | (unfold roomFor; simp only [show (tab 2).bytes = 8 from rfl, List.length_append, List.length_singleton]; have hI := hI; have hlen8 : T.length ≤ 17592186043904 := (by have := typed_room ht; simp only [show (tab 2).bytes = 8 from rfl] at this; omega); omega)) (Tr.t (by first | omega | (constructor <;> omega) | (exact hz i (by omega)) | (unfold roomFor; simp only [show (tab 2).bytes = 8 from rfl, List.length_append, List.length_singleton]; have hI := hI; have hlen8 : T.length ≤ 17592186043904 := (by have := typed_room ht; simp only [show (tab 2).bytes = 8 from rfl] at this; omega); omega)) (Tr.t (by first | omega | (constructor <;> omega) | (exact hz i (by omega)) | (unfold roomFor; simp only [show (tab 2).bytes = 8 from rfl, List.length_append, List.length_singleton]; have hI := hI; have hlen8 : T.length ≤ 17592186043904 := (by have := typed_room ht; simp only [show (tab 2).bytes = 8 from rfl] at this; omega); omega)) (by rw [Tr.val_ok, wrap64 (i := (i : Int) + 1) (by omega) (by omega)]; rfl))))))))
  · show (qh_3_step C (a.1) (a.2) T (T.length : Int) (T.length : Int)).val = _
    refine Tr.n (by first | (simp; done) | (simp; omega) | omega) ?_
    rfl
theorem qh_is3 : LoopIs tab FT D29 live 77 qh_lo 0 3 := by
  refine loop_told (sl := qh_3_sl) (step := qh_3_st) (out := qh_3_out) (lor := qh_lo3) (fin := fun x => (qh_3_fin (x.1) (x.2.1) (x.2.2.1) (x.2.2.2.1) (x.2.2.2.2.1) (x.2.2.2.2.2))) (fun _ => rfl) ?_ (fun x n => qh_3_r x.1 x.2.1 x.2.2.1 x.2.2.2.1 x.2.2.2.2.1 x.2.2.2.2.2 n) (fun x ow => qh_3_h x.1 x.2.1 x.2.2.1 x.2.2.2.1 x.2.2.2.2.1 x.2.2.2.2.2 ow)
  intro s t h
  unfold qh_lo3 at h
  split at h
  · cases h; exact ⟨(_, _, _, _, _, _), rfl, rfl⟩
  · cases h
def qh_t (C T : LL) : Tr (Int × Int) := (.ite ((qh_o3_1 C [] [] T (T.length : Int) (0 : Int)) = true) (.ite ((qz_c (qh_u3_1_1 C [] [] T (T.length : Int) (0 : Int))) = true) (.ite ((qv_c (qh_u3_1_0 C [] [] T (T.length : Int) (0 : Int)) (qh_u3_1_2 C [] [] T (T.length : Int) (0 : Int))) = true) (.ok ((qz_v (qh_u3_1_1 C [] [] T (T.length : Int) (0 : Int))), (qv_v (qh_u3_1_0 C [] [] T (T.length : Int) (0 : Int)) (qh_u3_1_2 C [] [] T (T.length : Int) (0 : Int)))))
    .no)
   .no)
  .no)
def qh_mk (p : Int × Int) : Res := [(false, [⟨.int .i64, .sh, TC.i (p.1)⟩]), (false, [⟨.int .i64, .sh, TC.i (p.2)⟩])]
def qh_c (C T : LL) : Bool := ((qh_o3_1 C [] [] T (T.length : Int) (0 : Int)) && ((qz_c (qh_u3_1_1 C [] [] T (T.length : Int) (0 : Int))) && ((qv_c (qh_u3_1_0 C [] [] T (T.length : Int) (0 : Int)) (qh_u3_1_2 C [] [] T (T.length : Int) (0 : Int))) && true)))
def qh_v (C T : LL) : Int × Int := ((qz_v (qh_u3_1_1 C [] [] T (T.length : Int) (0 : Int))), (qv_v (qh_u3_1_0 C [] [] T (T.length : Int) (0 : Int)) (qh_u3_1_2 C [] [] T (T.length : Int) (0 : Int))))
theorem qh_l (C T : LL) : (qh_c C T) = true → (qh_t C T).val = some (qh_v C T) := by
  unfold qh_t qh_v qh_c
  exact fun h => (Tr.gb h fun h => (Tr.gb h fun h => (Tr.gb h fun h => rfl)))
def qh_S : List Arg → Option (Bool × Res) := fun xs => match xs with
  | [(false, [(.slice 2, TC.l C)]), (false, [(.slice 2, TC.l T)])] => some ((qh_c C T), qh_mk (qh_v C T))
  | _ => .none
theorem qh_e (C T : LL) : runF tab FT D29 live 77 qh_lo [(false, [(.slice 2, TC.l C)]), (false, [(.slice 2, TC.l T)])] = (qh_t C T).run fun p => some (qh_mk p) := by kernel_rfl
theorem qh_s : ∀ xs r, qh_S xs = some (true, r) → runF tab FT D29 live 77 qh_lo xs = some r := by
  intro xs r h
  unfold qh_S at h
  split at h
  · obtain ⟨h1, rfl⟩ := sp h
    exact fun_told (qh_e ..) (qh_l _ _) h1
  · cases h
def D30 : Dt := also D29 77 qh_S
theorem d30 : DOk Go.Proofs.Try.prog tab D30 := d29.also mixed_ok tab_ok names_ok (fnLoops_one (by kernel_rfl) qh_is3) qh_s
theorem qh_cc {C : LL} {T : LL} (hT : Typed tab (.slice 2) (.l T)) (hl : T.length = C.length) (hz : ∀ j : Nat, j < C.length → (nth (row C (j : Int)) 0).int ≠ 0) : (qh_c C T) = true := by
  unfold qh_c
  refine andT (by exact is_true ⟨rfl, hT, rfl, hl, hz, rfl, rfl⟩) ?_
  refine andT (by rw [qh_u3_1]; have hlen := typed_room hT; simp only [show (tab 2).bytes = 8 from rfl] at hlen; exact is_true ⟨rfl, rfl, by rw [divs_len.1]; omega, rfl⟩) ?_
  refine andT (by rw [qh_u3_0, qh_u3_2]; have hlen := typed_room hT; simp only [show (tab 2).bytes = 8 from rfl] at hlen; exact is_true ⟨rfl, rfl, by first | (rw [divs_len.2]; omega) | omega, rfl, by rw [divs_len.2]; omega⟩) ?_
  rfl
theorem qh_vv (C T : LL) (hl : T.length = C.length) : qh_v C T = (keyL (divs C T T.length).1, indexN C (divs C T T.length).2 T.length) := by
  unfold qh_v
  rw [qh_u3_0, qh_u3_1, qh_u3_2, qz_vv, qv_vv]
  rw [divs_len.2]
def qn_f4 (D T : LL) (m i : Int) : (Unit) ⊕ ((Unit) ⊕ (Unit)) := (bif (!(qbh_v ((nth (row T i) 0).int) (0 : Int) (IntKind.wrap .i64 ((nth (row D i) 0).int - (1 : Int))))) then (.inr (.inl ())) else (.inl ()))
def qn_e4 (D T : LL) (m : Int) : (Unit) ⊕ (Unit) := .inr ()
def qn_R4 (D T : LL) (m i : Int) : (Unit) ⊕ (Unit) := iter (fun i a => (qn_f4 D T m (i : Int))) (fun a => (qn_e4 D T m)) (T.length) 0 ()
abbrev qn_4_σ := LL × LL × Int × Int
abbrev qn_4_ω := (Unit) ⊕ (Unit)
def qn_4_step (D T : LL) (m i : Int) : Tr (qn_4_σ ⊕ qn_4_ω) := (.ite ((decide (i < m)) = true) (.ite ((0 : Int) ≤ i ∧ i < (T.length : Int)) (.ite ((0 : Int) ≤ i ∧ i < (D.length : Int)) (.ite ((!(qbh_v ((nth (row T i) 0).int) (0 : Int) (IntKind.wrap .i64 ((nth (row D i) 0).int - (1 : Int))))) = true) (.ok (.inr (.inl ())))
     (.ok (.inl (D, T, m, (IntKind.wrap .i64 (i + (1 : Int)))))))
    .no)
   .no)
  (.ok (.inr (.inr ()))))
def qn_4_st : qn_4_σ → Tr (qn_4_σ ⊕ qn_4_ω) := fun x => (qn_4_step (x.1) (x.2.1) (x.2.2.1) (x.2.2.2))
def qn_k4_1 (D T : LL) (m i : Int) : Bool := sumIs (qn_R4 D T m i)
def qn_o4_2 (D T : LL) (m i : Int) : Bool := is (i = 0 ∧ Typed tab (.slice 2) (.l T) ∧ m = (T.length : Int) ∧ D.length = T.length)
def qn_o4_3 (D T : LL) (m i : Int) : Bool := is (i = 0 ∧ Typed tab (.slice 2) (.l T) ∧ m = (T.length : Int) ∧ D.length = T.length)
def qn_4_fin (D T : LL) (m i : Int) : Told qn_4_ω := (.br (qn_k4_1 D T m i) (.leaf (qn_o4_2 D T m i) (.inl ())) (.leaf (qn_o4_3 D T m i) (.inr ())))
def qn_4_sl (x : qn_4_σ) : List Slot := [⟨.val false [⟨.slice 2, .sh, TC.l (x.1)⟩], ⟨0, 0⟩⟩, ⟨.val false [⟨.slice 2, .sh, TC.l (x.2.1)⟩], ⟨0, 0⟩⟩, ⟨.val false [⟨.int .i64, .sh, TC.i (x.2.2.1)⟩], ⟨0, 0⟩⟩, ⟨.val false [⟨.int .i64, .sh, TC.i (x.2.2.2)⟩], ⟨0, 0⟩⟩]
def qn_4_out : qn_4_ω → Ex × List Slot := (Sum.elim (fun x => (.ret, [⟨.val false [⟨.bool, .sh, TC.b false⟩], ⟨0, 0⟩⟩])) (fun x => (.exit 0, [Slot.none])))
def qn_lo4 : List Slot → Option (Told (Ex × List Slot)) := fun s => match s with
  | [⟨.val false [⟨.slice 2, .sh, TC.l D⟩], ⟨0, 0⟩⟩, ⟨.val false [⟨.slice 2, .sh, TC.l T⟩], ⟨0, 0⟩⟩, ⟨.val false [⟨.int .i64, .sh, TC.i m⟩], ⟨0, 0⟩⟩, ⟨.val false [⟨.int .i64, .sh, TC.i i⟩], ⟨0, 0⟩⟩] => some (((qn_4_fin D T m i)).map qn_4_out)
  | _ => .none
def qn_lo : LoopTeller := fun r s => bif Nat.beq r 4 then qn_lo4 s else .none
theorem qn_4_r (D T : LL) (m i : Int) (fuel : Nat) : rounds (rnd tab FT D30 live 76 qn_lo 0 4) leave (fuel + 1) (qn_4_sl (D, T, m, i)) = ((qn_4_step D T m i)).run (goOn (fun s => rounds (rnd tab FT D30 live 76 qn_lo 0 4) leave fuel (qn_4_sl s)) fun w => some (qn_4_out w)) := by kernel_rfl
theorem qn_f4_eq (D T : LL) (m i : Int) : qn_f4 D T m i = bif insB D T i then Sum.inl () else Sum.inr (Sum.inl ()) := by
  unfold qn_f4
  rw [show qbh_v ((nth (row T i) 0).int) 0 (IntKind.wrap .i64 ((nth (row D i) 0).int - (1 : Int))) = insB D T i from rfl]
  generalize insB D T i = p0
  cases p0 <;> rfl
theorem qn_R4_eq (D T : LL) (m : Int)  : qn_R4 D T m 0 = bif allI (fun i : Nat => insB D T (i : Int)) (T.length) then Sum.inr () else (Sum.inl ()) := by
  unfold qn_R4
  exact (iter_all (P := (fun i : Nat => insB D T (i : Int))) (g := fun _ a => a) (w := Sum.inl ()) fun j a _ => qn_f4_eq D T m _)
theorem qn_4_h (D T : LL) (m i : Int) (ow : qn_4_ω) : ((qn_4_fin D T m i)).val = some ow → ∃ fuel, loopN qn_4_st fuel (D, T, m, i) = some ow := by
  refine auto_const (R := (qn_R4 D T m i)) rfl (iter_onR (f := (fun i a => (qn_f4 D T m (i : Int)))) (fin := (fun a => (qn_e4 D T m))) (Q := endsAs () ()) (fun i a => by unfold qn_f4; exact (onR_bif rfl trivial)) (fun _ => rfl) _ _ _) ?_
  intro ho
  have ho : is (i = 0 ∧ Typed tab (.slice 2) (.l T) ∧ m = (T.length : Int) ∧ D.length = T.length) = true := ho.elim id id
  obtain ⟨rfl, ht, rfl, hl⟩ := is_iff.1 ho
  have hlen : T.length ≤ 140737488351232 := by have := typed_room ht; simp only [show (tab 2).bytes = 8 from rfl] at this; omega
  refine ⟨(T.length) + 1, ?_⟩
  refine iter_loop (step := qn_4_st) (T.length) (fun i a => (qn_f4 D T (T.length : Int) (i : Int))) (fun a => (qn_e4 D T (T.length : Int))) (fun i a => (D, T, (T.length : Int), (i : Int))) (fun _ _ => True) trivial (fun i a hi hI => ⟨?_, fun _ _ => trivial⟩) (fun a hI => ?_)
  · show (qn_4_step D T (T.length : Int) (i : Int)).val = _
    unfold qn_4_step qn_f4
    skip
    refine Tr.t (by simp; omega) ?_
    exact (Tr.t (by first | omega | (constructor <;> omega)) (Tr.t (by first | omega | (constructor <;> omega)) (Tr.bf rfl (by rw [Tr.val_ok, wrap64 (i := (i : Int) + 1) (by omega) (by omega)]; rfl))))
  · show (qn_4_step D T (T.length : Int) (T.length : Int)).val = _
    refine Tr.n (by first | (simp; done) | (simp; omega) | omega) ?_
    rfl
theorem qn_is4 : LoopIs tab FT D30 live 76 qn_lo 0 4 := by
  refine loop_told (sl := qn_4_sl) (step := qn_4_st) (out := qn_4_out) (lor := qn_lo4) (fin := fun x => (qn_4_fin (x.1) (x.2.1) (x.2.2.1) (x.2.2.2))) (fun _ => rfl) ?_ (fun x n => qn_4_r x.1 x.2.1 x.2.2.1 x.2.2.2 n) (fun x ow => qn_4_h x.1 x.2.1 x.2.2.1 x.2.2.2 ow)
  intro s t h
  unfold qn_lo4 at h
  split at h
  · cases h; exact ⟨(_, _, _, _), rfl, rfl⟩
  · cases h
def qn_t (D T : LL) : Tr (Bool) := (.ite ((!((T.length : Int) == (D.length : Int))) = true) (.ok false)
  (.ite ((qn_k4_1 D T (T.length : Int) (0 : Int)) = true) (.ite ((qn_o4_2 D T (T.length : Int) (0 : Int)) = true) (.ok false)
    .no)
   (.ite ((qn_o4_3 D T (T.length : Int) (0 : Int)) = true) (.ok true)
    .no)))
def qn_mk (p : Bool) : Res := [(false, [⟨.bool, .sh, TC.b p⟩])]
def qn_c (D T : LL) : Bool := (bif (!((T.length : Int) == (D.length : Int))) then true else (bif (qn_k4_1 D T (T.length : Int) (0 : Int)) then ((qn_o4_2 D T (T.length : Int) (0 : Int)) && true) else ((qn_o4_3 D T (T.length : Int) (0 : Int)) && true)))
def qn_v (D T : LL) : Bool := (bif (!((T.length : Int) == (D.length : Int))) then false else (bif (qn_k4_1 D T (T.length : Int) (0 : Int)) then false else true))
theorem qn_l (D T : LL) : (qn_c D T) = true → (qn_t D T).val = some (qn_v D T) := by
  unfold qn_t qn_v qn_c
  exact fun h => (Tr.ss h (fun h => rfl) (fun h => (Tr.ss h (fun h => (Tr.gb h fun h => rfl)) (fun h => (Tr.gb h fun h => rfl)))))
def qn_S : List Arg → Option (Bool × Res) := fun xs => match xs with
  | [(false, [(.slice 2, TC.l D)]), (false, [(.slice 2, TC.l T)])] => some ((qn_c D T), qn_mk (qn_v D T))
  | _ => .none
theorem qn_e (D T : LL) : runF tab FT D30 live 76 qn_lo [(false, [(.slice 2, TC.l D)]), (false, [(.slice 2, TC.l T)])] = (qn_t D T).run fun p => some (qn_mk p) := by kernel_rfl
theorem qn_s : ∀ xs r, qn_S xs = some (true, r) → runF tab FT D30 live 76 qn_lo xs = some r := by
  intro xs r h
  unfold qn_S at h
  split at h
  · obtain ⟨h1, rfl⟩ := sp h
    exact fun_told (qn_e ..) (qn_l _ _) h1
  · cases h
def D31 : Dt := also D30 76 qn_S
theorem d31 : DOk Go.Proofs.Try.prog tab D31 := d30.also mixed_ok tab_ok names_ok (fnLoops_one (by kernel_rfl) qn_is4) qn_s
theorem qn_cc {D : LL} {T : LL} (hT : Typed tab (.slice 2) (.l T)) : (qn_c D T) = true := by
  unfold qn_c
  refine bifT (fun b1 => ?_) (fun b1 => ?_)
  · skip
    rfl
  · skip
    refine bifT (fun b2 => ?_) (fun b2 => ?_)
    · skip
      refine andT (by exact is_true ⟨rfl, hT, rfl, lenEq b1⟩) ?_
      rfl
    · skip
      refine andT (by exact is_true ⟨rfl, hT, rfl, lenEq b1⟩) ?_
      rfl
theorem qn_vv (D T : LL) : qn_v D T = insideOk D T := by
  unfold qn_v qn_k4_1
  rw [qn_R4_eq]
  unfold insideOk
  cases ((T.length : Int) == (D.length : Int)) <;> cases allI (fun i : Nat => insB D T (i : Int)) T.length <;> rfl
def qbg_c (A : LL) : Bool := is (A.length ≤ 140737488355328)
def qbg_v (A : LL) : LL := rowsOf TC.i ((elems TC.int A).mergeSort fun x y => decide (x ≤ y))
def qbg_mk (p : LL) : Res := [(true, [⟨.slice 2, .own true, TC.l p⟩])]
def qbg_S : List Arg → Option (Bool × Res) := fun xs => match xs with
  | [(false, [(.slice 2, TC.l A)])] => some ((qbg_c A), qbg_mk (qbg_v A))
  | _ => .none
def D32 : Dt := alsoW D31 107 qbg_S
theorem d32 : DOk Go.Proofs.Try.prog tab D32 := d31.alsoWC names_ok (c := _) Go.Proofs.Try.func107 rfl (by
  intro xs r0 h a0 ys gg ds r e1 e2 w S us fp vals hF h0 hn hargs
  unfold qbg_S at h
  split at h
  · rename_i A
    simp only [Option.some.injEq, Prod.mk.injEq] at h
    obtain ⟨h1, h2⟩ := h
    unfold qbg_mk at h2
    subst h2
    cases e1
    cases e2
    cases args_nil hargs
    exact sort_own (enc_int (show (tab 2).cts = [.int .i64] from rfl)) (fun p cap w => Go.Proofs.AnyG.slices_Sort_int_none lays53 p cap w) (fun blk off cap zs w hH hb hl => Go.Proofs.AnyG.slices_Sort_int lays53 blk off cap zs w hH hb hl) hn h0 (is_iff.1 h1)
  · cases h)
abbrev qb_3_σ := LL × LL × LL × Int × LL × Int × Int
abbrev qb_3_ω := (LL)
def qb_3_step (D F C : LL) (q : Int) (X : LL) (m i : Int) : Tr (qb_3_σ ⊕ qb_3_ω) := (.ite ((decide (i < m)) = true) (.ite ((qbk_c D i) = true) (.ite ((qh_c C (qbk_v D i)) = true) (.ite (((qh_v C (qbk_v D i)).1 == q) = true) (.ite ((qn_c F (qbk_v D i)) = true) (.ite ((!(qn_v F (qbk_v D i))) = true) (.ite (roomFor (tab 2) (X ++ [[TC.i ((qh_v C (qbk_v D i)).2)]]).length) (.ok (.inl (D, F, C, q, (X ++ [[TC.i ((qh_v C (qbk_v D i)).2)]]), m, (IntKind.wrap .i64 (i + (1 : Int))))))
        .no)
       (.ok (.inl (D, F, C, q, X, m, (IntKind.wrap .i64 (i + (1 : Int)))))))
      .no)
     (.ok (.inl (D, F, C, q, X, m, (IntKind.wrap .i64 (i + (1 : Int)))))))
    .no)
   .no)
  (.ok (.inr X)))
def qb_3_st : qb_3_σ → Tr (qb_3_σ ⊕ qb_3_ω) := fun x => (qb_3_step (x.1) (x.2.1) (x.2.2.1) (x.2.2.2.1) (x.2.2.2.2.1) (x.2.2.2.2.2.1) (x.2.2.2.2.2.2))
def qb_o3_1 (D F C : LL) (q : Int) (X : LL) (m i : Int) : Bool := is (X = [] ∧ i = 0 ∧ m = prodL D ∧ Typed tab (.slice 2) (.l D) ∧ chunkOk D C = true ∧ chunkOk F C = true)
def qb_u3_1 (D F C : LL) (q : Int) (X : LL) (m i : Int) : LL := elI D F C q m.toNat
def qb_3_fin (D F C : LL) (q : Int) (X : LL) (m i : Int) : Told qb_3_ω := (.leaf (qb_o3_1 D F C q X m i) (qb_u3_1 D F C q X m i))
def qb_3_sl (x : qb_3_σ) : List Slot := [⟨.val false [⟨.slice 2, .sh, TC.l (x.1)⟩], ⟨0, 0⟩⟩, ⟨.val false [⟨.slice 2, .sh, TC.l (x.2.1)⟩], ⟨0, 0⟩⟩, ⟨.val false [⟨.slice 2, .sh, TC.l (x.2.2.1)⟩], ⟨0, 0⟩⟩, ⟨.val false [⟨.int .i64, .sh, TC.i (x.2.2.2.1)⟩], ⟨0, 0⟩⟩, ⟨.val false [⟨.slice 2, .own true, TC.l (x.2.2.2.2.1)⟩], ⟨0, 0⟩⟩, ⟨.val false [⟨.int .i64, .sh, TC.i (x.2.2.2.2.2.1)⟩], ⟨0, 0⟩⟩, ⟨.val false [⟨.int .i64, .sh, TC.i (x.2.2.2.2.2.2)⟩], ⟨0, 0⟩⟩]
def qb_3_out : qb_3_ω → Ex × List Slot := (fun x => (.exit 0, [Slot.none, ⟨.val false [⟨.slice 2, .own true, TC.l x⟩], ⟨0, 0⟩⟩]))
def qb_lo3 : List Slot → Option (Told (Ex × List Slot)) := fun s => match s with
  | [⟨.val false [⟨.slice 2, .sh, TC.l D⟩], ⟨0, 0⟩⟩, ⟨.val false [⟨.slice 2, .sh, TC.l F⟩], ⟨0, 0⟩⟩, ⟨.val false [⟨.slice 2, .sh, TC.l C⟩], ⟨0, 0⟩⟩, ⟨.val false [⟨.int .i64, .sh, TC.i q⟩], ⟨0, 0⟩⟩, ⟨.val false [⟨.slice 2, .own true, TC.l X⟩], ⟨0, 0⟩⟩, ⟨.val false [⟨.int .i64, .sh, TC.i m⟩], ⟨0, 0⟩⟩, ⟨.val false [⟨.int .i64, .sh, TC.i i⟩], ⟨0, 0⟩⟩] => some (((qb_3_fin D F C q X m i)).map qb_3_out)
  | _ => .none
def qb_lo : LoopTeller := fun r s => bif Nat.beq r 3 then qb_lo3 s else .none
theorem qb_3_r (D F C : LL) (q : Int) (X : LL) (m i : Int) (fuel : Nat) : rounds (rnd tab FT D32 live 60 qb_lo 0 3) leave (fuel + 1) (qb_3_sl (D, F, C, q, X, m, i)) = ((qb_3_step D F C q X m i)).run (goOn (fun s => rounds (rnd tab FT D32 live 60 qb_lo 0 3) leave fuel (qb_3_sl s)) fun w => some (qb_3_out w)) := by kernel_rfl
theorem qb_3_h (D F C : LL) (q : Int) (X : LL) (m i : Int) (ow : qb_3_ω) : ((qb_3_fin D F C q X m i)).val = some ow → ∃ fuel, loopN qb_3_st fuel (D, F, C, q, X, m, i) = some ow := by
  intro h
  refine auto_leaf (R := elI D F C q m.toNat) (fun ho => ?_) h
  obtain ⟨rfl, rfl, rfl, hD, hk, hF⟩ := is_iff.1 ho
  have k := chunkOk_ck hk
  have kF := chunkOk_ck hF
  have hp6 : prodL D ≤ 64000 := by rw [k.pd]; exact (prodN_le k.dd k.r3 _ (Nat.le_refl _)).2
  have hp0 : 0 ≤ prodL D := by rw [k.pd]; exact (prodN_le k.dd k.r3 _ (Nat.le_refl _)).1
  obtain ⟨M, hM⟩ := Int.eq_ofNat_of_zero_le hp0
  have key := loopN_run (step := qb_3_st) (N := M) (fun j => (D, F, C, q, elI D F C q j, prodL D, (j : Int))) (w := elI D F C q M) (fun j hj => ?_) ?_ M 0 (by omega)
  · rw [hM, Int.toNat_natCast]
    rw [hM] at key
    exact ⟨_, key⟩
  · show (qb_3_step D F C q (elI D F C q j) (prodL D) (j : Int)).val = _
    unfold qb_3_step
    have hj' : (j : Int) < prodL D := by omega
    have hz := k.dpos (by omega)
    have hc := k.crd hj'
    have hT := coordsV_ty k.r3 hc fun j hj => (k.dd j hj).2
    have hl := elI_len (D := D) (F := F) (C := C) (q := q) (n := j)
    have hTl : (coordsV D (j : Int)).length = C.length := by rw [coordsV_len]; exact k.len
    have e1 : (qh_v C (coordsV D (j : Int))).1 = keyL (divs C (coordsV D (j : Int)) (coordsV D (j : Int)).length).1 := by rw [qh_vv C _ hTl]
    have e2 : (qh_v C (coordsV D (j : Int))).2 = elN D C j := by rw [qh_vv C _ hTl]; rfl
    rw [show qbk_v D (j : Int) = coordsV D (j : Int) from rfl, e1, e2, qn_vv]
    refine Tr.t (by simp; omega) (Tr.t (is_true ⟨hD, fun j hj => by have := hz j hj; have e : dimD D j = (nth (D.getD j []) 0).int := rfl; omega⟩) (Tr.t (qh_cc hT hTl fun j hj => by
      have := k.cc j hj
      have e : dimD C j = (nth (row C (j : Int)) 0).int := rfl
      omega) ?_))
    have hs := elI_succ (D := D) (F := F) (C := C) (q := q) (n := j)
    have hw : IntKind.wrap .i64 ((j : Int) + 1) = ((j + 1 : Nat) : Int) := by rw [wrap64 (by omega) (by omega)]; rfl
    rw [hw]
    unfold elP at hs
    cases h1 : (keyL (divs C (coordsV D (j : Int)) (coordsV D (j : Int)).length).1 == q) with
    | false =>
      rw [h1, Bool.false_and, if_neg (by simp)] at hs
      refine Tr.n (by simp) ?_
      rw [hs]; rfl
    | true =>
      rw [h1, Bool.true_and] at hs
      refine Tr.t rfl (Tr.t (qn_cc hT) ?_)
      cases h2 : insideOk F (coordsV D (j : Int)) with
      | true =>
        rw [h2, if_neg (show ¬ (!true) = true by simp)] at hs
        refine Tr.n (by simp) ?_
        rw [hs]; rfl
      | false =>
        rw [h2, if_pos (show (!false) = true from rfl)] at hs
        refine Tr.t rfl (Tr.t (by unfold roomFor; simp only [show (tab 2).bytes = 8 from rfl, List.length_append, List.length_singleton]; omega) ?_)
        rw [hs]; rfl
  · show (qb_3_step D F C q (elI D F C q M) (prodL D) (M : Int)).val = _
    unfold qb_3_step
    refine Tr.n (by simp; omega) ?_
    rfl
theorem qb_is3 : LoopIs tab FT D32 live 60 qb_lo 0 3 := by
  refine loop_told (sl := qb_3_sl) (step := qb_3_st) (out := qb_3_out) (lor := qb_lo3) (fin := fun x => (qb_3_fin (x.1) (x.2.1) (x.2.2.1) (x.2.2.2.1) (x.2.2.2.2.1) (x.2.2.2.2.2.1) (x.2.2.2.2.2.2))) (fun _ => rfl) ?_ (fun x n => qb_3_r x.1 x.2.1 x.2.2.1 x.2.2.2.1 x.2.2.2.2.1 x.2.2.2.2.2.1 x.2.2.2.2.2.2 n) (fun x ow => qb_3_h x.1 x.2.1 x.2.2.1 x.2.2.2.1 x.2.2.2.2.1 x.2.2.2.2.2.1 x.2.2.2.2.2.2 ow)
  intro s t h
  unfold qb_lo3 at h
  split at h
  · cases h; exact ⟨(_, _, _, _, _, _, _), rfl, rfl⟩
  · cases h
def qb_t (D F C : LL) (q : Int) : Tr (LL) := (.ite ((qt_c D) = true) (.ite ((qb_o3_1 D F C q [] (qt_v D) (0 : Int)) = true) (.ite ((qbg_c (qb_u3_1 D F C q [] (qt_v D) (0 : Int))) = true) (.ok (qbg_v (qb_u3_1 D F C q [] (qt_v D) (0 : Int))))
    .no)
   .no)
  .no)
def qb_mk (p : LL) : Res := [(false, [⟨.slice 2, .own true, TC.l p⟩])]
def qb_c (D F C : LL) (q : Int) : Bool := ((qt_c D) && ((qb_o3_1 D F C q [] (qt_v D) (0 : Int)) && ((qbg_c (qb_u3_1 D F C q [] (qt_v D) (0 : Int))) && true)))
def qb_v (D F C : LL) (q : Int) : LL := (qbg_v (qb_u3_1 D F C q [] (qt_v D) (0 : Int)))
theorem qb_l (D F C : LL) (q : Int) : (qb_c D F C q) = true → (qb_t D F C q).val = some (qb_v D F C q) := by
  unfold qb_t qb_v qb_c
  exact fun h => (Tr.gb h fun h => (Tr.gb h fun h => (Tr.gb h fun h => rfl)))
def qb_S : List Arg → Option (Bool × Res) := fun xs => match xs with
  | [(false, [(.slice 2, TC.l D)]), (false, [(.slice 2, TC.l F)]), (false, [(.slice 2, TC.l C)]), (false, [(.int .i64, TC.i q)])] => some ((qb_c D F C q), qb_mk (qb_v D F C q))
  | _ => .none
theorem qb_e (D F C : LL) (q : Int) : runF tab FT D32 live 60 qb_lo [(false, [(.slice 2, TC.l D)]), (false, [(.slice 2, TC.l F)]), (false, [(.slice 2, TC.l C)]), (false, [(.int .i64, TC.i q)])] = (qb_t D F C q).run fun p => some (qb_mk p) := by kernel_rfl
theorem qb_s : ∀ xs r, qb_S xs = some (true, r) → runF tab FT D32 live 60 qb_lo xs = some r := by
  intro xs r h
  unfold qb_S at h
  split at h
  · obtain ⟨h1, rfl⟩ := sp h
    exact fun_told (qb_e ..) (qb_l _ _ _ _) h1
  · cases h
def D33 : Dt := also D32 60 qb_S
theorem d33 : DOk Go.Proofs.Try.prog tab D33 := d32.also mixed_ok tab_ok names_ok (fnLoops_one (by kernel_rfl) qb_is3) qb_s
theorem qb_cc {D : LL} {F : LL} {C : LL} {q : Int} (hD : Typed tab (.slice 2) (.l D)) (hk : chunkOk D C = true) (hF : chunkOk F C = true) : (qb_c D F C q) = true := by
  unfold qb_c
  refine andT (by exact is_true ⟨rfl, rfl, hD, rfl⟩) ?_
  refine andT (by exact is_true ⟨rfl, rfl, rfl, hD, hk, hF⟩) ?_
  refine andT (by exact is_true (show (elI D F C q (qt_v D).toNat).length ≤ 140737488355328 from by have k := chunkOk_ck hk; have := elI_len (D := D) (F := F) (C := C) (q := q) (n := (qt_v D).toNat); have e : qt_v D = prodL D := rfl; rw [e] at this ⊢; have := k.pd; have := (prodN_le k.dd k.r3 _ (Nat.le_refl _)).2; omega)) ?_
  rfl
theorem qb_vv (D F C : LL) (q : Int) (hk : chunkOk D C = true) (hF : chunkOk F C = true) : qb_v D F C q = bif hasK (keysG D C) q then elS D F C (boxP D C (pl16 D q)).1 (prodL C).toNat else [] := by
  rw [← el_main hk hF]
  show rowsOf TC.i ((elems TC.int (elI D F C q (qt_v D).toNat)).mergeSort _) = _
  rfl
def qe_t (D F C : LL) (q : Int) : Tr (LL) := (.ite ((qm_c D C) = true) (.ite ((!(qm_v D C)) = true) (.ok ([]))
   (.ite ((qm_c F C) = true) (.ite ((!(qm_v F C)) = true) (.ok ([]))
     (.ite ((qb_c D F C q) = true) (.ok (qb_v D F C q))
      .no))
    .no))
  .no)
def qe_mk (p : LL) : Res := [(false, [⟨.slice 2, .own true, TC.l p⟩])]
def qe_c (D F C : LL) (q : Int) : Bool := ((qm_c D C) && (bif (!(qm_v D C)) then true else ((qm_c F C) && (bif (!(qm_v F C)) then true else ((qb_c D F C q) && true)))))
def qe_v (D F C : LL) (q : Int) : LL := (bif (!(qm_v D C)) then [] else (bif (!(qm_v F C)) then [] else (qb_v D F C q)))
theorem qe_l (D F C : LL) (q : Int) : (qe_c D F C q) = true → (qe_t D F C q).val = some (qe_v D F C q) := by
  unfold qe_t qe_v qe_c
  exact fun h => (Tr.gb h fun h => (Tr.ss h (fun h => rfl) (fun h => (Tr.gb h fun h => (Tr.ss h (fun h => rfl) (fun h => (Tr.gb h fun h => rfl)))))))
def qe_S : List Arg → Option (Bool × Res) := fun xs => match xs with
  | [(false, [(.slice 2, TC.l D)]), (false, [(.slice 2, TC.l F)]), (false, [(.slice 2, TC.l C)]), (false, [(.int .i64, TC.i q)])] => some ((qe_c D F C q), qe_mk (qe_v D F C q))
  | _ => .none
theorem qe_e (D F C : LL) (q : Int) : runF tab FT D33 live 22 noLoops [(false, [(.slice 2, TC.l D)]), (false, [(.slice 2, TC.l F)]), (false, [(.slice 2, TC.l C)]), (false, [(.int .i64, TC.i q)])] = (qe_t D F C q).run fun p => some (qe_mk p) := by kernel_rfl
theorem qe_s : ∀ xs r, qe_S xs = some (true, r) → runF tab FT D33 live 22 noLoops xs = some r := by
  intro xs r h
  unfold qe_S at h
  split at h
  · obtain ⟨h1, rfl⟩ := sp h
    exact fun_told (qe_e ..) (qe_l _ _ _ _) h1
  · cases h
def D34 : Dt := also D33 22 qe_S
theorem d34 : DOk Go.Proofs.Try.prog tab D34 := d33.also mixed_ok tab_ok names_ok noLoops_ok qe_s
theorem qe_cc {D : LL} {F : LL} {C : LL} {q : Int} (hD : Typed tab (.slice 2) (.l D)) (hF : Typed tab (.slice 2) (.l F)) (hC : Typed tab (.slice 2) (.l C)) : (qe_c D F C q) = true := by
  unfold qe_c
  refine andT (by exact qm_cc hD hC) ?_
  refine bifT (fun b1 => ?_) (fun b1 => ?_)
  · skip
    rfl
  · skip
    refine andT (by exact qm_cc hF hC) ?_
    refine bifT (fun b2 => ?_) (fun b2 => ?_)
    · skip
      rfl
    · skip
      refine andT (by exact qb_cc hD ((qm_vv _ _).symm.trans (notF b1)) ((qm_vv _ _).symm.trans (notF b2))) ?_
      rfl
theorem qe_vv (D F C : LL) (q : Int) : qe_v D F C q = elV D F C q := by
  unfold qe_v elV
  rw [qm_vv, qm_vv]
  cases h1 : chunkOk D C with
  | false => rfl
  | true =>
    cases h2 : chunkOk F C with
    | false => rfl
    | true =>
      show qb_v D F C q = _
      rw [qb_vv D F C q h1 h2]
      cases hasK (keysG D C) q <;> rfl
theorem elV_ty {D F C : LL} {q : Int} : Typed tab (.slice 2) (.l (elV D F C q)) ∧ (elV D F C q).length ≤ 64 := by
  unfold elV
  cases h1 : chunkOk D C with
  | false => exact ⟨typed_none, Nat.zero_le _⟩
  | true =>
    cases h2 : chunkOk F C with
    | false => exact ⟨typed_none, Nat.zero_le _⟩
    | true =>
      cases hasK (keysG D C) q with
      | false => exact ⟨typed_none, Nat.zero_le _⟩
      | true =>
        have h3 : prodL C ≤ 64 := by
          unfold chunkOk at h1
          simp only [Bool.and_eq_true, decide_eq_true_eq] at h1
          exact h1.1.1.2
        have h4 := elS_len (D := D) (F := F) (C := C) (B := (boxP D C (pl16 D q)).1) (n := (prodL C).toNat)
        exact ⟨elS_ty (by omega), by show (elS D F C (boxP D C (pl16 D q)).1 (prodL C).toNat).length ≤ 64; omega⟩
abbrev qr_4_σ := LL × LL × Int
abbrev qr_4_ω := (Unit) ⊕ (Unit)
def qr_4_step (A C : LL) (i : Int) : Tr (qr_4_σ ⊕ qr_4_ω) := (.ite ((decide (i < (A.length : Int))) = true) (.ite ((0 : Int) ≤ i ∧ i < (A.length : Int)) (.ite ((0 : Int) ≤ i ∧ i < (C.length : Int)) (.ite ((!((nth (row A i) 0).int == (nth (row C i) 0).int)) = true) (.ok (.inr (.inl ())))
     (.ok (.inl (A, C, (IntKind.wrap .i64 (i + (1 : Int)))))))
    .no)
   .no)
  (.ok (.inr (.inr ()))))
def qr_4_st : qr_4_σ → Tr (qr_4_σ ⊕ qr_4_ω) := fun x => (qr_4_step (x.1) (x.2.1) (x.2.2))
def qr_o4_1 (A C : LL) (i : Int) : Bool := is (A = C ∧ i = 0 ∧ Typed tab (.slice 2) (.l A))
def qr_4_fin (A C : LL) (i : Int) : Told qr_4_ω := (.leaf (qr_o4_1 A C i) (.inr ()))
def qr_4_sl (x : qr_4_σ) : List Slot := [⟨.val false [⟨.slice 2, .sh, TC.l (x.1)⟩], ⟨0, 0⟩⟩, ⟨.val false [⟨.slice 2, .sh, TC.l (x.2.1)⟩], ⟨0, 0⟩⟩, ⟨.val false [⟨.int .i64, .sh, TC.i (x.2.2)⟩], ⟨0, 0⟩⟩]
def qr_4_out : qr_4_ω → Ex × List Slot := (Sum.elim (fun x => (.ret, [⟨.val false [⟨.bool, .sh, TC.b false⟩], ⟨0, 0⟩⟩])) (fun x => (.exit 0, [Slot.none])))
def qr_lo4 : List Slot → Option (Told (Ex × List Slot)) := fun s => match s with
  | [⟨.val false [⟨.slice 2, .sh, TC.l A⟩], ⟨0, 0⟩⟩, ⟨.val false [⟨.slice 2, .sh, TC.l C⟩], ⟨0, 0⟩⟩, ⟨.val false [⟨.int .i64, .sh, TC.i i⟩], ⟨0, 0⟩⟩] => some (((qr_4_fin A C i)).map qr_4_out)
  | _ => .none
def qr_lo : LoopTeller := fun r s => bif Nat.beq r 4 then qr_lo4 s else .none
theorem qr_4_r (A C : LL) (i : Int) (fuel : Nat) : rounds (rnd tab FT D34 live 15 qr_lo 0 4) leave (fuel + 1) (qr_4_sl (A, C, i)) = ((qr_4_step A C i)).run (goOn (fun s => rounds (rnd tab FT D34 live 15 qr_lo 0 4) leave fuel (qr_4_sl s)) fun w => some (qr_4_out w)) := by kernel_rfl
theorem qr_4_h (A C : LL) (i : Int) (ow : qr_4_ω) : ((qr_4_fin A C i)).val = some ow → ∃ fuel, loopN qr_4_st fuel (A, C, i) = some ow := by
  intro h
  simp only [qr_4_fin, Told.val] at h
  split at h
  · rename_i ho
    obtain ⟨rfl, rfl, ht⟩ := is_iff.1 ho
    cases h
    have hlen : A.length ≤ 140737488351232 := by have := typed_room ht; simp only [show (tab 2).bytes = 8 from rfl] at this; omega
    refine ⟨_, loopN_run (N := A.length) (fun i => (A, A, (i : Int))) (fun i hi => ?_) ?_ A.length 0 (by omega)⟩
    · skip
      show (qr_4_step A A (i : Int)).val = _
      unfold qr_4_step
      refine Tr.t (by simp; omega) ?_
      refine Tr.t (by constructor <;> omega) ?_
      refine Tr.t (by constructor <;> omega) ?_
      refine Tr.n (by simp) ?_
      rw [Tr.val_ok, wrap64 (i := (i : Int) + 1) (by omega) (by omega)]; rfl
    · show (qr_4_step A A (A.length : Int)).val = _
      refine Tr.n (by simp) ?_
      rfl
  · cases h
theorem qr_is4 : LoopIs tab FT D34 live 15 qr_lo 0 4 := by
  refine loop_told (sl := qr_4_sl) (step := qr_4_st) (out := qr_4_out) (lor := qr_lo4) (fin := fun x => (qr_4_fin (x.1) (x.2.1) (x.2.2))) (fun _ => rfl) ?_ (fun x n => qr_4_r x.1 x.2.1 x.2.2 n) (fun x ow => qr_4_h x.1 x.2.1 x.2.2 ow)
  intro s t h
  unfold qr_lo4 at h
  split at h
  · cases h; exact ⟨(_, _, _), rfl, rfl⟩
  · cases h
def qr_t (A C : LL) : Tr (Bool) := (.ite ((!((A.length : Int) == (C.length : Int))) = true) (.ok false)
  (.ite ((qr_o4_1 A C (0 : Int)) = true) (.ok true)
   .no))
def qr_mk (p : Bool) : Res := [(false, [⟨.bool, .sh, TC.b p⟩])]
def qr_c (A C : LL) : Bool := is (A = C ∧ Typed tab (.slice 2) (.l A))
def qr_v (A C : LL) : Bool := true
theorem qr_l (A C : LL) : (qr_c A C) = true → (qr_t A C).val = some (qr_v A C) := by
  intro h
  obtain ⟨rfl, ht⟩ := is_iff.1 h
  unfold qr_t
  refine Tr.n (by simp) ?_
  refine Tr.t (by first | (apply is_true; and_intros <;> (first | rfl | assumption | (apply qf_cc <;> assumption) | (apply qi_cc <;> assumption) | (apply ql_cc <;> assumption) | (apply qq_cc <;> assumption) | (apply qg_cc <;> assumption) | (apply qj_cc <;> assumption) | (apply qc_cc <;> assumption) | (apply qa_cc <;> assumption) | (apply qm_cc <;> assumption) | (apply qh_cc <;> assumption) | (apply qn_cc <;> assumption) | (apply qb_cc <;> assumption) | (apply qe_cc <;> assumption) | (first | (apply is_true; and_intros <;> (first | rfl | assumption | (apply qf_cc <;> assumption) | (apply qi_cc <;> assumption) | (apply ql_cc <;> assumption) | (apply qq_cc <;> assumption) | (apply qg_cc <;> assumption) | (apply qj_cc <;> assumption) | (apply qc_cc <;> assumption) | (apply qa_cc <;> assumption) | (apply qm_cc <;> assumption) | (apply qh_cc <;> assumption) | (apply qn_cc <;> assumption) | (apply qb_cc <;> assumption) | (apply qe_cc <;> assumption) | (first | (apply is_true; and_intros <;> (first | rfl | assumption | (apply qf_cc <;> assumption) | (apply qi_cc <;> assumption) | (apply ql_cc <;> assumption) | (apply qq_cc <;> assumption) | (apply qg_cc <;> assumption) | (apply qj_cc <;> assumption) | (apply qc_cc <;> assumption) | (apply qa_cc <;> assumption) | (apply qm_cc <;> assumption) | (apply qh_cc <;> assumption) | (apply qn_cc <;> assumption) | (apply qb_cc <;> assumption) | (apply qe_cc <;> assumption) | (first | (apply is_true; and_intros <;> (first | rfl | assumption | (apply qf_cc <;> assumption) | (apply qi_cc <;> assumption) | (apply ql_cc <;> assumption) | (apply qq_cc <;> assumption) | (apply qg_cc <;> assumption) | (apply qj_cc <;> assumption) | (apply qc_cc <;> assumption) | (apply qa_cc <;> assumption) | (apply qm_cc <;> assumption) | (apply qh_cc <;> assumption) | (apply qn_cc <;> assumption) | (apply qb_cc <;> assumption) | (apply qe_cc <;> assumption))) | (apply qf_cc <;> assumption) | (apply qi_cc <;> assumption) | (apply ql_cc <;> assumption) | (apply qq_cc <;> assumption) | (apply qg_cc <;> assumption) | (apply qj_cc <;> assumption) | (apply qc_cc <;> assumption) | (apply qa_cc <;> assumption) | (apply qm_cc <;> assumption) | (apply qh_cc <;> assumption) | (apply qn_cc <;> assumption) | (apply qb_cc <;> assumption) | (apply qe_cc <;> assumption)))) | (apply qf_cc <;> assumption) | (apply qi_cc <;> assumption) | (apply ql_cc <;> assumption) | (apply qq_cc <;> assumption) | (apply qg_cc <;> assumption) | (apply qj_cc <;> assumption) | (apply qc_cc <;> assumption) | (apply qa_cc <;> assumption) | (apply qm_cc <;> assumption) | (apply qh_cc <;> assumption) | (apply qn_cc <;> assumption) | (apply qb_cc <;> assumption) | (apply qe_cc <;> assumption)))) | (apply qf_cc <;> assumption) | (apply qi_cc <;> assumption) | (apply ql_cc <;> assumption) | (apply qq_cc <;> assumption) | (apply qg_cc <;> assumption) | (apply qj_cc <;> assumption) | (apply qc_cc <;> assumption) | (apply qa_cc <;> assumption) | (apply qm_cc <;> assumption) | (apply qh_cc <;> assumption) | (apply qn_cc <;> assumption) | (apply qb_cc <;> assumption) | (apply qe_cc <;> assumption)))) | (apply qf_cc <;> assumption) | (apply qi_cc <;> assumption) | (apply ql_cc <;> assumption) | (apply qq_cc <;> assumption) | (apply qg_cc <;> assumption) | (apply qj_cc <;> assumption) | (apply qc_cc <;> assumption) | (apply qa_cc <;> assumption) | (apply qm_cc <;> assumption) | (apply qh_cc <;> assumption) | (apply qn_cc <;> assumption) | (apply qb_cc <;> assumption) | (apply qe_cc <;> assumption)) ?_
  rfl
def qr_S : List Arg → Option (Bool × Res) := fun xs => match xs with
  | [(false, [(.slice 2, TC.l A)]), (false, [(.slice 2, TC.l C)])] => some ((qr_c A C), qr_mk (qr_v A C))
  | _ => .none
theorem qr_e (A C : LL) : runF tab FT D34 live 15 qr_lo [(false, [(.slice 2, TC.l A)]), (false, [(.slice 2, TC.l C)])] = (qr_t A C).run fun p => some (qr_mk p) := by kernel_rfl
theorem qr_s : ∀ xs r, qr_S xs = some (true, r) → runF tab FT D34 live 15 qr_lo xs = some r := by
  intro xs r h
  unfold qr_S at h
  split at h
  · obtain ⟨h1, rfl⟩ := sp h
    exact fun_told (qr_e ..) (qr_l _ _) h1
  · cases h
def D35 : Dt := also D34 15 qr_S
theorem d35 : DOk Go.Proofs.Try.prog tab D35 := d34.also mixed_ok tab_ok names_ok (fnLoops_one (by kernel_rfl) qr_is4) qr_s
def mkR_2 (k : Int) : List TC := [TC.i k]
def mkL_2 (k : Int) (n : Nat) : LL := madeL (fun i => mkR_2 (k + 1 * (i : Int))) n
theorem mkL_2_length {k : Int} {n : Nat} : (mkL_2 k n).length = n := madeL_length
abbrev qk_2_σ := Int × Int × LL
abbrev qk_2_ω := (Int × LL)
def qk_2_step (k i : Int) (A : LL) : Tr (qk_2_σ ⊕ qk_2_ω) := (.ite ((decide (i < (A.length : Int))) = true) (.ite ((0 : Int) ≤ i ∧ i < (A.length : Int)) (.ok (.inl ((IntKind.wrap .i64 (k + (1 : Int))), (IntKind.wrap .i64 (i + (1 : Int))), (A.set (i).toNat (splice (row A i) 0 [TC.i k])))))
   .no)
  (.ok (.inr (k, A))))
def qk_2_st : qk_2_σ → Tr (qk_2_σ ⊕ qk_2_ω) := fun x => (qk_2_step (x.1) (x.2.1) (x.2.2))
def qk_o2_1 (k i : Int) (A : LL) : Bool := is ((∀ x, x ∈ A → x.length = 1) ∧ A.length ≤ 140737488351232 ∧ 0 ≤ k ∧ k ≤ 2305843009213693952 ∧ i = 0)
def qk_u2_1_0 (k i : Int) (A : LL) : Int := k + 1 * (A.length : Int)
def qk_u2_1_1 (k i : Int) (A : LL) : LL := mkL_2 k A.length
def qk_2_fin (k i : Int) (A : LL) : Told qk_2_ω := (.leaf (qk_o2_1 k i A) ((qk_u2_1_0 k i A), (qk_u2_1_1 k i A)))
def qk_2_sl (x : qk_2_σ) : List Slot := [⟨.gal false 0 1, ⟨0, 0⟩⟩, ⟨.val false [⟨.int .i64, .sh, TC.i (x.1)⟩], ⟨0, 0⟩⟩, ⟨.val false [⟨.int .i64, .sh, TC.i (x.2.1)⟩], ⟨0, 0⟩⟩, ⟨.gv [⟨.slice 2, .own true, TC.l (x.2.2)⟩], ⟨0, 0⟩⟩]
def qk_2_out : qk_2_ω → Ex × List Slot := (fun x => (.exit 0, [⟨.val false [⟨.int .i64, .sh, TC.i (x.1)⟩], ⟨0, 0⟩⟩, Slot.none, ⟨.gv [⟨.slice 2, .own true, TC.l (x.2)⟩], ⟨0, 0⟩⟩]))
def qk_lo2 : List Slot → Option (Told (Ex × List Slot)) := fun s => match s with
  | [⟨.gal false 0 1, ⟨0, 0⟩⟩, ⟨.val false [⟨.int .i64, .sh, TC.i k⟩], ⟨0, 0⟩⟩, ⟨.val false [⟨.int .i64, .sh, TC.i i⟩], ⟨0, 0⟩⟩, ⟨.gv [⟨.slice 2, .own true, TC.l A⟩], ⟨0, 0⟩⟩] => some (((qk_2_fin k i A)).map qk_2_out)
  | _ => .none
def qk_lo : LoopTeller := fun r s => bif Nat.beq r 2 then qk_lo2 s else .none
theorem qk_2_r (k i : Int) (A : LL) (fuel : Nat) : rounds (rnd tab FT D35 live 17 qk_lo 0 2) leave (fuel + 1) (qk_2_sl (k, i, A)) = ((qk_2_step k i A)).run (goOn (fun s => rounds (rnd tab FT D35 live 17 qk_lo 0 2) leave fuel (qk_2_sl s)) fun w => some (qk_2_out w)) := by kernel_rfl
theorem qk_2_h (k i : Int) (A : LL) (ow : qk_2_ω) : ((qk_2_fin k i A)).val = some ow → ∃ fuel, loopN qk_2_st fuel (k, i, A) = some ow := by
  intro h
  refine auto_leaf (R := (k + 1 * (A.length : Int), mkL_2 k A.length)) (fun ho => ?_) h
  obtain ⟨hr, hl, h0, h1, rfl⟩ := is_iff.1 ho
  have key := loopN_over (step := qk_2_st) A 1 (fun i => mkR_2 (k + 1 * (i : Int))) (fun Y i => (k + 1 * (i : Int), (i : Int), Y)) (k + 1 * (A.length : Int), mkL_2 k A.length) hr (fun _ => rfl) (fun Y i hi hY hy => ?_) ?_ A.length 0 (by omega)
  · exact ⟨A.length + 1, Eq.trans (congrArg (loopN qk_2_st (A.length + 1)) (by simp [madeL])) key⟩
  · obtain ⟨kk, hkk⟩ : ∃ kk : Int, kk = k + 1 * (i : Int) := ⟨_, rfl⟩
    have hk0 : 0 ≤ kk := by omega
    have hk1 : kk + 1 ≤ 4611686018427387904 := by omega
    have hy : ∃ y0, row Y (i : Int) = [y0] := len_1 hy
    obtain ⟨y0, hy⟩ := hy
    have hiY : i < Y.length := by omega
    show (qk_2_step (k + 1 * (i : Int)) (i : Int) Y).val = _
    rw [← hkk]
    unfold qk_2_step
    rw [wrap64 (i := kk + 1) (by omega) (by omega)]
    try rw [wrap64 (i := kk) (by omega) (by omega)]
    refine Tr.t (by simp; omega) ?_
    refine Tr.t (by constructor <;> (try simp only [List.length_set]) <;> omega) ?_
    rw [Tr.val_ok, wrap64 (i := (i : Int) + 1) (by omega) (by omega)]
    simp only [Int.toNat_natCast, hy, row_set, List.length_set, hiY, List.set_set]
    show some (Sum.inl (_, _, _)) = some (Sum.inl (_, _, _))
    rw [show k + 1 * ((i + 1 : Nat) : Int) = kk + 1 from by omega]
    rfl
  · show (qk_2_step (k + 1 * (A.length : Int)) (A.length : Int) (mkL_2 k A.length)).val = _
    unfold qk_2_step
    refine Tr.n (by simp [mkL_2_length]) ?_
    rfl
theorem qk_is2 : LoopIs tab FT D35 live 17 qk_lo 0 2 := by
  refine loop_told (sl := qk_2_sl) (step := qk_2_st) (out := qk_2_out) (lor := qk_lo2) (fin := fun x => (qk_2_fin (x.1) (x.2.1) (x.2.2))) (fun _ => rfl) ?_ (fun x n => qk_2_r x.1 x.2.1 x.2.2 n) (fun x ow => qk_2_h x.1 x.2.1 x.2.2 ow)
  intro s t h
  unfold qk_lo2 at h
  split at h
  · cases h; exact ⟨(_, _, _), rfl, rfl⟩
  · cases h
def qk_t (A : LL) (k : Int) : Tr (LL × Int) := (.ite ((qk_o2_1 k (0 : Int) A) = true) (.ok ((qk_u2_1_1 k (0 : Int) A), (qk_u2_1_0 k (0 : Int) A)))
  .no)
def qk_mk (p : LL × Int) : Res := [(true, [⟨.slice 2, .own true, TC.l (p.1)⟩]), (false, [⟨.int .i64, .sh, TC.i (p.2)⟩])]
def qk_c (A : LL) (k : Int) : Bool := is ((∀ x, x ∈ A → x.length = 1) ∧ A.length ≤ 140737488351232 ∧ 0 ≤ k ∧ k ≤ 2305843009213693952)
def qk_v (A : LL) (k : Int) : LL × Int := (mkL_2 k A.length, k + 1 * (A.length : Int))
theorem qk_l (A : LL) (k : Int) : (qk_c A k) = true → (qk_t A k).val = some (qk_v A k) := by
  intro h
  obtain ⟨hr, hl, h0, h1⟩ := is_iff.1 h
  unfold qk_t
  exact Tr.t (is_true ⟨hr, hl, h0, h1, rfl⟩) rfl
def qk_S : List Arg → Option (Bool × Res) := fun xs => match xs with
  | [(false, [(.slice 2, TC.l A)]), (false, [(.int .i64, TC.i k)])] => some ((qk_c A k), qk_mk (qk_v A k))
  | _ => .none
theorem qk_e (A : LL) (k : Int) : runFW false tab FT D35 live 17 qk_lo (false, [(.slice 2, TC.l A)]) [(false, [(.int .i64, TC.i k)])] = (qk_t A k).run fun p => some (qk_mk p) := by kernel_rfl
theorem qk_s0 : ∀ ys r, qk_S ys = some (true, r) → ∀ a0 xs, ys = a0 :: xs → runFW false tab FT D35 live 17 qk_lo a0 xs = some r := by
  intro ys r h
  unfold qk_S at h
  split at h
  · obtain ⟨h1, rfl⟩ := sp h
    intro a0 xs e
    cases e
    exact fun_toldW (qk_e ..) (qk_l _ _) h1
  · cases h
theorem qk_s : ∀ a0 xs r, qk_S (a0 :: xs) = some (true, r) → runFW false tab FT D35 live 17 qk_lo a0 xs = some r := fun a0 xs r h => qk_s0 _ r h a0 xs rfl
def D36 : Dt := alsoW D35 17 qk_S
theorem d36 : DOk Go.Proofs.Try.prog tab D36 := d35.alsoW mixed_ok tab_ok names_ok (fnLoops_one (by kernel_rfl) qk_is2) qk_s
theorem qk_cc {A : LL} {k : Int} (ht : Typed tab (.slice 2) (.l A)) (hl : A.length ≤ 140737488351232) (h0 : 0 ≤ k) (h1 : k ≤ 2305843009213693952) : qk_c A k = true := is_true ⟨typed_rows ht rfl, hl, h0, h1⟩
theorem qk_v2 {A : LL} {k : Int} : (qk_v A k).2 = k + 1 * (A.length : Int) := rfl
abbrev qp_2_σ := LL × Int × Int
abbrev qp_2_ω := (Int) ⊕ (Int)
def qp_2_step (A : LL) (k i : Int) : Tr (qp_2_σ ⊕ qp_2_ω) := (.ite ((decide (i < (A.length : Int))) = true) (.ite ((0 : Int) ≤ i ∧ i < (A.length : Int)) (.ite ((!((nth (row A i) 0).int == k)) = true) (.ok (.inr (.inl k)))
    (.ok (.inl (A, (IntKind.wrap .i64 (k + (1 : Int))), (IntKind.wrap .i64 (i + (1 : Int)))))))
   .no)
  (.ok (.inr (.inr k))))
def qp_2_st : qp_2_σ → Tr (qp_2_σ ⊕ qp_2_ω) := fun x => (qp_2_step (x.1) (x.2.1) (x.2.2))
def qp_o2_1 (A : LL) (k i : Int) : Bool := is (A = mkL_2 k A.length ∧ A.length ≤ 140737488351232 ∧ 0 ≤ k ∧ k ≤ 2305843009213693952 ∧ i = 0)
def qp_u2_1 (A : LL) (k i : Int) : Int := k + 1 * (A.length : Int)
def qp_2_fin (A : LL) (k i : Int) : Told qp_2_ω := (.leaf (qp_o2_1 A k i) (.inr (qp_u2_1 A k i)))
def qp_2_sl (x : qp_2_σ) : List Slot := [⟨.val false [⟨.slice 2, .sh, TC.l (x.1)⟩], ⟨0, 0⟩⟩, ⟨.val false [⟨.int .i64, .sh, TC.i (x.2.1)⟩], ⟨0, 0⟩⟩, ⟨.val false [⟨.int .i64, .sh, TC.i (x.2.2)⟩], ⟨0, 0⟩⟩]
def qp_2_out : qp_2_ω → Ex × List Slot := (Sum.elim (fun x => (.ret, [⟨.val false [⟨.int .i64, .sh, TC.i x⟩], ⟨0, 0⟩⟩, ⟨.val false [⟨.int .i64, .sh, TC.i (-1 : Int)⟩], ⟨0, 0⟩⟩])) (fun x => (.exit 0, [⟨.val false [⟨.int .i64, .sh, TC.i x⟩], ⟨0, 0⟩⟩, Slot.none])))
def qp_lo2 : List Slot → Option (Told (Ex × List Slot)) := fun s => match s with
  | [⟨.val false [⟨.slice 2, .sh, TC.l A⟩], ⟨0, 0⟩⟩, ⟨.val false [⟨.int .i64, .sh, TC.i k⟩], ⟨0, 0⟩⟩, ⟨.val false [⟨.int .i64, .sh, TC.i i⟩], ⟨0, 0⟩⟩] => some (((qp_2_fin A k i)).map qp_2_out)
  | _ => .none
def qp_lo : LoopTeller := fun r s => bif Nat.beq r 2 then qp_lo2 s else .none
theorem qp_2_r (A : LL) (k i : Int) (fuel : Nat) : rounds (rnd tab FT D36 live 23 qp_lo 0 2) leave (fuel + 1) (qp_2_sl (A, k, i)) = ((qp_2_step A k i)).run (goOn (fun s => rounds (rnd tab FT D36 live 23 qp_lo 0 2) leave fuel (qp_2_sl s)) fun w => some (qp_2_out w)) := by kernel_rfl
theorem qp_2_h (A : LL) (k i : Int) (ow : qp_2_ω) : ((qp_2_fin A k i)).val = some ow → ∃ fuel, loopN qp_2_st fuel (A, k, i) = some ow := by
  intro h
  refine auto_leaf (R := Sum.inr (k + 1 * (A.length : Int))) (fun ho => ?_) h
  obtain ⟨hA, hl, h0, h1, rfl⟩ := is_iff.1 ho
  have key := loopN_run (step := qp_2_st) (N := A.length) (w := Sum.inr (k + 1 * (A.length : Int))) (fun i => (A, k + 1 * (i : Int), (i : Int))) (fun i hi => ?_) ?_ A.length 0 (by omega)
  · exact ⟨A.length + 1, Eq.trans (congrArg (loopN qp_2_st (A.length + 1)) (by simp)) key⟩
  · obtain ⟨kk, hkk⟩ : ∃ kk : Int, kk = k + 1 * (i : Int) := ⟨_, rfl⟩
    have hk0 : 0 ≤ kk := by omega
    have hk1 : kk + 1 ≤ 4611686018427387904 := by omega
    have hrow : row A (i : Int) = mkR_2 kk := by
      rw [hA]
      unfold mkL_2
      rw [row_madeL hi, hkk]
    show (qp_2_step A (k + 1 * (i : Int)) (i : Int)).val = _
    rw [← hkk]
    unfold qp_2_step
    rw [hrow]
    rw [wrap64 (i := kk + 1) (by omega) (by omega)]
    try rw [wrap64 (i := kk) (by omega) (by omega)]
    refine Tr.t (by simp; omega) ?_
    refine Tr.t (by constructor <;> omega) ?_
    refine Tr.n (by simp [nth, mkR_2, TC.str, TC.int, TC.bool]) ?_
    rw [Tr.val_ok, wrap64 (i := (i : Int) + 1) (by omega) (by omega)]
    show some (Sum.inl (_, _, _)) = some (Sum.inl (_, _, _))
    rw [show k + 1 * ((i + 1 : Nat) : Int) = kk + 1 from by omega]
    rfl
  · show (qp_2_step A (k + 1 * (A.length : Int)) (A.length : Int)).val = _
    unfold qp_2_step
    refine Tr.n (by simp) ?_
    rfl
theorem qp_is2 : LoopIs tab FT D36 live 23 qp_lo 0 2 := by
  refine loop_told (sl := qp_2_sl) (step := qp_2_st) (out := qp_2_out) (lor := qp_lo2) (fin := fun x => (qp_2_fin (x.1) (x.2.1) (x.2.2))) (fun _ => rfl) ?_ (fun x n => qp_2_r x.1 x.2.1 x.2.2 n) (fun x ow => qp_2_h x.1 x.2.1 x.2.2 ow)
  intro s t h
  unfold qp_lo2 at h
  split at h
  · cases h; exact ⟨(_, _, _), rfl, rfl⟩
  · cases h
def qp_t (A : LL) (k : Int) : Tr (Int) := (.ite ((qp_o2_1 A k (0 : Int)) = true) (.ok (qp_u2_1 A k (0 : Int)))
  .no)
def qp_mk (p : Int) : Res := [(false, [⟨.int .i64, .sh, TC.i p⟩])]
def qp_c (A : LL) (k : Int) : Bool := is (A = mkL_2 k A.length ∧ A.length ≤ 140737488351232 ∧ 0 ≤ k ∧ k ≤ 2305843009213693952)
def qp_v (A : LL) (k : Int) : Int := k + 1 * (A.length : Int)
theorem qp_l (A : LL) (k : Int) : (qp_c A k) = true → (qp_t A k).val = some (qp_v A k) := by
  intro h
  obtain ⟨hr, hl, h0, h1⟩ := is_iff.1 h
  unfold qp_t
  exact Tr.t (is_true ⟨hr, hl, h0, h1, rfl⟩) rfl
def qp_S : List Arg → Option (Bool × Res) := fun xs => match xs with
  | [(false, [(.slice 2, TC.l A)]), (false, [(.int .i64, TC.i k)])] => some ((qp_c A k), qp_mk (qp_v A k))
  | _ => .none
theorem qp_e (A : LL) (k : Int) : runF tab FT D36 live 23 qp_lo [(false, [(.slice 2, TC.l A)]), (false, [(.int .i64, TC.i k)])] = (qp_t A k).run fun p => some (qp_mk p) := by kernel_rfl
theorem qp_s : ∀ xs r, qp_S xs = some (true, r) → runF tab FT D36 live 23 qp_lo xs = some r := by
  intro xs r h
  unfold qp_S at h
  split at h
  · obtain ⟨h1, rfl⟩ := sp h
    exact fun_told (qp_e ..) (qp_l _ _) h1
  · cases h
def D37 : Dt := also D36 23 qp_S
theorem d37 : DOk Go.Proofs.Try.prog tab D37 := d36.also mixed_ok tab_ok names_ok (fnLoops_one (by kernel_rfl) qp_is2) qp_s
theorem qp_cc {A : LL} {k : Int} (hl : A.length ≤ 140737488351232) (h0 : 0 ≤ k) (h1 : k ≤ 2305843009213693952) : qp_c (qk_v A k).1 k = true := is_true ⟨by show mkL_2 k A.length = mkL_2 k (mkL_2 k A.length).length; rw [mkL_2_length], by show (mkL_2 k A.length).length ≤ _; rw [mkL_2_length]; exact hl, h0, h1⟩
theorem qp_vm {A : LL} {k : Int} : qp_v (qk_v A k).1 k = (qk_v A k).2 := by
  show k + 1 * ((mkL_2 k A.length).length : Int) = k + 1 * (A.length : Int)
  rw [mkL_2_length]
def laws_FnExactElementsLost_t (x0 x1 x2 : LL) (x3 : Int) : Tr Bool := (.ite ((decide ((x0.length : Int) > (1048576 : Int))) = true) (.ok true)
  (.ite ((decide ((x1.length : Int) > (1048576 : Int))) = true) (.ok true)
   (.ite ((decide ((x2.length : Int) > (1048576 : Int))) = true) (.ok true)
    (.ite ((qd_c x0) = true) (.ite ((qd_c x1) = true) (.ite ((qd_c x2) = true) (.ite ((qa_c (qd_v x0) (qd_v x1) (qd_v x2) x3) = true) (.ite ((qd_c x0) = true) (.ite ((qd_c x1) = true) (.ite ((qd_c x2) = true) (.ite ((qe_c (qd_v x0) (qd_v x1) (qd_v x2) x3) = true) (.ite ((qr_c (qe_v (qd_v x0) (qd_v x1) (qd_v x2) x3) (qa_v (qd_v x0) (qd_v x1) (qd_v x2) x3)) = true) (.ite ((!(qr_v (qe_v (qd_v x0) (qd_v x1) (qd_v x2) x3) (qa_v (qd_v x0) (qd_v x1) (qd_v x2) x3))) = true) (.ok false)
              (.ite ((qd_c x0) = true) (.ite ((qr_c (qd_v x0) (qd_v x0)) = true) (.ite ((!(qr_v (qd_v x0) (qd_v x0))) = true) (.ok false)
                 (.ite ((qd_c x1) = true) (.ite ((qr_c (qd_v x1) (qd_v x1)) = true) (.ite ((!(qr_v (qd_v x1) (qd_v x1))) = true) (.ok false)
                    (.ite ((qd_c x2) = true) (.ite ((qr_c (qd_v x2) (qd_v x2)) = true) (.ite ((!(qr_v (qd_v x2) (qd_v x2))) = true) (.ok false)
                       (.ite ((qk_c (qd_v x0) (1 : Int)) = true) (.ite ((qk_c (qd_v x1) ((qk_v (qd_v x0) (1 : Int)).2)) = true) (.ite ((qk_c (qd_v x2) ((qk_v (qd_v x1) ((qk_v (qd_v x0) (1 : Int)).2)).2)) = true) (.ite ((decide ((qk_v (qd_v x2) ((qk_v (qd_v x1) ((qk_v (qd_v x0) (1 : Int)).2)).2)).2 < (0 : Int))) = true) (.ok false)
                           (.ite ((qr_c (qe_v (qd_v x0) (qd_v x1) (qd_v x2) x3) (qa_v (qd_v x0) (qd_v x1) (qd_v x2) x3)) = true) (.ite ((!(qr_v (qe_v (qd_v x0) (qd_v x1) (qd_v x2) x3) (qa_v (qd_v x0) (qd_v x1) (qd_v x2) x3))) = true) (.ok false)
                             (.ite ((qk_c (qe_v (qd_v x0) (qd_v x1) (qd_v x2) x3) (1 : Int)) = true) (.ite ((qp_c ((qk_v (qe_v (qd_v x0) (qd_v x1) (qd_v x2) x3) (1 : Int)).1) (1 : Int)) = true) (.ite ((decide ((qp_v ((qk_v (qe_v (qd_v x0) (qd_v x1) (qd_v x2) x3) (1 : Int)).1) (1 : Int)) < (0 : Int))) = true) (.ok false)
                                (.ite ((!((qp_v ((qk_v (qe_v (qd_v x0) (qd_v x1) (qd_v x2) x3) (1 : Int)).1) (1 : Int)) == (qk_v (qe_v (qd_v x0) (qd_v x1) (qd_v x2) x3) (1 : Int)).2)) = true) (.ok false)
                                 (.ite ((qd_c x0) = true) (.ite ((qd_c x1) = true) (.ite ((qd_c x2) = true) (.ite ((qe_c (qd_v x0) (qd_v x1) (qd_v x2) x3) = true) (.ite ((qr_c (qe_v (qd_v x0) (qd_v x1) (qd_v x2) x3) (qa_v (qd_v x0) (qd_v x1) (qd_v x2) x3)) = true) (.ite ((!(qr_v (qe_v (qd_v x0) (qd_v x1) (qd_v x2) x3) (qa_v (qd_v x0) (qd_v x1) (qd_v x2) x3))) = true) (.ok false)
                                       (.ite ((qp_c ((qk_v (qe_v (qd_v x0) (qd_v x1) (qd_v x2) x3) (1 : Int)).1) (1 : Int)) = true) (.ite ((decide ((qp_v ((qk_v (qe_v (qd_v x0) (qd_v x1) (qd_v x2) x3) (1 : Int)).1) (1 : Int)) < (0 : Int))) = true) (.ok false)
                                         (.ite ((!((qp_v ((qk_v (qe_v (qd_v x0) (qd_v x1) (qd_v x2) x3) (1 : Int)).1) (1 : Int)) == (qk_v (qe_v (qd_v x0) (qd_v x1) (qd_v x2) x3) (1 : Int)).2)) = true) (.ok false)
                                          (.ok true)))
                                        .no))
                                      .no)
                                     .no)
                                    .no)
                                   .no)
                                  .no)))
                               .no)
                              .no))
                            .no))
                          .no)
                         .no)
                        .no))
                      .no)
                     .no))
                   .no)
                  .no))
                .no)
               .no))
             .no)
            .no)
           .no)
          .no)
         .no)
        .no)
       .no)
      .no)
     .no))))
def laws_FnExactElementsLost_go (ops : List Oper) (σ : St) : St := (runOps tab 113 D37 ops ops σ [] (fun σ' _ => some σ')).getD σ
def laws_FnExactElementsLost_K (e : Ex) (σ : St) : Option Res := match e with | .exit _ => .none | _ => resultsOf tab σ [.tmp 8]
def laws_FnExactElementsLost_q0 : Code := match bodyOf FT 4 with | .seq _ c => c | _ => .skip
def laws_FnExactElementsLost_o0 : List Oper := match bodyOf FT 4 with | .seq (.region _ ops _) _ => ops.toList | _ => []
def laws_FnExactElementsLost_z0 (x0 x1 x2 : LL) (x3 : Int) : St := laws_FnExactElementsLost_go laws_FnExactElementsLost_o0 (argsSt [(false, [(.slice 2, TC.l x0)]), (false, [(.slice 2, TC.l x1)]), (false, [(.slice 2, TC.l x2)]), (false, [(.int .i64, TC.i x3)])])
theorem laws_FnExactElementsLost_w0 (x0 x1 x2 : LL) (x3 : Int) : runF tab FT D37 live 4 noLoops [(false, [(.slice 2, TC.l x0)]), (false, [(.slice 2, TC.l x1)]), (false, [(.slice 2, TC.l x2)]), (false, [(.int .i64, TC.i x3)])] = runT tab 113 D37 (live 4) noLoops laws_FnExactElementsLost_q0 (laws_FnExactElementsLost_z0 x0 x1 x2 x3) laws_FnExactElementsLost_K := by kernel_rfl
def laws_FnExactElementsLost_q1 : Code := match laws_FnExactElementsLost_q0 with | .seq _ c => c | _ => .skip
def laws_FnExactElementsLost_i1 : Nat := match laws_FnExactElementsLost_q0 with | .seq (.seq (.region i _ _) _) _ => i | _ => 0
def laws_FnExactElementsLost_O1 : Array Oper := match laws_FnExactElementsLost_q0 with | .seq (.seq (.region _ ops _) _) _ => ops | _ => #[]
def laws_FnExactElementsLost_o1 : List Oper := laws_FnExactElementsLost_O1.toList
def laws_FnExactElementsLost_p1 : Operand := match laws_FnExactElementsLost_q0 with | .seq (.seq _ (.cond c _ _)) _ => c | _ => .const (.bool false)
def laws_FnExactElementsLost_z1 (x0 x1 x2 : LL) (x3 : Int) : St := substC (laws_FnExactElementsLost_go laws_FnExactElementsLost_o1 (laws_FnExactElementsLost_z0 x0 x1 x2 x3)) laws_FnExactElementsLost_p1 false
def laws_FnExactElementsLost_a1 : Code := match laws_FnExactElementsLost_q0 with | .seq (.seq _ (.cond _ a _)) _ => a | _ => .skip
theorem laws_FnExactElementsLost_r1 (x0 x1 x2 : LL) (x3 : Int) (F : St → Option Res) : runRegion tab 113 D37 laws_FnExactElementsLost_o1 false (laws_FnExactElementsLost_z0 x0 x1 x2 x3) F = F (laws_FnExactElementsLost_go laws_FnExactElementsLost_o1 (laws_FnExactElementsLost_z0 x0 x1 x2 x3)) := by kernel_rfl
theorem laws_FnExactElementsLost_c1 (x0 x1 x2 : LL) (x3 : Int) : condOf (laws_FnExactElementsLost_go laws_FnExactElementsLost_o1 (laws_FnExactElementsLost_z0 x0 x1 x2 x3)) laws_FnExactElementsLost_p1 = some ((decide ((x0.length : Int) > (1048576 : Int)))) := by kernel_rfl
theorem laws_FnExactElementsLost_x1 (x0 x1 x2 : LL) (x3 : Int) : runT tab 113 D37 (live 4) noLoops laws_FnExactElementsLost_a1 (substC (laws_FnExactElementsLost_go laws_FnExactElementsLost_o1 (laws_FnExactElementsLost_z0 x0 x1 x2 x3)) laws_FnExactElementsLost_p1 true) (fun e σ' => match e with | .normal => runT tab 113 D37 (live 4) noLoops laws_FnExactElementsLost_q1 σ' laws_FnExactElementsLost_K | e => laws_FnExactElementsLost_K e σ') = some [(false, [⟨.bool, .sh, .b true⟩])] := by kernel_rfl
theorem laws_FnExactElementsLost_w1 (x0 x1 x2 : LL) (x3 : Int) : runT tab 113 D37 (live 4) noLoops laws_FnExactElementsLost_q0 (laws_FnExactElementsLost_z0 x0 x1 x2 x3) laws_FnExactElementsLost_K = (if (decide ((x0.length : Int) > (1048576 : Int))) = true then some [(false, [⟨.bool, .sh, .b true⟩])] else runT tab 113 D37 (live 4) noLoops laws_FnExactElementsLost_q1 (laws_FnExactElementsLost_z1 x0 x1 x2 x3) laws_FnExactElementsLost_K) :=
  cut_early (q := laws_FnExactElementsLost_q0) (q1 := laws_FnExactElementsLost_q1) (a := laws_FnExactElementsLost_a1) (i := laws_FnExactElementsLost_i1) (ops := laws_FnExactElementsLost_O1) (c := laws_FnExactElementsLost_p1) (d := false) (by kernel_rfl) (laws_FnExactElementsLost_r1 x0 x1 x2 x3) (laws_FnExactElementsLost_c1 x0 x1 x2 x3) (laws_FnExactElementsLost_x1 x0 x1 x2 x3)
def laws_FnExactElementsLost_q2 : Code := match laws_FnExactElementsLost_q1 with | .seq _ c => c | _ => .skip
def laws_FnExactElementsLost_i2 : Nat := match laws_FnExactElementsLost_q1 with | .seq (.seq (.region i _ _) _) _ => i | _ => 0
def laws_FnExactElementsLost_O2 : Array Oper := match laws_FnExactElementsLost_q1 with | .seq (.seq (.region _ ops _) _) _ => ops | _ => #[]
def laws_FnExactElementsLost_o2 : List Oper := laws_FnExactElementsLost_O2.toList
def laws_FnExactElementsLost_p2 : Operand := match laws_FnExactElementsLost_q1 with | .seq (.seq _ (.cond c _ _)) _ => c | _ => .const (.bool false)
def laws_FnExactElementsLost_z2 (x0 x1 x2 : LL) (x3 : Int) : St := substC (laws_FnExactElementsLost_go laws_FnExactElementsLost_o2 (laws_FnExactElementsLost_z1 x0 x1 x2 x3)) laws_FnExactElementsLost_p2 false
def laws_FnExactElementsLost_a2 : Code := match laws_FnExactElementsLost_q1 with | .seq (.seq _ (.cond _ a _)) _ => a | _ => .skip
theorem laws_FnExactElementsLost_r2 (x0 x1 x2 : LL) (x3 : Int) (F : St → Option Res) : runRegion tab 113 D37 laws_FnExactElementsLost_o2 false (laws_FnExactElementsLost_z1 x0 x1 x2 x3) F = F (laws_FnExactElementsLost_go laws_FnExactElementsLost_o2 (laws_FnExactElementsLost_z1 x0 x1 x2 x3)) := by kernel_rfl
theorem laws_FnExactElementsLost_c2 (x0 x1 x2 : LL) (x3 : Int) : condOf (laws_FnExactElementsLost_go laws_FnExactElementsLost_o2 (laws_FnExactElementsLost_z1 x0 x1 x2 x3)) laws_FnExactElementsLost_p2 = some ((decide ((x1.length : Int) > (1048576 : Int)))) := by kernel_rfl
theorem laws_FnExactElementsLost_x2 (x0 x1 x2 : LL) (x3 : Int) : runT tab 113 D37 (live 4) noLoops laws_FnExactElementsLost_a2 (substC (laws_FnExactElementsLost_go laws_FnExactElementsLost_o2 (laws_FnExactElementsLost_z1 x0 x1 x2 x3)) laws_FnExactElementsLost_p2 true) (fun e σ' => match e with | .normal => runT tab 113 D37 (live 4) noLoops laws_FnExactElementsLost_q2 σ' laws_FnExactElementsLost_K | e => laws_FnExactElementsLost_K e σ') = some [(false, [⟨.bool, .sh, .b true⟩])] := by kernel_rfl
theorem laws_FnExactElementsLost_w2 (x0 x1 x2 : LL) (x3 : Int) : runT tab 113 D37 (live 4) noLoops laws_FnExactElementsLost_q1 (laws_FnExactElementsLost_z1 x0 x1 x2 x3) laws_FnExactElementsLost_K = (if (decide ((x1.length : Int) > (1048576 : Int))) = true then some [(false, [⟨.bool, .sh, .b true⟩])] else runT tab 113 D37 (live 4) noLoops laws_FnExactElementsLost_q2 (laws_FnExactElementsLost_z2 x0 x1 x2 x3) laws_FnExactElementsLost_K) :=
  cut_early (q := laws_FnExactElementsLost_q1) (q1 := laws_FnExactElementsLost_q2) (a := laws_FnExactElementsLost_a2) (i := laws_FnExactElementsLost_i2) (ops := laws_FnExactElementsLost_O2) (c := laws_FnExactElementsLost_p2) (d := false) (by kernel_rfl) (laws_FnExactElementsLost_r2 x0 x1 x2 x3) (laws_FnExactElementsLost_c2 x0 x1 x2 x3) (laws_FnExactElementsLost_x2 x0 x1 x2 x3)
def laws_FnExactElementsLost_q3 : Code := match laws_FnExactElementsLost_q2 with | .seq _ c => c | _ => .skip
def laws_FnExactElementsLost_i3 : Nat := match laws_FnExactElementsLost_q2 with | .seq (.seq (.region i _ _) _) _ => i | _ => 0
def laws_FnExactElementsLost_O3 : Array Oper := match laws_FnExactElementsLost_q2 with | .seq (.seq (.region _ ops _) _) _ => ops | _ => #[]
def laws_FnExactElementsLost_o3 : List Oper := laws_FnExactElementsLost_O3.toList
def laws_FnExactElementsLost_p3 : Operand := match laws_FnExactElementsLost_q2 with | .seq (.seq _ (.cond c _ _)) _ => c | _ => .const (.bool false)
def laws_FnExactElementsLost_z3 (x0 x1 x2 : LL) (x3 : Int) : St := substC (laws_FnExactElementsLost_go laws_FnExactElementsLost_o3 (laws_FnExactElementsLost_z2 x0 x1 x2 x3)) laws_FnExactElementsLost_p3 false
def laws_FnExactElementsLost_a3 : Code := match laws_FnExactElementsLost_q2 with | .seq (.seq _ (.cond _ a _)) _ => a | _ => .skip
theorem laws_FnExactElementsLost_r3 (x0 x1 x2 : LL) (x3 : Int) (F : St → Option Res) : runRegion tab 113 D37 laws_FnExactElementsLost_o3 false (laws_FnExactElementsLost_z2 x0 x1 x2 x3) F = F (laws_FnExactElementsLost_go laws_FnExactElementsLost_o3 (laws_FnExactElementsLost_z2 x0 x1 x2 x3)) := by kernel_rfl
theorem laws_FnExactElementsLost_c3 (x0 x1 x2 : LL) (x3 : Int) : condOf (laws_FnExactElementsLost_go laws_FnExactElementsLost_o3 (laws_FnExactElementsLost_z2 x0 x1 x2 x3)) laws_FnExactElementsLost_p3 = some ((decide ((x2.length : Int) > (1048576 : Int)))) := by kernel_rfl
theorem laws_FnExactElementsLost_x3 (x0 x1 x2 : LL) (x3 : Int) : runT tab 113 D37 (live 4) noLoops laws_FnExactElementsLost_a3 (substC (laws_FnExactElementsLost_go laws_FnExactElementsLost_o3 (laws_FnExactElementsLost_z2 x0 x1 x2 x3)) laws_FnExactElementsLost_p3 true) (fun e σ' => match e with | .normal => runT tab 113 D37 (live 4) noLoops laws_FnExactElementsLost_q3 σ' laws_FnExactElementsLost_K | e => laws_FnExactElementsLost_K e σ') = some [(false, [⟨.bool, .sh, .b true⟩])] := by kernel_rfl
theorem laws_FnExactElementsLost_w3 (x0 x1 x2 : LL) (x3 : Int) : runT tab 113 D37 (live 4) noLoops laws_FnExactElementsLost_q2 (laws_FnExactElementsLost_z2 x0 x1 x2 x3) laws_FnExactElementsLost_K = (if (decide ((x2.length : Int) > (1048576 : Int))) = true then some [(false, [⟨.bool, .sh, .b true⟩])] else runT tab 113 D37 (live 4) noLoops laws_FnExactElementsLost_q3 (laws_FnExactElementsLost_z3 x0 x1 x2 x3) laws_FnExactElementsLost_K) :=
  cut_early (q := laws_FnExactElementsLost_q2) (q1 := laws_FnExactElementsLost_q3) (a := laws_FnExactElementsLost_a3) (i := laws_FnExactElementsLost_i3) (ops := laws_FnExactElementsLost_O3) (c := laws_FnExactElementsLost_p3) (d := false) (by kernel_rfl) (laws_FnExactElementsLost_r3 x0 x1 x2 x3) (laws_FnExactElementsLost_c3 x0 x1 x2 x3) (laws_FnExactElementsLost_x3 x0 x1 x2 x3)
def laws_FnExactElementsLost_t2 (x0 x1 x2 : LL) (x3 : Int) : Tr Bool := (.ite ((qd_c x0) = true) (.ite ((qd_c x1) = true) (.ite ((qd_c x2) = true) (.ite ((qa_c (qd_v x0) (qd_v x1) (qd_v x2) x3) = true) (.ite ((qd_c x0) = true) (.ite ((qd_c x1) = true) (.ite ((qd_c x2) = true) (.ite ((qe_c (qd_v x0) (qd_v x1) (qd_v x2) x3) = true) (.ite ((qr_c (qe_v (qd_v x0) (qd_v x1) (qd_v x2) x3) (qa_v (qd_v x0) (qd_v x1) (qd_v x2) x3)) = true) (.ite ((!(qr_v (qe_v (qd_v x0) (qd_v x1) (qd_v x2) x3) (qa_v (qd_v x0) (qd_v x1) (qd_v x2) x3))) = true) (.ok false)
           (.ite ((qd_c x0) = true) (.ite ((qr_c (qd_v x0) (qd_v x0)) = true) (.ite ((!(qr_v (qd_v x0) (qd_v x0))) = true) (.ok false)
              (.ite ((qd_c x1) = true) (.ite ((qr_c (qd_v x1) (qd_v x1)) = true) (.ite ((!(qr_v (qd_v x1) (qd_v x1))) = true) (.ok false)
                 (.ite ((qd_c x2) = true) (.ite ((qr_c (qd_v x2) (qd_v x2)) = true) (.ite ((!(qr_v (qd_v x2) (qd_v x2))) = true) (.ok false)
                    (.ite ((qk_c (qd_v x0) (1 : Int)) = true) (.ite ((qk_c (qd_v x1) ((qk_v (qd_v x0) (1 : Int)).2)) = true) (.ite ((qk_c (qd_v x2) ((qk_v (qd_v x1) ((qk_v (qd_v x0) (1 : Int)).2)).2)) = true) (.ite ((decide ((qk_v (qd_v x2) ((qk_v (qd_v x1) ((qk_v (qd_v x0) (1 : Int)).2)).2)).2 < (0 : Int))) = true) (.ok false)
                        (.ite ((qr_c (qe_v (qd_v x0) (qd_v x1) (qd_v x2) x3) (qa_v (qd_v x0) (qd_v x1) (qd_v x2) x3)) = true) (.ite ((!(qr_v (qe_v (qd_v x0) (qd_v x1) (qd_v x2) x3) (qa_v (qd_v x0) (qd_v x1) (qd_v x2) x3))) = true) (.ok false)
                          (.ite ((qk_c (qe_v (qd_v x0) (qd_v x1) (qd_v x2) x3) (1 : Int)) = true) (.ite ((qp_c ((qk_v (qe_v (qd_v x0) (qd_v x1) (qd_v x2) x3) (1 : Int)).1) (1 : Int)) = true) (.ite ((decide ((qp_v ((qk_v (qe_v (qd_v x0) (qd_v x1) (qd_v x2) x3) (1 : Int)).1) (1 : Int)) < (0 : Int))) = true) (.ok false)
                             (.ite ((!((qp_v ((qk_v (qe_v (qd_v x0) (qd_v x1) (qd_v x2) x3) (1 : Int)).1) (1 : Int)) == (qk_v (qe_v (qd_v x0) (qd_v x1) (qd_v x2) x3) (1 : Int)).2)) = true) (.ok false)
                              (.ite ((qd_c x0) = true) (.ite ((qd_c x1) = true) (.ite ((qd_c x2) = true) (.ite ((qe_c (qd_v x0) (qd_v x1) (qd_v x2) x3) = true) (.ite ((qr_c (qe_v (qd_v x0) (qd_v x1) (qd_v x2) x3) (qa_v (qd_v x0) (qd_v x1) (qd_v x2) x3)) = true) (.ite ((!(qr_v (qe_v (qd_v x0) (qd_v x1) (qd_v x2) x3) (qa_v (qd_v x0) (qd_v x1) (qd_v x2) x3))) = true) (.ok false)
                                    (.ite ((qp_c ((qk_v (qe_v (qd_v x0) (qd_v x1) (qd_v x2) x3) (1 : Int)).1) (1 : Int)) = true) (.ite ((decide ((qp_v ((qk_v (qe_v (qd_v x0) (qd_v x1) (qd_v x2) x3) (1 : Int)).1) (1 : Int)) < (0 : Int))) = true) (.ok false)
                                      (.ite ((!((qp_v ((qk_v (qe_v (qd_v x0) (qd_v x1) (qd_v x2) x3) (1 : Int)).1) (1 : Int)) == (qk_v (qe_v (qd_v x0) (qd_v x1) (qd_v x2) x3) (1 : Int)).2)) = true) (.ok false)
                                       (.ok true)))
                                     .no))
                                   .no)
                                  .no)
                                 .no)
                                .no)
                               .no)))
                            .no)
                           .no))
                         .no))
                       .no)
                      .no)
                     .no))
                   .no)
                  .no))
                .no)
               .no))
             .no)
            .no))
          .no)
         .no)
        .no)
       .no)
      .no)
     .no)
    .no)
   .no)
  .no)
theorem laws_FnExactElementsLost_eb (x0 x1 x2 : LL) (x3 : Int) : runT tab 113 D37 (live 4) noLoops laws_FnExactElementsLost_q3 (laws_FnExactElementsLost_z3 x0 x1 x2 x3) laws_FnExactElementsLost_K = (laws_FnExactElementsLost_t2 x0 x1 x2 x3).run fun p => some [(false, [⟨.bool, .sh, .b p⟩])] := by kernel_rfl
theorem laws_FnExactElementsLost_e (x0 x1 x2 : LL) (x3 : Int) : runF tab FT D37 live 4 noLoops [(false, [(.slice 2, TC.l x0)]), (false, [(.slice 2, TC.l x1)]), (false, [(.slice 2, TC.l x2)]), (false, [(.int .i64, TC.i x3)])] = (laws_FnExactElementsLost_t x0 x1 x2 x3).run fun p => some [(false, [⟨.bool, .sh, .b p⟩])] := by
  rw [laws_FnExactElementsLost_w0, laws_FnExactElementsLost_w1, laws_FnExactElementsLost_w2, laws_FnExactElementsLost_w3, laws_FnExactElementsLost_eb]
  rfl
theorem laws_FnExactElementsLost_p (x0 x1 x2 : LL) (x3 : Int) (h0 : Typed tab (.slice 2) (.l x0)) (h1 : Typed tab (.slice 2) (.l x1)) (h2 : Typed tab (.slice 2) (.l x2)) (h3 : Typed tab (.int .i64) (.i x3)) : (laws_FnExactElementsLost_t x0 x1 x2 x3).val = some true := by
  have t0_2 := qd_ty h0
  have t1_2 := qd_ty h1
  have t2_2 := qd_ty h2
  have hr0 := typed_room t0_2
  have hr1 := typed_room t1_2
  have hr3 := typed_room t2_2
  have ht := (elV_ty (D := List.map qd_g x0) (F := List.map qd_g x1) (C := List.map qd_g x2) (q := x3)).1
  have hr2 := (elV_ty (D := List.map qd_g x0) (F := List.map qd_g x1) (C := List.map qd_g x2) (q := x3)).2
  simp only [show (tab 2).bytes = 8 from rfl] at hr0 hr1 hr3
  unfold laws_FnExactElementsLost_t
  simp only [qa_vv, qe_vv, qd_v]
  refine Tr.y ?_
  refine Tr.y ?_
  refine Tr.y ?_
  refine Tr.t (by first | exact (by first | (apply is_true; and_intros <;> (first | rfl | assumption | (apply qf_cc <;> assumption) | (apply qi_cc <;> assumption) | (apply ql_cc <;> assumption) | (apply qq_cc <;> assumption) | (apply qg_cc <;> assumption) | (apply qj_cc <;> assumption) | (apply qc_cc <;> assumption) | (apply qa_cc <;> assumption) | (apply qm_cc <;> assumption) | (apply qh_cc <;> assumption) | (apply qn_cc <;> assumption) | (apply qb_cc <;> assumption) | (apply qe_cc <;> assumption) | (first | (apply is_true; and_intros <;> (first | rfl | assumption | (apply qf_cc <;> assumption) | (apply qi_cc <;> assumption) | (apply ql_cc <;> assumption) | (apply qq_cc <;> assumption) | (apply qg_cc <;> assumption) | (apply qj_cc <;> assumption) | (apply qc_cc <;> assumption) | (apply qa_cc <;> assumption) | (apply qm_cc <;> assumption) | (apply qh_cc <;> assumption) | (apply qn_cc <;> assumption) | (apply qb_cc <;> assumption) | (apply qe_cc <;> assumption) | (first | (apply is_true; and_intros <;> (first | rfl | assumption | (apply qf_cc <;> assumption) | (apply qi_cc <;> assumption) | (apply ql_cc <;> assumption) | (apply qq_cc <;> assumption) | (apply qg_cc <;> assumption) | (apply qj_cc <;> assumption) | (apply qc_cc <;> assumption) | (apply qa_cc <;> assumption) | (apply qm_cc <;> assumption) | (apply qh_cc <;> assumption) | (apply qn_cc <;> assumption) | (apply qb_cc <;> assumption) | (apply qe_cc <;> assumption) | (first | (apply is_true; and_intros <;> (first | rfl | assumption | (apply qf_cc <;> assumption) | (apply qi_cc <;> assumption) | (apply ql_cc <;> assumption) | (apply qq_cc <;> assumption) | (apply qg_cc <;> assumption) | (apply qj_cc <;> assumption) | (apply qc_cc <;> assumption) | (apply qa_cc <;> assumption) | (apply qm_cc <;> assumption) | (apply qh_cc <;> assumption) | (apply qn_cc <;> assumption) | (apply qb_cc <;> assumption) | (apply qe_cc <;> assumption))) | (apply qf_cc <;> assumption) | (apply qi_cc <;> assumption) | (apply ql_cc <;> assumption) | (apply qq_cc <;> assumption) | (apply qg_cc <;> assumption) | (apply qj_cc <;> assumption) | (apply qc_cc <;> assumption) | (apply qa_cc <;> assumption) | (apply qm_cc <;> assumption) | (apply qh_cc <;> assumption) | (apply qn_cc <;> assumption) | (apply qb_cc <;> assumption) | (apply qe_cc <;> assumption)))) | (apply qf_cc <;> assumption) | (apply qi_cc <;> assumption) | (apply ql_cc <;> assumption) | (apply qq_cc <;> assumption) | (apply qg_cc <;> assumption) | (apply qj_cc <;> assumption) | (apply qc_cc <;> assumption) | (apply qa_cc <;> assumption) | (apply qm_cc <;> assumption) | (apply qh_cc <;> assumption) | (apply qn_cc <;> assumption) | (apply qb_cc <;> assumption) | (apply qe_cc <;> assumption)))) | (apply qf_cc <;> assumption) | (apply qi_cc <;> assumption) | (apply ql_cc <;> assumption) | (apply qq_cc <;> assumption) | (apply qg_cc <;> assumption) | (apply qj_cc <;> assumption) | (apply qc_cc <;> assumption) | (apply qa_cc <;> assumption) | (apply qm_cc <;> assumption) | (apply qh_cc <;> assumption) | (apply qn_cc <;> assumption) | (apply qb_cc <;> assumption) | (apply qe_cc <;> assumption)))) | (apply qf_cc <;> assumption) | (apply qi_cc <;> assumption) | (apply ql_cc <;> assumption) | (apply qq_cc <;> assumption) | (apply qg_cc <;> assumption) | (apply qj_cc <;> assumption) | (apply qc_cc <;> assumption) | (apply qa_cc <;> assumption) | (apply qm_cc <;> assumption) | (apply qh_cc <;> assumption) | (apply qn_cc <;> assumption) | (apply qb_cc <;> assumption) | (apply qe_cc <;> assumption)) | simp [*]) ?_
  refine Tr.t (by first | exact (by first | (apply is_true; and_intros <;> (first | rfl | assumption | (apply qf_cc <;> assumption) | (apply qi_cc <;> assumption) | (apply ql_cc <;> assumption) | (apply qq_cc <;> assumption) | (apply qg_cc <;> assumption) | (apply qj_cc <;> assumption) | (apply qc_cc <;> assumption) | (apply qa_cc <;> assumption) | (apply qm_cc <;> assumption) | (apply qh_cc <;> assumption) | (apply qn_cc <;> assumption) | (apply qb_cc <;> assumption) | (apply qe_cc <;> assumption) | (first | (apply is_true; and_intros <;> (first | rfl | assumption | (apply qf_cc <;> assumption) | (apply qi_cc <;> assumption) | (apply ql_cc <;> assumption) | (apply qq_cc <;> assumption) | (apply qg_cc <;> assumption) | (apply qj_cc <;> assumption) | (apply qc_cc <;> assumption) | (apply qa_cc <;> assumption) | (apply qm_cc <;> assumption) | (apply qh_cc <;> assumption) | (apply qn_cc <;> assumption) | (apply qb_cc <;> assumption) | (apply qe_cc <;> assumption) | (first | (apply is_true; and_intros <;> (first | rfl | assumption | (apply qf_cc <;> assumption) | (apply qi_cc <;> assumption) | (apply ql_cc <;> assumption) | (apply qq_cc <;> assumption) | (apply qg_cc <;> assumption) | (apply qj_cc <;> assumption) | (apply qc_cc <;> assumption) | (apply qa_cc <;> assumption) | (apply qm_cc <;> assumption) | (apply qh_cc <;> assumption) | (apply qn_cc <;> assumption) | (apply qb_cc <;> assumption) | (apply qe_cc <;> assumption) | (first | (apply is_true; and_intros <;> (first | rfl | assumption | (apply qf_cc <;> assumption) | (apply qi_cc <;> assumption) | (apply ql_cc <;> assumption) | (apply qq_cc <;> assumption) | (apply qg_cc <;> assumption) | (apply qj_cc <;> assumption) | (apply qc_cc <;> assumption) | (apply qa_cc <;> assumption) | (apply qm_cc <;> assumption) | (apply qh_cc <;> assumption) | (apply qn_cc <;> assumption) | (apply qb_cc <;> assumption) | (apply qe_cc <;> assumption))) | (apply qf_cc <;> assumption) | (apply qi_cc <;> assumption) | (apply ql_cc <;> assumption) | (apply qq_cc <;> assumption) | (apply qg_cc <;> assumption) | (apply qj_cc <;> assumption) | (apply qc_cc <;> assumption) | (apply qa_cc <;> assumption) | (apply qm_cc <;> assumption) | (apply qh_cc <;> assumption) | (apply qn_cc <;> assumption) | (apply qb_cc <;> assumption) | (apply qe_cc <;> assumption)))) | (apply qf_cc <;> assumption) | (apply qi_cc <;> assumption) | (apply ql_cc <;> assumption) | (apply qq_cc <;> assumption) | (apply qg_cc <;> assumption) | (apply qj_cc <;> assumption) | (apply qc_cc <;> assumption) | (apply qa_cc <;> assumption) | (apply qm_cc <;> assumption) | (apply qh_cc <;> assumption) | (apply qn_cc <;> assumption) | (apply qb_cc <;> assumption) | (apply qe_cc <;> assumption)))) | (apply qf_cc <;> assumption) | (apply qi_cc <;> assumption) | (apply ql_cc <;> assumption) | (apply qq_cc <;> assumption) | (apply qg_cc <;> assumption) | (apply qj_cc <;> assumption) | (apply qc_cc <;> assumption) | (apply qa_cc <;> assumption) | (apply qm_cc <;> assumption) | (apply qh_cc <;> assumption) | (apply qn_cc <;> assumption) | (apply qb_cc <;> assumption) | (apply qe_cc <;> assumption)))) | (apply qf_cc <;> assumption) | (apply qi_cc <;> assumption) | (apply ql_cc <;> assumption) | (apply qq_cc <;> assumption) | (apply qg_cc <;> assumption) | (apply qj_cc <;> assumption) | (apply qc_cc <;> assumption) | (apply qa_cc <;> assumption) | (apply qm_cc <;> assumption) | (apply qh_cc <;> assumption) | (apply qn_cc <;> assumption) | (apply qb_cc <;> assumption) | (apply qe_cc <;> assumption)) | simp [*]) ?_
  refine Tr.t (by first | exact (by first | (apply is_true; and_intros <;> (first | rfl | assumption | (apply qf_cc <;> assumption) | (apply qi_cc <;> assumption) | (apply ql_cc <;> assumption) | (apply qq_cc <;> assumption) | (apply qg_cc <;> assumption) | (apply qj_cc <;> assumption) | (apply qc_cc <;> assumption) | (apply qa_cc <;> assumption) | (apply qm_cc <;> assumption) | (apply qh_cc <;> assumption) | (apply qn_cc <;> assumption) | (apply qb_cc <;> assumption) | (apply qe_cc <;> assumption) | (first | (apply is_true; and_intros <;> (first | rfl | assumption | (apply qf_cc <;> assumption) | (apply qi_cc <;> assumption) | (apply ql_cc <;> assumption) | (apply qq_cc <;> assumption) | (apply qg_cc <;> assumption) | (apply qj_cc <;> assumption) | (apply qc_cc <;> assumption) | (apply qa_cc <;> assumption) | (apply qm_cc <;> assumption) | (apply qh_cc <;> assumption) | (apply qn_cc <;> assumption) | (apply qb_cc <;> assumption) | (apply qe_cc <;> assumption) | (first | (apply is_true; and_intros <;> (first | rfl | assumption | (apply qf_cc <;> assumption) | (apply qi_cc <;> assumption) | (apply ql_cc <;> assumption) | (apply qq_cc <;> assumption) | (apply qg_cc <;> assumption) | (apply qj_cc <;> assumption) | (apply qc_cc <;> assumption) | (apply qa_cc <;> assumption) | (apply qm_cc <;> assumption) | (apply qh_cc <;> assumption) | (apply qn_cc <;> assumption) | (apply qb_cc <;> assumption) | (apply qe_cc <;> assumption) | (first | (apply is_true; and_intros <;> (first | rfl | assumption | (apply qf_cc <;> assumption) | (apply qi_cc <;> assumption) | (apply ql_cc <;> assumption) | (apply qq_cc <;> assumption) | (apply qg_cc <;> assumption) | (apply qj_cc <;> assumption) | (apply qc_cc <;> assumption) | (apply qa_cc <;> assumption) | (apply qm_cc <;> assumption) | (apply qh_cc <;> assumption) | (apply qn_cc <;> assumption) | (apply qb_cc <;> assumption) | (apply qe_cc <;> assumption))) | (apply qf_cc <;> assumption) | (apply qi_cc <;> assumption) | (apply ql_cc <;> assumption) | (apply qq_cc <;> assumption) | (apply qg_cc <;> assumption) | (apply qj_cc <;> assumption) | (apply qc_cc <;> assumption) | (apply qa_cc <;> assumption) | (apply qm_cc <;> assumption) | (apply qh_cc <;> assumption) | (apply qn_cc <;> assumption) | (apply qb_cc <;> assumption) | (apply qe_cc <;> assumption)))) | (apply qf_cc <;> assumption) | (apply qi_cc <;> assumption) | (apply ql_cc <;> assumption) | (apply qq_cc <;> assumption) | (apply qg_cc <;> assumption) | (apply qj_cc <;> assumption) | (apply qc_cc <;> assumption) | (apply qa_cc <;> assumption) | (apply qm_cc <;> assumption) | (apply qh_cc <;> assumption) | (apply qn_cc <;> assumption) | (apply qb_cc <;> assumption) | (apply qe_cc <;> assumption)))) | (apply qf_cc <;> assumption) | (apply qi_cc <;> assumption) | (apply ql_cc <;> assumption) | (apply qq_cc <;> assumption) | (apply qg_cc <;> assumption) | (apply qj_cc <;> assumption) | (apply qc_cc <;> assumption) | (apply qa_cc <;> assumption) | (apply qm_cc <;> assumption) | (apply qh_cc <;> assumption) | (apply qn_cc <;> assumption) | (apply qb_cc <;> assumption) | (apply qe_cc <;> assumption)))) | (apply qf_cc <;> assumption) | (apply qi_cc <;> assumption) | (apply ql_cc <;> assumption) | (apply qq_cc <;> assumption) | (apply qg_cc <;> assumption) | (apply qj_cc <;> assumption) | (apply qc_cc <;> assumption) | (apply qa_cc <;> assumption) | (apply qm_cc <;> assumption) | (apply qh_cc <;> assumption) | (apply qn_cc <;> assumption) | (apply qb_cc <;> assumption) | (apply qe_cc <;> assumption)) | simp [*]) ?_
  refine Tr.t (by first | exact (by first | (apply qa_cc <;> assumption) | (first | (apply is_true; and_intros <;> (first | rfl | assumption | (apply qf_cc <;> assumption) | (apply qi_cc <;> assumption) | (apply ql_cc <;> assumption) | (apply qq_cc <;> assumption) | (apply qg_cc <;> assumption) | (apply qj_cc <;> assumption) | (apply qc_cc <;> assumption) | (apply qa_cc <;> assumption) | (apply qm_cc <;> assumption) | (apply qh_cc <;> assumption) | (apply qn_cc <;> assumption) | (apply qb_cc <;> assumption) | (apply qe_cc <;> assumption) | (first | (apply is_true; and_intros <;> (first | rfl | assumption | (apply qf_cc <;> assumption) | (apply qi_cc <;> assumption) | (apply ql_cc <;> assumption) | (apply qq_cc <;> assumption) | (apply qg_cc <;> assumption) | (apply qj_cc <;> assumption) | (apply qc_cc <;> assumption) | (apply qa_cc <;> assumption) | (apply qm_cc <;> assumption) | (apply qh_cc <;> assumption) | (apply qn_cc <;> assumption) | (apply qb_cc <;> assumption) | (apply qe_cc <;> assumption))) | (apply qf_cc <;> assumption) | (apply qi_cc <;> assumption) | (apply ql_cc <;> assumption) | (apply qq_cc <;> assumption) | (apply qg_cc <;> assumption) | (apply qj_cc <;> assumption) | (apply qc_cc <;> assumption) | (apply qa_cc <;> assumption) | (apply qm_cc <;> assumption) | (apply qh_cc <;> assumption) | (apply qn_cc <;> assumption) | (apply qb_cc <;> assumption) | (apply qe_cc <;> assumption)))) | (apply qf_cc <;> assumption) | (apply qi_cc <;> assumption) | (apply ql_cc <;> assumption) | (apply qq_cc <;> assumption) | (apply qg_cc <;> assumption) | (apply qj_cc <;> assumption) | (apply qc_cc <;> assumption) | (apply qa_cc <;> assumption) | (apply qm_cc <;> assumption) | (apply qh_cc <;> assumption) | (apply qn_cc <;> assumption) | (apply qb_cc <;> assumption) | (apply qe_cc <;> assumption))) | simp [*]) ?_
  refine Tr.t (by first | exact (by first | (apply is_true; and_intros <;> (first | rfl | assumption | (apply qf_cc <;> assumption) | (apply qi_cc <;> assumption) | (apply ql_cc <;> assumption) | (apply qq_cc <;> assumption) | (apply qg_cc <;> assumption) | (apply qj_cc <;> assumption) | (apply qc_cc <;> assumption) | (apply qa_cc <;> assumption) | (apply qm_cc <;> assumption) | (apply qh_cc <;> assumption) | (apply qn_cc <;> assumption) | (apply qb_cc <;> assumption) | (apply qe_cc <;> assumption) | (first | (apply is_true; and_intros <;> (first | rfl | assumption | (apply qf_cc <;> assumption) | (apply qi_cc <;> assumption) | (apply ql_cc <;> assumption) | (apply qq_cc <;> assumption) | (apply qg_cc <;> assumption) | (apply qj_cc <;> assumption) | (apply qc_cc <;> assumption) | (apply qa_cc <;> assumption) | (apply qm_cc <;> assumption) | (apply qh_cc <;> assumption) | (apply qn_cc <;> assumption) | (apply qb_cc <;> assumption) | (apply qe_cc <;> assumption) | (first | (apply is_true; and_intros <;> (first | rfl | assumption | (apply qf_cc <;> assumption) | (apply qi_cc <;> assumption) | (apply ql_cc <;> assumption) | (apply qq_cc <;> assumption) | (apply qg_cc <;> assumption) | (apply qj_cc <;> assumption) | (apply qc_cc <;> assumption) | (apply qa_cc <;> assumption) | (apply qm_cc <;> assumption) | (apply qh_cc <;> assumption) | (apply qn_cc <;> assumption) | (apply qb_cc <;> assumption) | (apply qe_cc <;> assumption) | (first | (apply is_true; and_intros <;> (first | rfl | assumption | (apply qf_cc <;> assumption) | (apply qi_cc <;> assumption) | (apply ql_cc <;> assumption) | (apply qq_cc <;> assumption) | (apply qg_cc <;> assumption) | (apply qj_cc <;> assumption) | (apply qc_cc <;> assumption) | (apply qa_cc <;> assumption) | (apply qm_cc <;> assumption) | (apply qh_cc <;> assumption) | (apply qn_cc <;> assumption) | (apply qb_cc <;> assumption) | (apply qe_cc <;> assumption))) | (apply qf_cc <;> assumption) | (apply qi_cc <;> assumption) | (apply ql_cc <;> assumption) | (apply qq_cc <;> assumption) | (apply qg_cc <;> assumption) | (apply qj_cc <;> assumption) | (apply qc_cc <;> assumption) | (apply qa_cc <;> assumption) | (apply qm_cc <;> assumption) | (apply qh_cc <;> assumption) | (apply qn_cc <;> assumption) | (apply qb_cc <;> assumption) | (apply qe_cc <;> assumption)))) | (apply qf_cc <;> assumption) | (apply qi_cc <;> assumption) | (apply ql_cc <;> assumption) | (apply qq_cc <;> assumption) | (apply qg_cc <;> assumption) | (apply qj_cc <;> assumption) | (apply qc_cc <;> assumption) | (apply qa_cc <;> assumption) | (apply qm_cc <;> assumption) | (apply qh_cc <;> assumption) | (apply qn_cc <;> assumption) | (apply qb_cc <;> assumption) | (apply qe_cc <;> assumption)))) | (apply qf_cc <;> assumption) | (apply qi_cc <;> assumption) | (apply ql_cc <;> assumption) | (apply qq_cc <;> assumption) | (apply qg_cc <;> assumption) | (apply qj_cc <;> assumption) | (apply qc_cc <;> assumption) | (apply qa_cc <;> assumption) | (apply qm_cc <;> assumption) | (apply qh_cc <;> assumption) | (apply qn_cc <;> assumption) | (apply qb_cc <;> assumption) | (apply qe_cc <;> assumption)))) | (apply qf_cc <;> assumption) | (apply qi_cc <;> assumption) | (apply ql_cc <;> assumption) | (apply qq_cc <;> assumption) | (apply qg_cc <;> assumption) | (apply qj_cc <;> assumption) | (apply qc_cc <;> assumption) | (apply qa_cc <;> assumption) | (apply qm_cc <;> assumption) | (apply qh_cc <;> assumption) | (apply qn_cc <;> assumption) | (apply qb_cc <;> assumption) | (apply qe_cc <;> assumption)) | simp [*]) ?_
  refine Tr.t (by first | exact (by first | (apply is_true; and_intros <;> (first | rfl | assumption | (apply qf_cc <;> assumption) | (apply qi_cc <;> assumption) | (apply ql_cc <;> assumption) | (apply qq_cc <;> assumption) | (apply qg_cc <;> assumption) | (apply qj_cc <;> assumption) | (apply qc_cc <;> assumption) | (apply qa_cc <;> assumption) | (apply qm_cc <;> assumption) | (apply qh_cc <;> assumption) | (apply qn_cc <;> assumption) | (apply qb_cc <;> assumption) | (apply qe_cc <;> assumption) | (first | (apply is_true; and_intros <;> (first | rfl | assumption | (apply qf_cc <;> assumption) | (apply qi_cc <;> assumption) | (apply ql_cc <;> assumption) | (apply qq_cc <;> assumption) | (apply qg_cc <;> assumption) | (apply qj_cc <;> assumption) | (apply qc_cc <;> assumption) | (apply qa_cc <;> assumption) | (apply qm_cc <;> assumption) | (apply qh_cc <;> assumption) | (apply qn_cc <;> assumption) | (apply qb_cc <;> assumption) | (apply qe_cc <;> assumption) | (first | (apply is_true; and_intros <;> (first | rfl | assumption | (apply qf_cc <;> assumption) | (apply qi_cc <;> assumption) | (apply ql_cc <;> assumption) | (apply qq_cc <;> assumption) | (apply qg_cc <;> assumption) | (apply qj_cc <;> assumption) | (apply qc_cc <;> assumption) | (apply qa_cc <;> assumption) | (apply qm_cc <;> assumption) | (apply qh_cc <;> assumption) | (apply qn_cc <;> assumption) | (apply qb_cc <;> assumption) | (apply qe_cc <;> assumption) | (first | (apply is_true; and_intros <;> (first | rfl | assumption | (apply qf_cc <;> assumption) | (apply qi_cc <;> assumption) | (apply ql_cc <;> assumption) | (apply qq_cc <;> assumption) | (apply qg_cc <;> assumption) | (apply qj_cc <;> assumption) | (apply qc_cc <;> assumption) | (apply qa_cc <;> assumption) | (apply qm_cc <;> assumption) | (apply qh_cc <;> assumption) | (apply qn_cc <;> assumption) | (apply qb_cc <;> assumption) | (apply qe_cc <;> assumption))) | (apply qf_cc <;> assumption) | (apply qi_cc <;> assumption) | (apply ql_cc <;> assumption) | (apply qq_cc <;> assumption) | (apply qg_cc <;> assumption) | (apply qj_cc <;> assumption) | (apply qc_cc <;> assumption) | (apply qa_cc <;> assumption) | (apply qm_cc <;> assumption) | (apply qh_cc <;> assumption) | (apply qn_cc <;> assumption) | (apply qb_cc <;> assumption) | (apply qe_cc <;> assumption)))) | (apply qf_cc <;> assumption) | (apply qi_cc <;> assumption) | (apply ql_cc <;> assumption) | (apply qq_cc <;> assumption) | (apply qg_cc <;> assumption) | (apply qj_cc <;> assumption) | (apply qc_cc <;> assumption) | (apply qa_cc <;> assumption) | (apply qm_cc <;> assumption) | (apply qh_cc <;> assumption) | (apply qn_cc <;> assumption) | (apply qb_cc <;> assumption) | (apply qe_cc <;> assumption)))) | (apply qf_cc <;> assumption) | (apply qi_cc <;> assumption) | (apply ql_cc <;> assumption) | (apply qq_cc <;> assumption) | (apply qg_cc <;> assumption) | (apply qj_cc <;> assumption) | (apply qc_cc <;> assumption) | (apply qa_cc <;> assumption) | (apply qm_cc <;> assumption) | (apply qh_cc <;> assumption) | (apply qn_cc <;> assumption) | (apply qb_cc <;> assumption) | (apply qe_cc <;> assumption)))) | (apply qf_cc <;> assumption) | (apply qi_cc <;> assumption) | (apply ql_cc <;> assumption) | (apply qq_cc <;> assumption) | (apply qg_cc <;> assumption) | (apply qj_cc <;> assumption) | (apply qc_cc <;> assumption) | (apply qa_cc <;> assumption) | (apply qm_cc <;> assumption) | (apply qh_cc <;> assumption) | (apply qn_cc <;> assumption) | (apply qb_cc <;> assumption) | (apply qe_cc <;> assumption)) | simp [*]) ?_
  refine Tr.t (by first | exact (by first | (apply is_true; and_intros <;> (first | rfl | assumption | (apply qf_cc <;> assumption) | (apply qi_cc <;> assumption) | (apply ql_cc <;> assumption) | (apply qq_cc <;> assumption) | (apply qg_cc <;> assumption) | (apply qj_cc <;> assumption) | (apply qc_cc <;> assumption) | (apply qa_cc <;> assumption) | (apply qm_cc <;> assumption) | (apply qh_cc <;> assumption) | (apply qn_cc <;> assumption) | (apply qb_cc <;> assumption) | (apply qe_cc <;> assumption) | (first | (apply is_true; and_intros <;> (first | rfl | assumption | (apply qf_cc <;> assumption) | (apply qi_cc <;> assumption) | (apply ql_cc <;> assumption) | (apply qq_cc <;> assumption) | (apply qg_cc <;> assumption) | (apply qj_cc <;> assumption) | (apply qc_cc <;> assumption) | (apply qa_cc <;> assumption) | (apply qm_cc <;> assumption) | (apply qh_cc <;> assumption) | (apply qn_cc <;> assumption) | (apply qb_cc <;> assumption) | (apply qe_cc <;> assumption) | (first | (apply is_true; and_intros <;> (first | rfl | assumption | (apply qf_cc <;> assumption) | (apply qi_cc <;> assumption) | (apply ql_cc <;> assumption) | (apply qq_cc <;> assumption) | (apply qg_cc <;> assumption) | (apply qj_cc <;> assumption) | (apply qc_cc <;> assumption) | (apply qa_cc <;> assumption) | (apply qm_cc <;> assumption) | (apply qh_cc <;> assumption) | (apply qn_cc <;> assumption) | (apply qb_cc <;> assumption) | (apply qe_cc <;> assumption) | (first | (apply is_true; and_intros <;> (first | rfl | assumption | (apply qf_cc <;> assumption) | (apply qi_cc <;> assumption) | (apply ql_cc <;> assumption) | (apply qq_cc <;> assumption) | (apply qg_cc <;> assumption) | (apply qj_cc <;> assumption) | (apply qc_cc <;> assumption) | (apply qa_cc <;> assumption) | (apply qm_cc <;> assumption) | (apply qh_cc <;> assumption) | (apply qn_cc <;> assumption) | (apply qb_cc <;> assumption) | (apply qe_cc <;> assumption))) | (apply qf_cc <;> assumption) | (apply qi_cc <;> assumption) | (apply ql_cc <;> assumption) | (apply qq_cc <;> assumption) | (apply qg_cc <;> assumption) | (apply qj_cc <;> assumption) | (apply qc_cc <;> assumption) | (apply qa_cc <;> assumption) | (apply qm_cc <;> assumption) | (apply qh_cc <;> assumption) | (apply qn_cc <;> assumption) | (apply qb_cc <;> assumption) | (apply qe_cc <;> assumption)))) | (apply qf_cc <;> assumption) | (apply qi_cc <;> assumption) | (apply ql_cc <;> assumption) | (apply qq_cc <;> assumption) | (apply qg_cc <;> assumption) | (apply qj_cc <;> assumption) | (apply qc_cc <;> assumption) | (apply qa_cc <;> assumption) | (apply qm_cc <;> assumption) | (apply qh_cc <;> assumption) | (apply qn_cc <;> assumption) | (apply qb_cc <;> assumption) | (apply qe_cc <;> assumption)))) | (apply qf_cc <;> assumption) | (apply qi_cc <;> assumption) | (apply ql_cc <;> assumption) | (apply qq_cc <;> assumption) | (apply qg_cc <;> assumption) | (apply qj_cc <;> assumption) | (apply qc_cc <;> assumption) | (apply qa_cc <;> assumption) | (apply qm_cc <;> assumption) | (apply qh_cc <;> assumption) | (apply qn_cc <;> assumption) | (apply qb_cc <;> assumption) | (apply qe_cc <;> assumption)))) | (apply qf_cc <;> assumption) | (apply qi_cc <;> assumption) | (apply ql_cc <;> assumption) | (apply qq_cc <;> assumption) | (apply qg_cc <;> assumption) | (apply qj_cc <;> assumption) | (apply qc_cc <;> assumption) | (apply qa_cc <;> assumption) | (apply qm_cc <;> assumption) | (apply qh_cc <;> assumption) | (apply qn_cc <;> assumption) | (apply qb_cc <;> assumption) | (apply qe_cc <;> assumption)) | simp [*]) ?_
  refine Tr.t (by first | exact (by first | (apply qe_cc <;> assumption) | (first | (apply is_true; and_intros <;> (first | rfl | assumption | (apply qf_cc <;> assumption) | (apply qi_cc <;> assumption) | (apply ql_cc <;> assumption) | (apply qq_cc <;> assumption) | (apply qg_cc <;> assumption) | (apply qj_cc <;> assumption) | (apply qc_cc <;> assumption) | (apply qa_cc <;> assumption) | (apply qm_cc <;> assumption) | (apply qh_cc <;> assumption) | (apply qn_cc <;> assumption) | (apply qb_cc <;> assumption) | (apply qe_cc <;> assumption) | (first | (apply is_true; and_intros <;> (first | rfl | assumption | (apply qf_cc <;> assumption) | (apply qi_cc <;> assumption) | (apply ql_cc <;> assumption) | (apply qq_cc <;> assumption) | (apply qg_cc <;> assumption) | (apply qj_cc <;> assumption) | (apply qc_cc <;> assumption) | (apply qa_cc <;> assumption) | (apply qm_cc <;> assumption) | (apply qh_cc <;> assumption) | (apply qn_cc <;> assumption) | (apply qb_cc <;> assumption) | (apply qe_cc <;> assumption))) | (apply qf_cc <;> assumption) | (apply qi_cc <;> assumption) | (apply ql_cc <;> assumption) | (apply qq_cc <;> assumption) | (apply qg_cc <;> assumption) | (apply qj_cc <;> assumption) | (apply qc_cc <;> assumption) | (apply qa_cc <;> assumption) | (apply qm_cc <;> assumption) | (apply qh_cc <;> assumption) | (apply qn_cc <;> assumption) | (apply qb_cc <;> assumption) | (apply qe_cc <;> assumption)))) | (apply qf_cc <;> assumption) | (apply qi_cc <;> assumption) | (apply ql_cc <;> assumption) | (apply qq_cc <;> assumption) | (apply qg_cc <;> assumption) | (apply qj_cc <;> assumption) | (apply qc_cc <;> assumption) | (apply qa_cc <;> assumption) | (apply qm_cc <;> assumption) | (apply qh_cc <;> assumption) | (apply qn_cc <;> assumption) | (apply qb_cc <;> assumption) | (apply qe_cc <;> assumption))) | simp [*]) ?_
  refine Tr.t (by first | exact (by first | (apply is_true; and_intros <;> (first | rfl | assumption | (apply qf_cc <;> assumption) | (apply qi_cc <;> assumption) | (apply ql_cc <;> assumption) | (apply qq_cc <;> assumption) | (apply qg_cc <;> assumption) | (apply qj_cc <;> assumption) | (apply qc_cc <;> assumption) | (apply qa_cc <;> assumption) | (apply qm_cc <;> assumption) | (apply qh_cc <;> assumption) | (apply qn_cc <;> assumption) | (apply qb_cc <;> assumption) | (apply qe_cc <;> assumption) | (first | (apply is_true; and_intros <;> (first | rfl | assumption | (apply qf_cc <;> assumption) | (apply qi_cc <;> assumption) | (apply ql_cc <;> assumption) | (apply qq_cc <;> assumption) | (apply qg_cc <;> assumption) | (apply qj_cc <;> assumption) | (apply qc_cc <;> assumption) | (apply qa_cc <;> assumption) | (apply qm_cc <;> assumption) | (apply qh_cc <;> assumption) | (apply qn_cc <;> assumption) | (apply qb_cc <;> assumption) | (apply qe_cc <;> assumption) | (first | (apply is_true; and_intros <;> (first | rfl | assumption | (apply qf_cc <;> assumption) | (apply qi_cc <;> assumption) | (apply ql_cc <;> assumption) | (apply qq_cc <;> assumption) | (apply qg_cc <;> assumption) | (apply qj_cc <;> assumption) | (apply qc_cc <;> assumption) | (apply qa_cc <;> assumption) | (apply qm_cc <;> assumption) | (apply qh_cc <;> assumption) | (apply qn_cc <;> assumption) | (apply qb_cc <;> assumption) | (apply qe_cc <;> assumption) | (first | (apply is_true; and_intros <;> (first | rfl | assumption | (apply qf_cc <;> assumption) | (apply qi_cc <;> assumption) | (apply ql_cc <;> assumption) | (apply qq_cc <;> assumption) | (apply qg_cc <;> assumption) | (apply qj_cc <;> assumption) | (apply qc_cc <;> assumption) | (apply qa_cc <;> assumption) | (apply qm_cc <;> assumption) | (apply qh_cc <;> assumption) | (apply qn_cc <;> assumption) | (apply qb_cc <;> assumption) | (apply qe_cc <;> assumption))) | (apply qf_cc <;> assumption) | (apply qi_cc <;> assumption) | (apply ql_cc <;> assumption) | (apply qq_cc <;> assumption) | (apply qg_cc <;> assumption) | (apply qj_cc <;> assumption) | (apply qc_cc <;> assumption) | (apply qa_cc <;> assumption) | (apply qm_cc <;> assumption) | (apply qh_cc <;> assumption) | (apply qn_cc <;> assumption) | (apply qb_cc <;> assumption) | (apply qe_cc <;> assumption)))) | (apply qf_cc <;> assumption) | (apply qi_cc <;> assumption) | (apply ql_cc <;> assumption) | (apply qq_cc <;> assumption) | (apply qg_cc <;> assumption) | (apply qj_cc <;> assumption) | (apply qc_cc <;> assumption) | (apply qa_cc <;> assumption) | (apply qm_cc <;> assumption) | (apply qh_cc <;> assumption) | (apply qn_cc <;> assumption) | (apply qb_cc <;> assumption) | (apply qe_cc <;> assumption)))) | (apply qf_cc <;> assumption) | (apply qi_cc <;> assumption) | (apply ql_cc <;> assumption) | (apply qq_cc <;> assumption) | (apply qg_cc <;> assumption) | (apply qj_cc <;> assumption) | (apply qc_cc <;> assumption) | (apply qa_cc <;> assumption) | (apply qm_cc <;> assumption) | (apply qh_cc <;> assumption) | (apply qn_cc <;> assumption) | (apply qb_cc <;> assumption) | (apply qe_cc <;> assumption)))) | (apply qf_cc <;> assumption) | (apply qi_cc <;> assumption) | (apply ql_cc <;> assumption) | (apply qq_cc <;> assumption) | (apply qg_cc <;> assumption) | (apply qj_cc <;> assumption) | (apply qc_cc <;> assumption) | (apply qa_cc <;> assumption) | (apply qm_cc <;> assumption) | (apply qh_cc <;> assumption) | (apply qn_cc <;> assumption) | (apply qb_cc <;> assumption) | (apply qe_cc <;> assumption)) | simp [*]) ?_
  refine Tr.n (by first | (simp [qp_vm, qk_v2, qr_v]; done) | (simp only [qp_vm, qk_v2, qr_v, decide_eq_true_eq]; omega) | (simp [qp_vm, qk_v2, qr_v]; omega) | (simp (disch := omega) only [qp_vm, qk_v2, qr_v, neg_bif, decide_eq_true_eq]; omega) | (simp (disch := omega) [qp_vm, qk_v2, qr_v, neg_bif]; done) | (simp (disch := omega) [qp_vm, qk_v2, qr_v, neg_bif]; omega)) ?_
  refine Tr.t (by first | exact (by first | (apply is_true; and_intros <;> (first | rfl | assumption | (apply qf_cc <;> assumption) | (apply qi_cc <;> assumption) | (apply ql_cc <;> assumption) | (apply qq_cc <;> assumption) | (apply qg_cc <;> assumption) | (apply qj_cc <;> assumption) | (apply qc_cc <;> assumption) | (apply qa_cc <;> assumption) | (apply qm_cc <;> assumption) | (apply qh_cc <;> assumption) | (apply qn_cc <;> assumption) | (apply qb_cc <;> assumption) | (apply qe_cc <;> assumption) | (first | (apply is_true; and_intros <;> (first | rfl | assumption | (apply qf_cc <;> assumption) | (apply qi_cc <;> assumption) | (apply ql_cc <;> assumption) | (apply qq_cc <;> assumption) | (apply qg_cc <;> assumption) | (apply qj_cc <;> assumption) | (apply qc_cc <;> assumption) | (apply qa_cc <;> assumption) | (apply qm_cc <;> assumption) | (apply qh_cc <;> assumption) | (apply qn_cc <;> assumption) | (apply qb_cc <;> assumption) | (apply qe_cc <;> assumption) | (first | (apply is_true; and_intros <;> (first | rfl | assumption | (apply qf_cc <;> assumption) | (apply qi_cc <;> assumption) | (apply ql_cc <;> assumption) | (apply qq_cc <;> assumption) | (apply qg_cc <;> assumption) | (apply qj_cc <;> assumption) | (apply qc_cc <;> assumption) | (apply qa_cc <;> assumption) | (apply qm_cc <;> assumption) | (apply qh_cc <;> assumption) | (apply qn_cc <;> assumption) | (apply qb_cc <;> assumption) | (apply qe_cc <;> assumption) | (first | (apply is_true; and_intros <;> (first | rfl | assumption | (apply qf_cc <;> assumption) | (apply qi_cc <;> assumption) | (apply ql_cc <;> assumption) | (apply qq_cc <;> assumption) | (apply qg_cc <;> assumption) | (apply qj_cc <;> assumption) | (apply qc_cc <;> assumption) | (apply qa_cc <;> assumption) | (apply qm_cc <;> assumption) | (apply qh_cc <;> assumption) | (apply qn_cc <;> assumption) | (apply qb_cc <;> assumption) | (apply qe_cc <;> assumption))) | (apply qf_cc <;> assumption) | (apply qi_cc <;> assumption) | (apply ql_cc <;> assumption) | (apply qq_cc <;> assumption) | (apply qg_cc <;> assumption) | (apply qj_cc <;> assumption) | (apply qc_cc <;> assumption) | (apply qa_cc <;> assumption) | (apply qm_cc <;> assumption) | (apply qh_cc <;> assumption) | (apply qn_cc <;> assumption) | (apply qb_cc <;> assumption) | (apply qe_cc <;> assumption)))) | (apply qf_cc <;> assumption) | (apply qi_cc <;> assumption) | (apply ql_cc <;> assumption) | (apply qq_cc <;> assumption) | (apply qg_cc <;> assumption) | (apply qj_cc <;> assumption) | (apply qc_cc <;> assumption) | (apply qa_cc <;> assumption) | (apply qm_cc <;> assumption) | (apply qh_cc <;> assumption) | (apply qn_cc <;> assumption) | (apply qb_cc <;> assumption) | (apply qe_cc <;> assumption)))) | (apply qf_cc <;> assumption) | (apply qi_cc <;> assumption) | (apply ql_cc <;> assumption) | (apply qq_cc <;> assumption) | (apply qg_cc <;> assumption) | (apply qj_cc <;> assumption) | (apply qc_cc <;> assumption) | (apply qa_cc <;> assumption) | (apply qm_cc <;> assumption) | (apply qh_cc <;> assumption) | (apply qn_cc <;> assumption) | (apply qb_cc <;> assumption) | (apply qe_cc <;> assumption)))) | (apply qf_cc <;> assumption) | (apply qi_cc <;> assumption) | (apply ql_cc <;> assumption) | (apply qq_cc <;> assumption) | (apply qg_cc <;> assumption) | (apply qj_cc <;> assumption) | (apply qc_cc <;> assumption) | (apply qa_cc <;> assumption) | (apply qm_cc <;> assumption) | (apply qh_cc <;> assumption) | (apply qn_cc <;> assumption) | (apply qb_cc <;> assumption) | (apply qe_cc <;> assumption)) | simp [*]) ?_
  refine Tr.t (by first | exact (by first | (apply is_true; and_intros <;> (first | rfl | assumption | (apply qf_cc <;> assumption) | (apply qi_cc <;> assumption) | (apply ql_cc <;> assumption) | (apply qq_cc <;> assumption) | (apply qg_cc <;> assumption) | (apply qj_cc <;> assumption) | (apply qc_cc <;> assumption) | (apply qa_cc <;> assumption) | (apply qm_cc <;> assumption) | (apply qh_cc <;> assumption) | (apply qn_cc <;> assumption) | (apply qb_cc <;> assumption) | (apply qe_cc <;> assumption) | (first | (apply is_true; and_intros <;> (first | rfl | assumption | (apply qf_cc <;> assumption) | (apply qi_cc <;> assumption) | (apply ql_cc <;> assumption) | (apply qq_cc <;> assumption) | (apply qg_cc <;> assumption) | (apply qj_cc <;> assumption) | (apply qc_cc <;> assumption) | (apply qa_cc <;> assumption) | (apply qm_cc <;> assumption) | (apply qh_cc <;> assumption) | (apply qn_cc <;> assumption) | (apply qb_cc <;> assumption) | (apply qe_cc <;> assumption) | (first | (apply is_true; and_intros <;> (first | rfl | assumption | (apply qf_cc <;> assumption) | (apply qi_cc <;> assumption) | (apply ql_cc <;> assumption) | (apply qq_cc <;> assumption) | (apply qg_cc <;> assumption) | (apply qj_cc <;> assumption) | (apply qc_cc <;> assumption) | (apply qa_cc <;> assumption) | (apply qm_cc <;> assumption) | (apply qh_cc <;> assumption) | (apply qn_cc <;> assumption) | (apply qb_cc <;> assumption) | (apply qe_cc <;> assumption) | (first | (apply is_true; and_intros <;> (first | rfl | assumption | (apply qf_cc <;> assumption) | (apply qi_cc <;> assumption) | (apply ql_cc <;> assumption) | (apply qq_cc <;> assumption) | (apply qg_cc <;> assumption) | (apply qj_cc <;> assumption) | (apply qc_cc <;> assumption) | (apply qa_cc <;> assumption) | (apply qm_cc <;> assumption) | (apply qh_cc <;> assumption) | (apply qn_cc <;> assumption) | (apply qb_cc <;> assumption) | (apply qe_cc <;> assumption))) | (apply qf_cc <;> assumption) | (apply qi_cc <;> assumption) | (apply ql_cc <;> assumption) | (apply qq_cc <;> assumption) | (apply qg_cc <;> assumption) | (apply qj_cc <;> assumption) | (apply qc_cc <;> assumption) | (apply qa_cc <;> assumption) | (apply qm_cc <;> assumption) | (apply qh_cc <;> assumption) | (apply qn_cc <;> assumption) | (apply qb_cc <;> assumption) | (apply qe_cc <;> assumption)))) | (apply qf_cc <;> assumption) | (apply qi_cc <;> assumption) | (apply ql_cc <;> assumption) | (apply qq_cc <;> assumption) | (apply qg_cc <;> assumption) | (apply qj_cc <;> assumption) | (apply qc_cc <;> assumption) | (apply qa_cc <;> assumption) | (apply qm_cc <;> assumption) | (apply qh_cc <;> assumption) | (apply qn_cc <;> assumption) | (apply qb_cc <;> assumption) | (apply qe_cc <;> assumption)))) | (apply qf_cc <;> assumption) | (apply qi_cc <;> assumption) | (apply ql_cc <;> assumption) | (apply qq_cc <;> assumption) | (apply qg_cc <;> assumption) | (apply qj_cc <;> assumption) | (apply qc_cc <;> assumption) | (apply qa_cc <;> assumption) | (apply qm_cc <;> assumption) | (apply qh_cc <;> assumption) | (apply qn_cc <;> assumption) | (apply qb_cc <;> assumption) | (apply qe_cc <;> assumption)))) | (apply qf_cc <;> assumption) | (apply qi_cc <;> assumption) | (apply ql_cc <;> assumption) | (apply qq_cc <;> assumption) | (apply qg_cc <;> assumption) | (apply qj_cc <;> assumption) | (apply qc_cc <;> assumption) | (apply qa_cc <;> assumption) | (apply qm_cc <;> assumption) | (apply qh_cc <;> assumption) | (apply qn_cc <;> assumption) | (apply qb_cc <;> assumption) | (apply qe_cc <;> assumption)) | simp [*]) ?_
  refine Tr.n (by first | (simp [qp_vm, qk_v2, qr_v]; done) | (simp only [qp_vm, qk_v2, qr_v, decide_eq_true_eq]; omega) | (simp [qp_vm, qk_v2, qr_v]; omega) | (simp (disch := omega) only [qp_vm, qk_v2, qr_v, neg_bif, decide_eq_true_eq]; omega) | (simp (disch := omega) [qp_vm, qk_v2, qr_v, neg_bif]; done) | (simp (disch := omega) [qp_vm, qk_v2, qr_v, neg_bif]; omega)) ?_
  refine Tr.t (by first | exact (by first | (apply is_true; and_intros <;> (first | rfl | assumption | (apply qf_cc <;> assumption) | (apply qi_cc <;> assumption) | (apply ql_cc <;> assumption) | (apply qq_cc <;> assumption) | (apply qg_cc <;> assumption) | (apply qj_cc <;> assumption) | (apply qc_cc <;> assumption) | (apply qa_cc <;> assumption) | (apply qm_cc <;> assumption) | (apply qh_cc <;> assumption) | (apply qn_cc <;> assumption) | (apply qb_cc <;> assumption) | (apply qe_cc <;> assumption) | (first | (apply is_true; and_intros <;> (first | rfl | assumption | (apply qf_cc <;> assumption) | (apply qi_cc <;> assumption) | (apply ql_cc <;> assumption) | (apply qq_cc <;> assumption) | (apply qg_cc <;> assumption) | (apply qj_cc <;> assumption) | (apply qc_cc <;> assumption) | (apply qa_cc <;> assumption) | (apply qm_cc <;> assumption) | (apply qh_cc <;> assumption) | (apply qn_cc <;> assumption) | (apply qb_cc <;> assumption) | (apply qe_cc <;> assumption) | (first | (apply is_true; and_intros <;> (first | rfl | assumption | (apply qf_cc <;> assumption) | (apply qi_cc <;> assumption) | (apply ql_cc <;> assumption) | (apply qq_cc <;> assumption) | (apply qg_cc <;> assumption) | (apply qj_cc <;> assumption) | (apply qc_cc <;> assumption) | (apply qa_cc <;> assumption) | (apply qm_cc <;> assumption) | (apply qh_cc <;> assumption) | (apply qn_cc <;> assumption) | (apply qb_cc <;> assumption) | (apply qe_cc <;> assumption) | (first | (apply is_true; and_intros <;> (first | rfl | assumption | (apply qf_cc <;> assumption) | (apply qi_cc <;> assumption) | (apply ql_cc <;> assumption) | (apply qq_cc <;> assumption) | (apply qg_cc <;> assumption) | (apply qj_cc <;> assumption) | (apply qc_cc <;> assumption) | (apply qa_cc <;> assumption) | (apply qm_cc <;> assumption) | (apply qh_cc <;> assumption) | (apply qn_cc <;> assumption) | (apply qb_cc <;> assumption) | (apply qe_cc <;> assumption))) | (apply qf_cc <;> assumption) | (apply qi_cc <;> assumption) | (apply ql_cc <;> assumption) | (apply qq_cc <;> assumption) | (apply qg_cc <;> assumption) | (apply qj_cc <;> assumption) | (apply qc_cc <;> assumption) | (apply qa_cc <;> assumption) | (apply qm_cc <;> assumption) | (apply qh_cc <;> assumption) | (apply qn_cc <;> assumption) | (apply qb_cc <;> assumption) | (apply qe_cc <;> assumption)))) | (apply qf_cc <;> assumption) | (apply qi_cc <;> assumption) | (apply ql_cc <;> assumption) | (apply qq_cc <;> assumption) | (apply qg_cc <;> assumption) | (apply qj_cc <;> assumption) | (apply qc_cc <;> assumption) | (apply qa_cc <;> assumption) | (apply qm_cc <;> assumption) | (apply qh_cc <;> assumption) | (apply qn_cc <;> assumption) | (apply qb_cc <;> assumption) | (apply qe_cc <;> assumption)))) | (apply qf_cc <;> assumption) | (apply qi_cc <;> assumption) | (apply ql_cc <;> assumption) | (apply qq_cc <;> assumption) | (apply qg_cc <;> assumption) | (apply qj_cc <;> assumption) | (apply qc_cc <;> assumption) | (apply qa_cc <;> assumption) | (apply qm_cc <;> assumption) | (apply qh_cc <;> assumption) | (apply qn_cc <;> assumption) | (apply qb_cc <;> assumption) | (apply qe_cc <;> assumption)))) | (apply qf_cc <;> assumption) | (apply qi_cc <;> assumption) | (apply ql_cc <;> assumption) | (apply qq_cc <;> assumption) | (apply qg_cc <;> assumption) | (apply qj_cc <;> assumption) | (apply qc_cc <;> assumption) | (apply qa_cc <;> assumption) | (apply qm_cc <;> assumption) | (apply qh_cc <;> assumption) | (apply qn_cc <;> assumption) | (apply qb_cc <;> assumption) | (apply qe_cc <;> assumption)) | simp [*]) ?_
  refine Tr.t (by first | exact (by first | (apply is_true; and_intros <;> (first | rfl | assumption | (apply qf_cc <;> assumption) | (apply qi_cc <;> assumption) | (apply ql_cc <;> assumption) | (apply qq_cc <;> assumption) | (apply qg_cc <;> assumption) | (apply qj_cc <;> assumption) | (apply qc_cc <;> assumption) | (apply qa_cc <;> assumption) | (apply qm_cc <;> assumption) | (apply qh_cc <;> assumption) | (apply qn_cc <;> assumption) | (apply qb_cc <;> assumption) | (apply qe_cc <;> assumption) | (first | (apply is_true; and_intros <;> (first | rfl | assumption | (apply qf_cc <;> assumption) | (apply qi_cc <;> assumption) | (apply ql_cc <;> assumption) | (apply qq_cc <;> assumption) | (apply qg_cc <;> assumption) | (apply qj_cc <;> assumption) | (apply qc_cc <;> assumption) | (apply qa_cc <;> assumption) | (apply qm_cc <;> assumption) | (apply qh_cc <;> assumption) | (apply qn_cc <;> assumption) | (apply qb_cc <;> assumption) | (apply qe_cc <;> assumption) | (first | (apply is_true; and_intros <;> (first | rfl | assumption | (apply qf_cc <;> assumption) | (apply qi_cc <;> assumption) | (apply ql_cc <;> assumption) | (apply qq_cc <;> assumption) | (apply qg_cc <;> assumption) | (apply qj_cc <;> assumption) | (apply qc_cc <;> assumption) | (apply qa_cc <;> assumption) | (apply qm_cc <;> assumption) | (apply qh_cc <;> assumption) | (apply qn_cc <;> assumption) | (apply qb_cc <;> assumption) | (apply qe_cc <;> assumption) | (first | (apply is_true; and_intros <;> (first | rfl | assumption | (apply qf_cc <;> assumption) | (apply qi_cc <;> assumption) | (apply ql_cc <;> assumption) | (apply qq_cc <;> assumption) | (apply qg_cc <;> assumption) | (apply qj_cc <;> assumption) | (apply qc_cc <;> assumption) | (apply qa_cc <;> assumption) | (apply qm_cc <;> assumption) | (apply qh_cc <;> assumption) | (apply qn_cc <;> assumption) | (apply qb_cc <;> assumption) | (apply qe_cc <;> assumption))) | (apply qf_cc <;> assumption) | (apply qi_cc <;> assumption) | (apply ql_cc <;> assumption) | (apply qq_cc <;> assumption) | (apply qg_cc <;> assumption) | (apply qj_cc <;> assumption) | (apply qc_cc <;> assumption) | (apply qa_cc <;> assumption) | (apply qm_cc <;> assumption) | (apply qh_cc <;> assumption) | (apply qn_cc <;> assumption) | (apply qb_cc <;> assumption) | (apply qe_cc <;> assumption)))) | (apply qf_cc <;> assumption) | (apply qi_cc <;> assumption) | (apply ql_cc <;> assumption) | (apply qq_cc <;> assumption) | (apply qg_cc <;> assumption) | (apply qj_cc <;> assumption) | (apply qc_cc <;> assumption) | (apply qa_cc <;> assumption) | (apply qm_cc <;> assumption) | (apply qh_cc <;> assumption) | (apply qn_cc <;> assumption) | (apply qb_cc <;> assumption) | (apply qe_cc <;> assumption)))) | (apply qf_cc <;> assumption) | (apply qi_cc <;> assumption) | (apply ql_cc <;> assumption) | (apply qq_cc <;> assumption) | (apply qg_cc <;> assumption) | (apply qj_cc <;> assumption) | (apply qc_cc <;> assumption) | (apply qa_cc <;> assumption) | (apply qm_cc <;> assumption) | (apply qh_cc <;> assumption) | (apply qn_cc <;> assumption) | (apply qb_cc <;> assumption) | (apply qe_cc <;> assumption)))) | (apply qf_cc <;> assumption) | (apply qi_cc <;> assumption) | (apply ql_cc <;> assumption) | (apply qq_cc <;> assumption) | (apply qg_cc <;> assumption) | (apply qj_cc <;> assumption) | (apply qc_cc <;> assumption) | (apply qa_cc <;> assumption) | (apply qm_cc <;> assumption) | (apply qh_cc <;> assumption) | (apply qn_cc <;> assumption) | (apply qb_cc <;> assumption) | (apply qe_cc <;> assumption)) | simp [*]) ?_
  refine Tr.n (by first | (simp [qp_vm, qk_v2, qr_v]; done) | (simp only [qp_vm, qk_v2, qr_v, decide_eq_true_eq]; omega) | (simp [qp_vm, qk_v2, qr_v]; omega) | (simp (disch := omega) only [qp_vm, qk_v2, qr_v, neg_bif, decide_eq_true_eq]; omega) | (simp (disch := omega) [qp_vm, qk_v2, qr_v, neg_bif]; done) | (simp (disch := omega) [qp_vm, qk_v2, qr_v, neg_bif]; omega)) ?_
  refine Tr.t (by first | exact (by first | (apply is_true; and_intros <;> (first | rfl | assumption | (apply qf_cc <;> assumption) | (apply qi_cc <;> assumption) | (apply ql_cc <;> assumption) | (apply qq_cc <;> assumption) | (apply qg_cc <;> assumption) | (apply qj_cc <;> assumption) | (apply qc_cc <;> assumption) | (apply qa_cc <;> assumption) | (apply qm_cc <;> assumption) | (apply qh_cc <;> assumption) | (apply qn_cc <;> assumption) | (apply qb_cc <;> assumption) | (apply qe_cc <;> assumption) | (first | (apply is_true; and_intros <;> (first | rfl | assumption | (apply qf_cc <;> assumption) | (apply qi_cc <;> assumption) | (apply ql_cc <;> assumption) | (apply qq_cc <;> assumption) | (apply qg_cc <;> assumption) | (apply qj_cc <;> assumption) | (apply qc_cc <;> assumption) | (apply qa_cc <;> assumption) | (apply qm_cc <;> assumption) | (apply qh_cc <;> assumption) | (apply qn_cc <;> assumption) | (apply qb_cc <;> assumption) | (apply qe_cc <;> assumption) | (first | (apply is_true; and_intros <;> (first | rfl | assumption | (apply qf_cc <;> assumption) | (apply qi_cc <;> assumption) | (apply ql_cc <;> assumption) | (apply qq_cc <;> assumption) | (apply qg_cc <;> assumption) | (apply qj_cc <;> assumption) | (apply qc_cc <;> assumption) | (apply qa_cc <;> assumption) | (apply qm_cc <;> assumption) | (apply qh_cc <;> assumption) | (apply qn_cc <;> assumption) | (apply qb_cc <;> assumption) | (apply qe_cc <;> assumption) | (first | (apply is_true; and_intros <;> (first | rfl | assumption | (apply qf_cc <;> assumption) | (apply qi_cc <;> assumption) | (apply ql_cc <;> assumption) | (apply qq_cc <;> assumption) | (apply qg_cc <;> assumption) | (apply qj_cc <;> assumption) | (apply qc_cc <;> assumption) | (apply qa_cc <;> assumption) | (apply qm_cc <;> assumption) | (apply qh_cc <;> assumption) | (apply qn_cc <;> assumption) | (apply qb_cc <;> assumption) | (apply qe_cc <;> assumption))) | (apply qf_cc <;> assumption) | (apply qi_cc <;> assumption) | (apply ql_cc <;> assumption) | (apply qq_cc <;> assumption) | (apply qg_cc <;> assumption) | (apply qj_cc <;> assumption) | (apply qc_cc <;> assumption) | (apply qa_cc <;> assumption) | (apply qm_cc <;> assumption) | (apply qh_cc <;> assumption) | (apply qn_cc <;> assumption) | (apply qb_cc <;> assumption) | (apply qe_cc <;> assumption)))) | (apply qf_cc <;> assumption) | (apply qi_cc <;> assumption) | (apply ql_cc <;> assumption) | (apply qq_cc <;> assumption) | (apply qg_cc <;> assumption) | (apply qj_cc <;> assumption) | (apply qc_cc <;> assumption) | (apply qa_cc <;> assumption) | (apply qm_cc <;> assumption) | (apply qh_cc <;> assumption) | (apply qn_cc <;> assumption) | (apply qb_cc <;> assumption) | (apply qe_cc <;> assumption)))) | (apply qf_cc <;> assumption) | (apply qi_cc <;> assumption) | (apply ql_cc <;> assumption) | (apply qq_cc <;> assumption) | (apply qg_cc <;> assumption) | (apply qj_cc <;> assumption) | (apply qc_cc <;> assumption) | (apply qa_cc <;> assumption) | (apply qm_cc <;> assumption) | (apply qh_cc <;> assumption) | (apply qn_cc <;> assumption) | (apply qb_cc <;> assumption) | (apply qe_cc <;> assumption)))) | (apply qf_cc <;> assumption) | (apply qi_cc <;> assumption) | (apply ql_cc <;> assumption) | (apply qq_cc <;> assumption) | (apply qg_cc <;> assumption) | (apply qj_cc <;> assumption) | (apply qc_cc <;> assumption) | (apply qa_cc <;> assumption) | (apply qm_cc <;> assumption) | (apply qh_cc <;> assumption) | (apply qn_cc <;> assumption) | (apply qb_cc <;> assumption) | (apply qe_cc <;> assumption)) | simp [*]) ?_
  refine Tr.t (by first | exact (by first | (apply is_true; and_intros <;> (first | rfl | assumption | (apply qf_cc <;> assumption) | (apply qi_cc <;> assumption) | (apply ql_cc <;> assumption) | (apply qq_cc <;> assumption) | (apply qg_cc <;> assumption) | (apply qj_cc <;> assumption) | (apply qc_cc <;> assumption) | (apply qa_cc <;> assumption) | (apply qm_cc <;> assumption) | (apply qh_cc <;> assumption) | (apply qn_cc <;> assumption) | (apply qb_cc <;> assumption) | (apply qe_cc <;> assumption) | (first | (apply is_true; and_intros <;> (first | rfl | assumption | (apply qf_cc <;> assumption) | (apply qi_cc <;> assumption) | (apply ql_cc <;> assumption) | (apply qq_cc <;> assumption) | (apply qg_cc <;> assumption) | (apply qj_cc <;> assumption) | (apply qc_cc <;> assumption) | (apply qa_cc <;> assumption) | (apply qm_cc <;> assumption) | (apply qh_cc <;> assumption) | (apply qn_cc <;> assumption) | (apply qb_cc <;> assumption) | (apply qe_cc <;> assumption) | (first | (apply is_true; and_intros <;> (first | rfl | assumption | (apply qf_cc <;> assumption) | (apply qi_cc <;> assumption) | (apply ql_cc <;> assumption) | (apply qq_cc <;> assumption) | (apply qg_cc <;> assumption) | (apply qj_cc <;> assumption) | (apply qc_cc <;> assumption) | (apply qa_cc <;> assumption) | (apply qm_cc <;> assumption) | (apply qh_cc <;> assumption) | (apply qn_cc <;> assumption) | (apply qb_cc <;> assumption) | (apply qe_cc <;> assumption) | (first | (apply is_true; and_intros <;> (first | rfl | assumption | (apply qf_cc <;> assumption) | (apply qi_cc <;> assumption) | (apply ql_cc <;> assumption) | (apply qq_cc <;> assumption) | (apply qg_cc <;> assumption) | (apply qj_cc <;> assumption) | (apply qc_cc <;> assumption) | (apply qa_cc <;> assumption) | (apply qm_cc <;> assumption) | (apply qh_cc <;> assumption) | (apply qn_cc <;> assumption) | (apply qb_cc <;> assumption) | (apply qe_cc <;> assumption))) | (apply qf_cc <;> assumption) | (apply qi_cc <;> assumption) | (apply ql_cc <;> assumption) | (apply qq_cc <;> assumption) | (apply qg_cc <;> assumption) | (apply qj_cc <;> assumption) | (apply qc_cc <;> assumption) | (apply qa_cc <;> assumption) | (apply qm_cc <;> assumption) | (apply qh_cc <;> assumption) | (apply qn_cc <;> assumption) | (apply qb_cc <;> assumption) | (apply qe_cc <;> assumption)))) | (apply qf_cc <;> assumption) | (apply qi_cc <;> assumption) | (apply ql_cc <;> assumption) | (apply qq_cc <;> assumption) | (apply qg_cc <;> assumption) | (apply qj_cc <;> assumption) | (apply qc_cc <;> assumption) | (apply qa_cc <;> assumption) | (apply qm_cc <;> assumption) | (apply qh_cc <;> assumption) | (apply qn_cc <;> assumption) | (apply qb_cc <;> assumption) | (apply qe_cc <;> assumption)))) | (apply qf_cc <;> assumption) | (apply qi_cc <;> assumption) | (apply ql_cc <;> assumption) | (apply qq_cc <;> assumption) | (apply qg_cc <;> assumption) | (apply qj_cc <;> assumption) | (apply qc_cc <;> assumption) | (apply qa_cc <;> assumption) | (apply qm_cc <;> assumption) | (apply qh_cc <;> assumption) | (apply qn_cc <;> assumption) | (apply qb_cc <;> assumption) | (apply qe_cc <;> assumption)))) | (apply qf_cc <;> assumption) | (apply qi_cc <;> assumption) | (apply ql_cc <;> assumption) | (apply qq_cc <;> assumption) | (apply qg_cc <;> assumption) | (apply qj_cc <;> assumption) | (apply qc_cc <;> assumption) | (apply qa_cc <;> assumption) | (apply qm_cc <;> assumption) | (apply qh_cc <;> assumption) | (apply qn_cc <;> assumption) | (apply qb_cc <;> assumption) | (apply qe_cc <;> assumption)) | simp [*]) ?_
  refine Tr.n (by first | (simp [qp_vm, qk_v2, qr_v]; done) | (simp only [qp_vm, qk_v2, qr_v, decide_eq_true_eq]; omega) | (simp [qp_vm, qk_v2, qr_v]; omega) | (simp (disch := omega) only [qp_vm, qk_v2, qr_v, neg_bif, decide_eq_true_eq]; omega) | (simp (disch := omega) [qp_vm, qk_v2, qr_v, neg_bif]; done) | (simp (disch := omega) [qp_vm, qk_v2, qr_v, neg_bif]; omega)) ?_
  refine Tr.t (by apply qk_cc <;> (first | assumption | omega | (simp only [qp_vm, qk_v2]; omega) | (simp (disch := omega) only [qp_vm, qk_v2, neg_bif]; omega))) ?_
  refine Tr.t (by apply qk_cc <;> (first | assumption | omega | (simp only [qp_vm, qk_v2]; omega) | (simp (disch := omega) only [qp_vm, qk_v2, neg_bif]; omega))) ?_
  refine Tr.t (by apply qk_cc <;> (first | assumption | omega | (simp only [qp_vm, qk_v2]; omega) | (simp (disch := omega) only [qp_vm, qk_v2, neg_bif]; omega))) ?_
  refine Tr.n (by first | (simp [qp_vm, qk_v2, qr_v]; done) | (simp only [qp_vm, qk_v2, qr_v, decide_eq_true_eq]; omega) | (simp [qp_vm, qk_v2, qr_v]; omega) | (simp (disch := omega) only [qp_vm, qk_v2, qr_v, neg_bif, decide_eq_true_eq]; omega) | (simp (disch := omega) [qp_vm, qk_v2, qr_v, neg_bif]; done) | (simp (disch := omega) [qp_vm, qk_v2, qr_v, neg_bif]; omega)) ?_
  refine Tr.t (by first | exact (by first | (apply is_true; and_intros <;> (first | rfl | assumption | (apply qf_cc <;> assumption) | (apply qi_cc <;> assumption) | (apply ql_cc <;> assumption) | (apply qq_cc <;> assumption) | (apply qg_cc <;> assumption) | (apply qj_cc <;> assumption) | (apply qc_cc <;> assumption) | (apply qa_cc <;> assumption) | (apply qm_cc <;> assumption) | (apply qh_cc <;> assumption) | (apply qn_cc <;> assumption) | (apply qb_cc <;> assumption) | (apply qe_cc <;> assumption) | (first | (apply is_true; and_intros <;> (first | rfl | assumption | (apply qf_cc <;> assumption) | (apply qi_cc <;> assumption) | (apply ql_cc <;> assumption) | (apply qq_cc <;> assumption) | (apply qg_cc <;> assumption) | (apply qj_cc <;> assumption) | (apply qc_cc <;> assumption) | (apply qa_cc <;> assumption) | (apply qm_cc <;> assumption) | (apply qh_cc <;> assumption) | (apply qn_cc <;> assumption) | (apply qb_cc <;> assumption) | (apply qe_cc <;> assumption) | (first | (apply is_true; and_intros <;> (first | rfl | assumption | (apply qf_cc <;> assumption) | (apply qi_cc <;> assumption) | (apply ql_cc <;> assumption) | (apply qq_cc <;> assumption) | (apply qg_cc <;> assumption) | (apply qj_cc <;> assumption) | (apply qc_cc <;> assumption) | (apply qa_cc <;> assumption) | (apply qm_cc <;> assumption) | (apply qh_cc <;> assumption) | (apply qn_cc <;> assumption) | (apply qb_cc <;> assumption) | (apply qe_cc <;> assumption) | (first | (apply is_true; and_intros <;> (first | rfl | assumption | (apply qf_cc <;> assumption) | (apply qi_cc <;> assumption) | (apply ql_cc <;> assumption) | (apply qq_cc <;> assumption) | (apply qg_cc <;> assumption) | (apply qj_cc <;> assumption) | (apply qc_cc <;> assumption) | (apply qa_cc <;> assumption) | (apply qm_cc <;> assumption) | (apply qh_cc <;> assumption) | (apply qn_cc <;> assumption) | (apply qb_cc <;> assumption) | (apply qe_cc <;> assumption))) | (apply qf_cc <;> assumption) | (apply qi_cc <;> assumption) | (apply ql_cc <;> assumption) | (apply qq_cc <;> assumption) | (apply qg_cc <;> assumption) | (apply qj_cc <;> assumption) | (apply qc_cc <;> assumption) | (apply qa_cc <;> assumption) | (apply qm_cc <;> assumption) | (apply qh_cc <;> assumption) | (apply qn_cc <;> assumption) | (apply qb_cc <;> assumption) | (apply qe_cc <;> assumption)))) | (apply qf_cc <;> assumption) | (apply qi_cc <;> assumption) | (apply ql_cc <;> assumption) | (apply qq_cc <;> assumption) | (apply qg_cc <;> assumption) | (apply qj_cc <;> assumption) | (apply qc_cc <;> assumption) | (apply qa_cc <;> assumption) | (apply qm_cc <;> assumption) | (apply qh_cc <;> assumption) | (apply qn_cc <;> assumption) | (apply qb_cc <;> assumption) | (apply qe_cc <;> assumption)))) | (apply qf_cc <;> assumption) | (apply qi_cc <;> assumption) | (apply ql_cc <;> assumption) | (apply qq_cc <;> assumption) | (apply qg_cc <;> assumption) | (apply qj_cc <;> assumption) | (apply qc_cc <;> assumption) | (apply qa_cc <;> assumption) | (apply qm_cc <;> assumption) | (apply qh_cc <;> assumption) | (apply qn_cc <;> assumption) | (apply qb_cc <;> assumption) | (apply qe_cc <;> assumption)))) | (apply qf_cc <;> assumption) | (apply qi_cc <;> assumption) | (apply ql_cc <;> assumption) | (apply qq_cc <;> assumption) | (apply qg_cc <;> assumption) | (apply qj_cc <;> assumption) | (apply qc_cc <;> assumption) | (apply qa_cc <;> assumption) | (apply qm_cc <;> assumption) | (apply qh_cc <;> assumption) | (apply qn_cc <;> assumption) | (apply qb_cc <;> assumption) | (apply qe_cc <;> assumption)) | simp [*]) ?_
  refine Tr.n (by first | (simp [qp_vm, qk_v2, qr_v]; done) | (simp only [qp_vm, qk_v2, qr_v, decide_eq_true_eq]; omega) | (simp [qp_vm, qk_v2, qr_v]; omega) | (simp (disch := omega) only [qp_vm, qk_v2, qr_v, neg_bif, decide_eq_true_eq]; omega) | (simp (disch := omega) [qp_vm, qk_v2, qr_v, neg_bif]; done) | (simp (disch := omega) [qp_vm, qk_v2, qr_v, neg_bif]; omega)) ?_
  refine Tr.t (by apply qk_cc <;> (first | assumption | omega | (simp only [qp_vm, qk_v2]; omega) | (simp (disch := omega) only [qp_vm, qk_v2, neg_bif]; omega))) ?_
  refine Tr.t (by apply qp_cc <;> (first | assumption | omega | (simp only [qp_vm, qk_v2]; omega) | (simp (disch := omega) only [qp_vm, qk_v2, neg_bif]; omega))) ?_
  refine Tr.n (by first | (simp [qp_vm, qk_v2, qr_v]; done) | (simp only [qp_vm, qk_v2, qr_v, decide_eq_true_eq]; omega) | (simp [qp_vm, qk_v2, qr_v]; omega) | (simp (disch := omega) only [qp_vm, qk_v2, qr_v, neg_bif, decide_eq_true_eq]; omega) | (simp (disch := omega) [qp_vm, qk_v2, qr_v, neg_bif]; done) | (simp (disch := omega) [qp_vm, qk_v2, qr_v, neg_bif]; omega)) ?_
  refine Tr.n (by first | (simp [qp_vm, qk_v2, qr_v]; done) | (simp only [qp_vm, qk_v2, qr_v, decide_eq_true_eq]; omega) | (simp [qp_vm, qk_v2, qr_v]; omega) | (simp (disch := omega) only [qp_vm, qk_v2, qr_v, neg_bif, decide_eq_true_eq]; omega) | (simp (disch := omega) [qp_vm, qk_v2, qr_v, neg_bif]; done) | (simp (disch := omega) [qp_vm, qk_v2, qr_v, neg_bif]; omega)) ?_
  refine Tr.t (by first | exact (by first | (apply is_true; and_intros <;> (first | rfl | assumption | (apply qf_cc <;> assumption) | (apply qi_cc <;> assumption) | (apply ql_cc <;> assumption) | (apply qq_cc <;> assumption) | (apply qg_cc <;> assumption) | (apply qj_cc <;> assumption) | (apply qc_cc <;> assumption) | (apply qa_cc <;> assumption) | (apply qm_cc <;> assumption) | (apply qh_cc <;> assumption) | (apply qn_cc <;> assumption) | (apply qb_cc <;> assumption) | (apply qe_cc <;> assumption) | (first | (apply is_true; and_intros <;> (first | rfl | assumption | (apply qf_cc <;> assumption) | (apply qi_cc <;> assumption) | (apply ql_cc <;> assumption) | (apply qq_cc <;> assumption) | (apply qg_cc <;> assumption) | (apply qj_cc <;> assumption) | (apply qc_cc <;> assumption) | (apply qa_cc <;> assumption) | (apply qm_cc <;> assumption) | (apply qh_cc <;> assumption) | (apply qn_cc <;> assumption) | (apply qb_cc <;> assumption) | (apply qe_cc <;> assumption) | (first | (apply is_true; and_intros <;> (first | rfl | assumption | (apply qf_cc <;> assumption) | (apply qi_cc <;> assumption) | (apply ql_cc <;> assumption) | (apply qq_cc <;> assumption) | (apply qg_cc <;> assumption) | (apply qj_cc <;> assumption) | (apply qc_cc <;> assumption) | (apply qa_cc <;> assumption) | (apply qm_cc <;> assumption) | (apply qh_cc <;> assumption) | (apply qn_cc <;> assumption) | (apply qb_cc <;> assumption) | (apply qe_cc <;> assumption) | (first | (apply is_true; and_intros <;> (first | rfl | assumption | (apply qf_cc <;> assumption) | (apply qi_cc <;> assumption) | (apply ql_cc <;> assumption) | (apply qq_cc <;> assumption) | (apply qg_cc <;> assumption) | (apply qj_cc <;> assumption) | (apply qc_cc <;> assumption) | (apply qa_cc <;> assumption) | (apply qm_cc <;> assumption) | (apply qh_cc <;> assumption) | (apply qn_cc <;> assumption) | (apply qb_cc <;> assumption) | (apply qe_cc <;> assumption))) | (apply qf_cc <;> assumption) | (apply qi_cc <;> assumption) | (apply ql_cc <;> assumption) | (apply qq_cc <;> assumption) | (apply qg_cc <;> assumption) | (apply qj_cc <;> assumption) | (apply qc_cc <;> assumption) | (apply qa_cc <;> assumption) | (apply qm_cc <;> assumption) | (apply qh_cc <;> assumption) | (apply qn_cc <;> assumption) | (apply qb_cc <;> assumption) | (apply qe_cc <;> assumption)))) | (apply qf_cc <;> assumption) | (apply qi_cc <;> assumption) | (apply ql_cc <;> assumption) | (apply qq_cc <;> assumption) | (apply qg_cc <;> assumption) | (apply qj_cc <;> assumption) | (apply qc_cc <;> assumption) | (apply qa_cc <;> assumption) | (apply qm_cc <;> assumption) | (apply qh_cc <;> assumption) | (apply qn_cc <;> assumption) | (apply qb_cc <;> assumption) | (apply qe_cc <;> assumption)))) | (apply qf_cc <;> assumption) | (apply qi_cc <;> assumption) | (apply ql_cc <;> assumption) | (apply qq_cc <;> assumption) | (apply qg_cc <;> assumption) | (apply qj_cc <;> assumption) | (apply qc_cc <;> assumption) | (apply qa_cc <;> assumption) | (apply qm_cc <;> assumption) | (apply qh_cc <;> assumption) | (apply qn_cc <;> assumption) | (apply qb_cc <;> assumption) | (apply qe_cc <;> assumption)))) | (apply qf_cc <;> assumption) | (apply qi_cc <;> assumption) | (apply ql_cc <;> assumption) | (apply qq_cc <;> assumption) | (apply qg_cc <;> assumption) | (apply qj_cc <;> assumption) | (apply qc_cc <;> assumption) | (apply qa_cc <;> assumption) | (apply qm_cc <;> assumption) | (apply qh_cc <;> assumption) | (apply qn_cc <;> assumption) | (apply qb_cc <;> assumption) | (apply qe_cc <;> assumption)) | simp [*]) ?_
  refine Tr.t (by first | exact (by first | (apply is_true; and_intros <;> (first | rfl | assumption | (apply qf_cc <;> assumption) | (apply qi_cc <;> assumption) | (apply ql_cc <;> assumption) | (apply qq_cc <;> assumption) | (apply qg_cc <;> assumption) | (apply qj_cc <;> assumption) | (apply qc_cc <;> assumption) | (apply qa_cc <;> assumption) | (apply qm_cc <;> assumption) | (apply qh_cc <;> assumption) | (apply qn_cc <;> assumption) | (apply qb_cc <;> assumption) | (apply qe_cc <;> assumption) | (first | (apply is_true; and_intros <;> (first | rfl | assumption | (apply qf_cc <;> assumption) | (apply qi_cc <;> assumption) | (apply ql_cc <;> assumption) | (apply qq_cc <;> assumption) | (apply qg_cc <;> assumption) | (apply qj_cc <;> assumption) | (apply qc_cc <;> assumption) | (apply qa_cc <;> assumption) | (apply qm_cc <;> assumption) | (apply qh_cc <;> assumption) | (apply qn_cc <;> assumption) | (apply qb_cc <;> assumption) | (apply qe_cc <;> assumption) | (first | (apply is_true; and_intros <;> (first | rfl | assumption | (apply qf_cc <;> assumption) | (apply qi_cc <;> assumption) | (apply ql_cc <;> assumption) | (apply qq_cc <;> assumption) | (apply qg_cc <;> assumption) | (apply qj_cc <;> assumption) | (apply qc_cc <;> assumption) | (apply qa_cc <;> assumption) | (apply qm_cc <;> assumption) | (apply qh_cc <;> assumption) | (apply qn_cc <;> assumption) | (apply qb_cc <;> assumption) | (apply qe_cc <;> assumption) | (first | (apply is_true; and_intros <;> (first | rfl | assumption | (apply qf_cc <;> assumption) | (apply qi_cc <;> assumption) | (apply ql_cc <;> assumption) | (apply qq_cc <;> assumption) | (apply qg_cc <;> assumption) | (apply qj_cc <;> assumption) | (apply qc_cc <;> assumption) | (apply qa_cc <;> assumption) | (apply qm_cc <;> assumption) | (apply qh_cc <;> assumption) | (apply qn_cc <;> assumption) | (apply qb_cc <;> assumption) | (apply qe_cc <;> assumption))) | (apply qf_cc <;> assumption) | (apply qi_cc <;> assumption) | (apply ql_cc <;> assumption) | (apply qq_cc <;> assumption) | (apply qg_cc <;> assumption) | (apply qj_cc <;> assumption) | (apply qc_cc <;> assumption) | (apply qa_cc <;> assumption) | (apply qm_cc <;> assumption) | (apply qh_cc <;> assumption) | (apply qn_cc <;> assumption) | (apply qb_cc <;> assumption) | (apply qe_cc <;> assumption)))) | (apply qf_cc <;> assumption) | (apply qi_cc <;> assumption) | (apply ql_cc <;> assumption) | (apply qq_cc <;> assumption) | (apply qg_cc <;> assumption) | (apply qj_cc <;> assumption) | (apply qc_cc <;> assumption) | (apply qa_cc <;> assumption) | (apply qm_cc <;> assumption) | (apply qh_cc <;> assumption) | (apply qn_cc <;> assumption) | (apply qb_cc <;> assumption) | (apply qe_cc <;> assumption)))) | (apply qf_cc <;> assumption) | (apply qi_cc <;> assumption) | (apply ql_cc <;> assumption) | (apply qq_cc <;> assumption) | (apply qg_cc <;> assumption) | (apply qj_cc <;> assumption) | (apply qc_cc <;> assumption) | (apply qa_cc <;> assumption) | (apply qm_cc <;> assumption) | (apply qh_cc <;> assumption) | (apply qn_cc <;> assumption) | (apply qb_cc <;> assumption) | (apply qe_cc <;> assumption)))) | (apply qf_cc <;> assumption) | (apply qi_cc <;> assumption) | (apply ql_cc <;> assumption) | (apply qq_cc <;> assumption) | (apply qg_cc <;> assumption) | (apply qj_cc <;> assumption) | (apply qc_cc <;> assumption) | (apply qa_cc <;> assumption) | (apply qm_cc <;> assumption) | (apply qh_cc <;> assumption) | (apply qn_cc <;> assumption) | (apply qb_cc <;> assumption) | (apply qe_cc <;> assumption)) | simp [*]) ?_
  refine Tr.t (by first | exact (by first | (apply is_true; and_intros <;> (first | rfl | assumption | (apply qf_cc <;> assumption) | (apply qi_cc <;> assumption) | (apply ql_cc <;> assumption) | (apply qq_cc <;> assumption) | (apply qg_cc <;> assumption) | (apply qj_cc <;> assumption) | (apply qc_cc <;> assumption) | (apply qa_cc <;> assumption) | (apply qm_cc <;> assumption) | (apply qh_cc <;> assumption) | (apply qn_cc <;> assumption) | (apply qb_cc <;> assumption) | (apply qe_cc <;> assumption) | (first | (apply is_true; and_intros <;> (first | rfl | assumption | (apply qf_cc <;> assumption) | (apply qi_cc <;> assumption) | (apply ql_cc <;> assumption) | (apply qq_cc <;> assumption) | (apply qg_cc <;> assumption) | (apply qj_cc <;> assumption) | (apply qc_cc <;> assumption) | (apply qa_cc <;> assumption) | (apply qm_cc <;> assumption) | (apply qh_cc <;> assumption) | (apply qn_cc <;> assumption) | (apply qb_cc <;> assumption) | (apply qe_cc <;> assumption) | (first | (apply is_true; and_intros <;> (first | rfl | assumption | (apply qf_cc <;> assumption) | (apply qi_cc <;> assumption) | (apply ql_cc <;> assumption) | (apply qq_cc <;> assumption) | (apply qg_cc <;> assumption) | (apply qj_cc <;> assumption) | (apply qc_cc <;> assumption) | (apply qa_cc <;> assumption) | (apply qm_cc <;> assumption) | (apply qh_cc <;> assumption) | (apply qn_cc <;> assumption) | (apply qb_cc <;> assumption) | (apply qe_cc <;> assumption) | (first | (apply is_true; and_intros <;> (first | rfl | assumption | (apply qf_cc <;> assumption) | (apply qi_cc <;> assumption) | (apply ql_cc <;> assumption) | (apply qq_cc <;> assumption) | (apply qg_cc <;> assumption) | (apply qj_cc <;> assumption) | (apply qc_cc <;> assumption) | (apply qa_cc <;> assumption) | (apply qm_cc <;> assumption) | (apply qh_cc <;> assumption) | (apply qn_cc <;> assumption) | (apply qb_cc <;> assumption) | (apply qe_cc <;> assumption))) | (apply qf_cc <;> assumption) | (apply qi_cc <;> assumption) | (apply ql_cc <;> assumption) | (apply qq_cc <;> assumption) | (apply qg_cc <;> assumption) | (apply qj_cc <;> assumption) | (apply qc_cc <;> assumption) | (apply qa_cc <;> assumption) | (apply qm_cc <;> assumption) | (apply qh_cc <;> assumption) | (apply qn_cc <;> assumption) | (apply qb_cc <;> assumption) | (apply qe_cc <;> assumption)))) | (apply qf_cc <;> assumption) | (apply qi_cc <;> assumption) | (apply ql_cc <;> assumption) | (apply qq_cc <;> assumption) | (apply qg_cc <;> assumption) | (apply qj_cc <;> assumption) | (apply qc_cc <;> assumption) | (apply qa_cc <;> assumption) | (apply qm_cc <;> assumption) | (apply qh_cc <;> assumption) | (apply qn_cc <;> assumption) | (apply qb_cc <;> assumption) | (apply qe_cc <;> assumption)))) | (apply qf_cc <;> assumption) | (apply qi_cc <;> assumption) | (apply ql_cc <;> assumption) | (apply qq_cc <;> assumption) | (apply qg_cc <;> assumption) | (apply qj_cc <;> assumption) | (apply qc_cc <;> assumption) | (apply qa_cc <;> assumption) | (apply qm_cc <;> assumption) | (apply qh_cc <;> assumption) | (apply qn_cc <;> assumption) | (apply qb_cc <;> assumption) | (apply qe_cc <;> assumption)))) | (apply qf_cc <;> assumption) | (apply qi_cc <;> assumption) | (apply ql_cc <;> assumption) | (apply qq_cc <;> assumption) | (apply qg_cc <;> assumption) | (apply qj_cc <;> assumption) | (apply qc_cc <;> assumption) | (apply qa_cc <;> assumption) | (apply qm_cc <;> assumption) | (apply qh_cc <;> assumption) | (apply qn_cc <;> assumption) | (apply qb_cc <;> assumption) | (apply qe_cc <;> assumption)) | simp [*]) ?_
  refine Tr.t (by first | exact (by first | (apply qe_cc <;> assumption) | (first | (apply is_true; and_intros <;> (first | rfl | assumption | (apply qf_cc <;> assumption) | (apply qi_cc <;> assumption) | (apply ql_cc <;> assumption) | (apply qq_cc <;> assumption) | (apply qg_cc <;> assumption) | (apply qj_cc <;> assumption) | (apply qc_cc <;> assumption) | (apply qa_cc <;> assumption) | (apply qm_cc <;> assumption) | (apply qh_cc <;> assumption) | (apply qn_cc <;> assumption) | (apply qb_cc <;> assumption) | (apply qe_cc <;> assumption) | (first | (apply is_true; and_intros <;> (first | rfl | assumption | (apply qf_cc <;> assumption) | (apply qi_cc <;> assumption) | (apply ql_cc <;> assumption) | (apply qq_cc <;> assumption) | (apply qg_cc <;> assumption) | (apply qj_cc <;> assumption) | (apply qc_cc <;> assumption) | (apply qa_cc <;> assumption) | (apply qm_cc <;> assumption) | (apply qh_cc <;> assumption) | (apply qn_cc <;> assumption) | (apply qb_cc <;> assumption) | (apply qe_cc <;> assumption))) | (apply qf_cc <;> assumption) | (apply qi_cc <;> assumption) | (apply ql_cc <;> assumption) | (apply qq_cc <;> assumption) | (apply qg_cc <;> assumption) | (apply qj_cc <;> assumption) | (apply qc_cc <;> assumption) | (apply qa_cc <;> assumption) | (apply qm_cc <;> assumption) | (apply qh_cc <;> assumption) | (apply qn_cc <;> assumption) | (apply qb_cc <;> assumption) | (apply qe_cc <;> assumption)))) | (apply qf_cc <;> assumption) | (apply qi_cc <;> assumption) | (apply ql_cc <;> assumption) | (apply qq_cc <;> assumption) | (apply qg_cc <;> assumption) | (apply qj_cc <;> assumption) | (apply qc_cc <;> assumption) | (apply qa_cc <;> assumption) | (apply qm_cc <;> assumption) | (apply qh_cc <;> assumption) | (apply qn_cc <;> assumption) | (apply qb_cc <;> assumption) | (apply qe_cc <;> assumption))) | simp [*]) ?_
  refine Tr.t (by first | exact (by first | (apply is_true; and_intros <;> (first | rfl | assumption | (apply qf_cc <;> assumption) | (apply qi_cc <;> assumption) | (apply ql_cc <;> assumption) | (apply qq_cc <;> assumption) | (apply qg_cc <;> assumption) | (apply qj_cc <;> assumption) | (apply qc_cc <;> assumption) | (apply qa_cc <;> assumption) | (apply qm_cc <;> assumption) | (apply qh_cc <;> assumption) | (apply qn_cc <;> assumption) | (apply qb_cc <;> assumption) | (apply qe_cc <;> assumption) | (first | (apply is_true; and_intros <;> (first | rfl | assumption | (apply qf_cc <;> assumption) | (apply qi_cc <;> assumption) | (apply ql_cc <;> assumption) | (apply qq_cc <;> assumption) | (apply qg_cc <;> assumption) | (apply qj_cc <;> assumption) | (apply qc_cc <;> assumption) | (apply qa_cc <;> assumption) | (apply qm_cc <;> assumption) | (apply qh_cc <;> assumption) | (apply qn_cc <;> assumption) | (apply qb_cc <;> assumption) | (apply qe_cc <;> assumption) | (first | (apply is_true; and_intros <;> (first | rfl | assumption | (apply qf_cc <;> assumption) | (apply qi_cc <;> assumption) | (apply ql_cc <;> assumption) | (apply qq_cc <;> assumption) | (apply qg_cc <;> assumption) | (apply qj_cc <;> assumption) | (apply qc_cc <;> assumption) | (apply qa_cc <;> assumption) | (apply qm_cc <;> assumption) | (apply qh_cc <;> assumption) | (apply qn_cc <;> assumption) | (apply qb_cc <;> assumption) | (apply qe_cc <;> assumption) | (first | (apply is_true; and_intros <;> (first | rfl | assumption | (apply qf_cc <;> assumption) | (apply qi_cc <;> assumption) | (apply ql_cc <;> assumption) | (apply qq_cc <;> assumption) | (apply qg_cc <;> assumption) | (apply qj_cc <;> assumption) | (apply qc_cc <;> assumption) | (apply qa_cc <;> assumption) | (apply qm_cc <;> assumption) | (apply qh_cc <;> assumption) | (apply qn_cc <;> assumption) | (apply qb_cc <;> assumption) | (apply qe_cc <;> assumption))) | (apply qf_cc <;> assumption) | (apply qi_cc <;> assumption) | (apply ql_cc <;> assumption) | (apply qq_cc <;> assumption) | (apply qg_cc <;> assumption) | (apply qj_cc <;> assumption) | (apply qc_cc <;> assumption) | (apply qa_cc <;> assumption) | (apply qm_cc <;> assumption) | (apply qh_cc <;> assumption) | (apply qn_cc <;> assumption) | (apply qb_cc <;> assumption) | (apply qe_cc <;> assumption)))) | (apply qf_cc <;> assumption) | (apply qi_cc <;> assumption) | (apply ql_cc <;> assumption) | (apply qq_cc <;> assumption) | (apply qg_cc <;> assumption) | (apply qj_cc <;> assumption) | (apply qc_cc <;> assumption) | (apply qa_cc <;> assumption) | (apply qm_cc <;> assumption) | (apply qh_cc <;> assumption) | (apply qn_cc <;> assumption) | (apply qb_cc <;> assumption) | (apply qe_cc <;> assumption)))) | (apply qf_cc <;> assumption) | (apply qi_cc <;> assumption) | (apply ql_cc <;> assumption) | (apply qq_cc <;> assumption) | (apply qg_cc <;> assumption) | (apply qj_cc <;> assumption) | (apply qc_cc <;> assumption) | (apply qa_cc <;> assumption) | (apply qm_cc <;> assumption) | (apply qh_cc <;> assumption) | (apply qn_cc <;> assumption) | (apply qb_cc <;> assumption) | (apply qe_cc <;> assumption)))) | (apply qf_cc <;> assumption) | (apply qi_cc <;> assumption) | (apply ql_cc <;> assumption) | (apply qq_cc <;> assumption) | (apply qg_cc <;> assumption) | (apply qj_cc <;> assumption) | (apply qc_cc <;> assumption) | (apply qa_cc <;> assumption) | (apply qm_cc <;> assumption) | (apply qh_cc <;> assumption) | (apply qn_cc <;> assumption) | (apply qb_cc <;> assumption) | (apply qe_cc <;> assumption)) | simp [*]) ?_
  refine Tr.n (by first | (simp [qp_vm, qk_v2, qr_v]; done) | (simp only [qp_vm, qk_v2, qr_v, decide_eq_true_eq]; omega) | (simp [qp_vm, qk_v2, qr_v]; omega) | (simp (disch := omega) only [qp_vm, qk_v2, qr_v, neg_bif, decide_eq_true_eq]; omega) | (simp (disch := omega) [qp_vm, qk_v2, qr_v, neg_bif]; done) | (simp (disch := omega) [qp_vm, qk_v2, qr_v, neg_bif]; omega)) ?_
  refine Tr.t (by apply qp_cc <;> (first | assumption | omega | (simp only [qp_vm, qk_v2]; omega) | (simp (disch := omega) only [qp_vm, qk_v2, neg_bif]; omega))) ?_
  refine Tr.n (by first | (simp [qp_vm, qk_v2, qr_v]; done) | (simp only [qp_vm, qk_v2, qr_v, decide_eq_true_eq]; omega) | (simp [qp_vm, qk_v2, qr_v]; omega) | (simp (disch := omega) only [qp_vm, qk_v2, qr_v, neg_bif, decide_eq_true_eq]; omega) | (simp (disch := omega) [qp_vm, qk_v2, qr_v, neg_bif]; done) | (simp (disch := omega) [qp_vm, qk_v2, qr_v, neg_bif]; omega)) ?_
  refine Tr.n (by first | (simp [qp_vm, qk_v2, qr_v]; done) | (simp only [qp_vm, qk_v2, qr_v, decide_eq_true_eq]; omega) | (simp [qp_vm, qk_v2, qr_v]; omega) | (simp (disch := omega) only [qp_vm, qk_v2, qr_v, neg_bif, decide_eq_true_eq]; omega) | (simp (disch := omega) [qp_vm, qk_v2, qr_v, neg_bif]; done) | (simp (disch := omega) [qp_vm, qk_v2, qr_v, neg_bif]; omega)) ?_
  rfl
end
end Go.Proofs.Ytkgjindjaaggkaa.V
