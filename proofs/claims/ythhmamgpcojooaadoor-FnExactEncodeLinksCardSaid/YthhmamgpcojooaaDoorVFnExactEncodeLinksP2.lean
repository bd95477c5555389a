/- What the functions of FnExactEncodeLinks answer. No condition. -/
import Derived.Test.YthhmamgpcojooaaDoorVFnExactEncodeLinksP1
namespace Go.Proofs.YthhmamgpcojooaaDoor.V
open Go
set_option maxRecDepth 100000
set_option linter.unusedVariables false
set_option linter.unusedSectionVars false
set_option linter.unusedSimpArgs false
set_option maxHeartbeats 2000000
noncomputable section
def D23 : Dt := also D22 47 qbv_S
theorem d23 : DOk Go.Proofs.Tryd.prog tab D23 := d22.also mixed_ok tab_ok names_ok noLoops_ok qbv_s
def qbi_t (a0 a1 : BS) : Tr (Bool) := (.ite ((decide ((a0.length : Int) ≥ (a1.length : Int))) = true) (.ite ((0 : Int) ≤ (0 : Int) ∧ (0 : Int) ≤ (a1.length : Int) ∧ (a1.length : Int) ≤ (a0.length : Int)) (.ok (((a0.take ((a1.length : Int)).toNat).drop ((0 : Int)).toNat) == a1))
   .no)
  (.ok false))
def qbi_mk (p : Bool) : Res := [(false, [⟨.bool, .sh, TC.b p⟩])]
def qbi_c (a0 a1 : BS) : Bool := (bif (decide ((a0.length : Int) ≥ (a1.length : Int))) then (is ((0 : Int) ≤ (0 : Int) ∧ (0 : Int) ≤ (a1.length : Int) ∧ (a1.length : Int) ≤ (a0.length : Int)) && true) else true)
def qbi_v (a0 a1 : BS) : Bool := (bif (decide ((a0.length : Int) ≥ (a1.length : Int))) then (((a0.take ((a1.length : Int)).toNat).drop ((0 : Int)).toNat) == a1) else false)
theorem qbi_l (a0 a1 : BS) : (qbi_c a0 a1) = true → (qbi_t a0 a1).val = some (qbi_v a0 a1) := by
  unfold qbi_t qbi_v qbi_c
  exact fun h => (Tr.ss h (fun h => (Tr.gs h fun h => rfl)) (fun h => rfl))
def qbi_S : List Arg → Option (Bool × Res) := fun xs => match xs with
  | [(false, [(.str, TC.s a0)]), (false, [(.str, TC.s a1)])] => some ((qbi_c a0 a1), qbi_mk (qbi_v a0 a1))
  | _ => .none
theorem qbi_e (a0 a1 : BS) : runF tab FT D23 live 64 noLoops [(false, [(.str, TC.s a0)]), (false, [(.str, TC.s a1)])] = (qbi_t a0 a1).run fun p => some (qbi_mk p) := by kernel_rfl
theorem qbi_s : ∀ xs r, qbi_S xs = some (true, r) → runF tab FT D23 live 64 noLoops xs = some r := by
  intro xs r h
  unfold qbi_S at h
  split at h
  · obtain ⟨h1, rfl⟩ := sp h
    exact fun_told (qbi_e ..) (qbi_l _ _) h1
  · cases h
def D24 : Dt := also D23 64 qbi_S
theorem d24 : DOk Go.Proofs.Tryd.prog tab D24 := d23.also mixed_ok tab_ok names_ok noLoops_ok qbi_s
def qbh_t (a0 a1 : BS) : Tr (BS × Bool) := (.ite ((qbi_c a0 a1) = true) (.ite ((!(qbi_v a0 a1)) = true) (.ok (a0, false))
   (.ite ((0 : Int) ≤ (a1.length : Int) ∧ (a1.length : Int) ≤ (a0.length : Int) ∧ (a0.length : Int) ≤ (a0.length : Int)) (.ok (((a0.take ((a0.length : Int)).toNat).drop ((a1.length : Int)).toNat), true))
    .no))
  .no)
def qbh_mk (p : BS × Bool) : Res := [(false, [⟨.str, .sh, TC.s (p.1)⟩]), (false, [⟨.bool, .sh, TC.b (p.2)⟩])]
def qbh_c (a0 a1 : BS) : Bool := ((qbi_c a0 a1) && (bif (!(qbi_v a0 a1)) then true else (is ((0 : Int) ≤ (a1.length : Int) ∧ (a1.length : Int) ≤ (a0.length : Int) ∧ (a0.length : Int) ≤ (a0.length : Int)) && true)))
def qbh_v (a0 a1 : BS) : BS × Bool := (bif (!(qbi_v a0 a1)) then (a0, false) else (((a0.take ((a0.length : Int)).toNat).drop ((a1.length : Int)).toNat), true))
theorem qbh_l (a0 a1 : BS) : (qbh_c a0 a1) = true → (qbh_t a0 a1).val = some (qbh_v a0 a1) := by
  unfold qbh_t qbh_v qbh_c
  exact fun h => (Tr.gb h fun h => (Tr.ss h (fun h => rfl) (fun h => (Tr.gs h fun h => rfl))))
def qbh_S : List Arg → Option (Bool × Res) := fun xs => match xs with
  | [(false, [(.str, TC.s a0)]), (false, [(.str, TC.s a1)])] => some ((qbh_c a0 a1), qbh_mk (qbh_v a0 a1))
  | _ => .none
theorem qbh_e (a0 a1 : BS) : runF tab FT D24 live 57 noLoops [(false, [(.str, TC.s a0)]), (false, [(.str, TC.s a1)])] = (qbh_t a0 a1).run fun p => some (qbh_mk p) := by kernel_rfl
theorem qbh_s : ∀ xs r, qbh_S xs = some (true, r) → runF tab FT D24 live 57 noLoops xs = some r := by
  intro xs r h
  unfold qbh_S at h
  split at h
  · obtain ⟨h1, rfl⟩ := sp h
    exact fun_told (qbh_e ..) (qbh_l _ _) h1
  · cases h
def D25 : Dt := also D24 57 qbh_S
theorem d25 : DOk Go.Proofs.Tryd.prog tab D25 := d24.also mixed_ok tab_ok names_ok noLoops_ok qbh_s
def qbf_t (a0 a1 : BS) : Tr (BS × Bool) := (.ite ((qbh_c a0 a1) = true) (.ok ((qbh_v a0 a1).1, (qbh_v a0 a1).2))
  .no)
def qbf_mk (p : BS × Bool) : Res := [(false, [⟨.str, .sh, TC.s (p.1)⟩]), (false, [⟨.bool, .sh, TC.b (p.2)⟩])]
def qbf_c (a0 a1 : BS) : Bool := (qbh_c a0 a1)
def qbf_v (a0 a1 : BS) : BS × Bool := ((qbh_v a0 a1).1, (qbh_v a0 a1).2)
theorem qbf_l (a0 a1 : BS) : (qbf_c a0 a1) = true → (qbf_t a0 a1).val = some (qbf_v a0 a1) := by
  intro h
  have hc0 : (qbh_c a0 a1) = true := h
  unfold qbf_t
  exact (Tr.t hc0 rfl)
def qbf_S : List Arg → Option (Bool × Res) := fun xs => match xs with
  | [(false, [(.str, TC.s a0)]), (false, [(.str, TC.s a1)])] => some ((qbf_c a0 a1), qbf_mk (qbf_v a0 a1))
  | _ => .none
theorem qbf_e (a0 a1 : BS) : runF tab FT D25 live 41 noLoops [(false, [(.str, TC.s a0)]), (false, [(.str, TC.s a1)])] = (qbf_t a0 a1).run fun p => some (qbf_mk p) := by kernel_rfl
theorem qbf_s : ∀ xs r, qbf_S xs = some (true, r) → runF tab FT D25 live 41 noLoops xs = some r := by
  intro xs r h
  unfold qbf_S at h
  split at h
  · obtain ⟨h1, rfl⟩ := sp h
    exact fun_told (qbf_e ..) (qbf_l _ _) h1
  · cases h
def D26 : Dt := also D25 41 qbf_S
theorem d26 : DOk Go.Proofs.Tryd.prog tab D26 := d25.also mixed_ok tab_ok names_ok noLoops_ok qbf_s
def qbt_c (s p : BS) : Bool := is (s.length < 4294967281 ∧ 1 ≤ p.length)
def qbt_v (s p : BS) : LL := splL s p
def qbt_mk (p : LL) : Res := [(false, [⟨.slice 9, .own true, TC.l p⟩])]
def qbt_S : List Arg → Option (Bool × Res) := fun xs => match xs with
  | [(false, [(.str, TC.s s)]), (false, [(.str, TC.s p)])] => some ((qbt_c s p), qbt_mk (qbt_v s p))
  | _ => .none
def D27 : Dt := also D26 42 qbt_S
theorem d27 : DOk Go.Proofs.Tryd.prog tab D27 := d26.alsoC names_ok (c := _) Go.Proofs.Tryd.func42 rfl (by
  intro xs r h w S hargs0 hS hG hargs
  unfold qbt_S at h
  split at h
  · rename_i s p
    obtain ⟨h1, rfl⟩ := sp h
    obtain ⟨h2, h3⟩ := is_iff.1 h1
    obtain ⟨u, us, rfl, ha, hr⟩ := args_cons hargs
    obtain ⟨u2, us2, rfl, hb, hr⟩ := args_cons hr
    cases args_nil hr
    rw [rep_str' (arg_rep ha), rep_str' (arg_rep hb)]
    exact split_told lays146 split_str split_cts split_gl hG h2 h3
  · cases h)
def qbl_t (a0 : BS) : Tr (Bool) := (.ite ((qm_c a0) = true) (.ok (!(qm_v a0)))
  .no)
def qbl_mk (p : Bool) : Res := [(false, [⟨.bool, .sh, TC.b p⟩])]
def qbl_c (a0 : BS) : Bool := (qm_c a0)
def qbl_v (a0 : BS) : Bool := (!(qm_v a0))
theorem qbl_l (a0 : BS) : (qbl_c a0) = true → (qbl_t a0).val = some (qbl_v a0) := by
  intro h
  have hc0 : (qm_c a0) = true := h
  unfold qbl_t
  exact (Tr.t hc0 rfl)
def qbl_S : List Arg → Option (Bool × Res) := fun xs => match xs with
  | [(false, [(.str, TC.s a0)])] => some ((qbl_c a0), qbl_mk (qbl_v a0))
  | _ => .none
theorem qbl_e (a0 : BS) : runF tab FT D27 live 44 noLoops [(false, [(.str, TC.s a0)])] = (qbl_t a0).run fun p => some (qbl_mk p) := by kernel_rfl
theorem qbl_s : ∀ xs r, qbl_S xs = some (true, r) → runF tab FT D27 live 44 noLoops xs = some r := by
  intro xs r h
  unfold qbl_S at h
  split at h
  · obtain ⟨h1, rfl⟩ := sp h
    exact fun_told (qbl_e _) (qbl_l _) h1
  · cases h
def D28 : Dt := also D27 44 qbl_S
theorem d28 : DOk Go.Proofs.Tryd.prog tab D28 := d27.also mixed_ok tab_ok names_ok noLoops_ok qbl_s
abbrev qa_2_σ := LL × Int × Int
abbrev qa_2_ω := (Int) ⊕ (Unit)
def qa_2_step (A : LL) (m i : Int) : Tr (qa_2_σ ⊕ qa_2_ω) := (.ite ((decide (i < m)) = true) (.ite ((0 : Int) ≤ i ∧ i < (A.length : Int)) (.ite ((qbl_c ((nth (row A i) 0).str)) = true) (.ite ((qbl_v ((nth (row A i) 0).str)) = true) (.ok (.inr (.inl i)))
     (.ok (.inl (A, m, (IntKind.wrap .i64 (i + (1 : Int)))))))
    .no)
   .no)
  (.ok (.inr (.inr ()))))
def qa_2_st : qa_2_σ → Tr (qa_2_σ ⊕ qa_2_ω) := fun x => (qa_2_step (x.1) (x.2.1) (x.2.2))
def qa_k2_1 (A : LL) (m i : Int) : Bool := A.all (fun x => !(qbl_v ((nth x 0).str)))
def qa_o2_2 (A : LL) (m i : Int) : Bool := is (i = 0 ∧ Typed tab (.slice 9) (.l A) ∧ m = (A.length : Int))
def qa_o2_3 (A : LL) (m i : Int) : Bool := is (i = 0 ∧ Typed tab (.slice 9) (.l A) ∧ m = (A.length : Int))
def qa_u2_3 (A : LL) (m i : Int) : Int := (Int.ofNat (A.findIdx fun x => !(fun x => !(qbl_v ((nth x 0).str))) x))
def qa_2_fin (A : LL) (m i : Int) : Told qa_2_ω := (.br (qa_k2_1 A m i) (.leaf (qa_o2_2 A m i) (.inr ())) (.leaf (qa_o2_3 A m i) (.inl (qa_u2_3 A m i))))
def qa_2_sl (x : qa_2_σ) : List Slot := [⟨.val false [⟨.slice 9, .sh, TC.l (x.1)⟩], ⟨0, 0⟩⟩, ⟨.val false [⟨.func, .sh, TC.f 44 []⟩], ⟨0, 0⟩⟩, ⟨.val false [⟨.int .i64, .sh, TC.i (x.2.1)⟩], ⟨0, 0⟩⟩, ⟨.val false [⟨.int .i64, .sh, TC.i (x.2.2)⟩], ⟨0, 0⟩⟩]
def qa_2_out : qa_2_ω → Ex × List Slot := (Sum.elim (fun x => (.ret, [⟨.val false [⟨.int .i64, .sh, TC.i x⟩], ⟨0, 0⟩⟩])) (fun x => (.exit 0, [Slot.none])))
def qa_lo2 : List Slot → Option (Told (Ex × List Slot)) := fun s => match s with
  | [⟨.val false [⟨.slice 9, .sh, TC.l A⟩], ⟨0, 0⟩⟩, ⟨.val false [⟨.func, .sh, TC.f 44 []⟩], ⟨0, 0⟩⟩, ⟨.val false [⟨.int .i64, .sh, TC.i m⟩], ⟨0, 0⟩⟩, ⟨.val false [⟨.int .i64, .sh, TC.i i⟩], ⟨0, 0⟩⟩] => some (((qa_2_fin A m i)).map qa_2_out)
  | _ => .none
def qa_lo : LoopTeller := fun r s => bif Nat.beq r 2 then qa_lo2 s else .none
theorem qa_2_r (A : LL) (m i : Int) (fuel : Nat) : rounds (rnd tab FT D28 live 59 qa_lo 0 2) leave (fuel + 1) (qa_2_sl (A, m, i)) = ((qa_2_step A m i)).run (goOn (fun s => rounds (rnd tab FT D28 live 59 qa_lo 0 2) leave fuel (qa_2_sl s)) fun w => some (qa_2_out w)) := by kernel_rfl
theorem qa_2_h (A : LL) (m i : Int) (ow : qa_2_ω) : ((qa_2_fin A m i)).val = some ow → ∃ fuel, loopN qa_2_st fuel (A, m, i) = some ow := by
  intro h
  have key : Typed tab (.slice 9) (.l A) → loopN qa_2_st (A.length + 1) (A, (A.length : Int), (0 : Int)) = some (if A.all (fun x => !(qbl_v ((nth x 0).str))) = true then (.inr ()) else (.inl (Int.ofNat (A.findIdx fun x => !(fun x => !(qbl_v ((nth x 0).str))) x)))) := by
    intro ht
    have hlen : A.length ≤ 140737488351232 := by have := typed_room ht; simp only [show (tab 9).bytes = 16 from rfl] at this; omega
    have key := loopN_scan (step := qa_2_st) A [] (fun x => !(qbl_v ((nth x 0).str))) (fun a _ => a) (fun i a => (A, (A.length : Int), (i : Int))) (fun a => (.inr ())) (fun i a => (.inl (i : Int))) (fun i a hi => ?_) (fun a => ?_) A.length 0 () (by omega)
    · first | (rw [Nat.zero_add] at key; exact key) | exact key
    · have c0 : Typed tab (.str) (.s (nth (A.getD i []) 0).str) := typed_s (typed_cell ht (A.getD i []) (mem_getD hi) 0 (by decide))
      show (qa_2_step A (A.length : Int) (i : Int)).val = _
      unfold qa_2_step
      refine Tr.t (by simp; omega) ?_
      skip
      refine Tr.t (by first | omega | (constructor <;> omega)) ?_
      refine Tr.t (by first | (apply is_true; and_intros <;> (first | rfl | assumption | (apply qh_cc <;> assumption) | (apply qc_cc <;> assumption) | (apply ql_cc <;> assumption) | (apply qo_cc <;> assumption) | (apply qj_cc <;> assumption) | (apply qe_cc <;> assumption) | (apply qm_cc <;> assumption) | (first | (apply is_true; and_intros <;> (first | rfl | assumption | (apply qh_cc <;> assumption) | (apply qc_cc <;> assumption) | (apply ql_cc <;> assumption) | (apply qo_cc <;> assumption) | (apply qj_cc <;> assumption) | (apply qe_cc <;> assumption) | (apply qm_cc <;> assumption) | (first | (apply is_true; and_intros <;> (first | rfl | assumption | (apply qh_cc <;> assumption) | (apply qc_cc <;> assumption) | (apply ql_cc <;> assumption) | (apply qo_cc <;> assumption) | (apply qj_cc <;> assumption) | (apply qe_cc <;> assumption) | (apply qm_cc <;> assumption) | (first | (apply is_true; and_intros <;> (first | rfl | assumption | (apply qh_cc <;> assumption) | (apply qc_cc <;> assumption) | (apply ql_cc <;> assumption) | (apply qo_cc <;> assumption) | (apply qj_cc <;> assumption) | (apply qe_cc <;> assumption) | (apply qm_cc <;> assumption))) | (apply qh_cc <;> assumption) | (apply qc_cc <;> assumption) | (apply ql_cc <;> assumption) | (apply qo_cc <;> assumption) | (apply qj_cc <;> assumption) | (apply qe_cc <;> assumption) | (apply qm_cc <;> assumption)))) | (apply qh_cc <;> assumption) | (apply qc_cc <;> assumption) | (apply ql_cc <;> assumption) | (apply qo_cc <;> assumption) | (apply qj_cc <;> assumption) | (apply qe_cc <;> assumption) | (apply qm_cc <;> assumption)))) | (apply qh_cc <;> assumption) | (apply qc_cc <;> assumption) | (apply ql_cc <;> assumption) | (apply qo_cc <;> assumption) | (apply qj_cc <;> assumption) | (apply qe_cc <;> assumption) | (apply qm_cc <;> assumption)))) | (apply qh_cc <;> assumption) | (apply qc_cc <;> assumption) | (apply ql_cc <;> assumption) | (apply qo_cc <;> assumption) | (apply qj_cc <;> assumption) | (apply qe_cc <;> assumption) | (apply qm_cc <;> assumption)) ?_
      refine Tr.b2 (fun hP => ?_) (fun _ => rfl)
      rw [Tr.val_ok, wrap64 (i := (i : Int) + 1) (by omega) (by omega)]; rfl
    · show (qa_2_step A (A.length : Int) (A.length : Int)).val = _
      refine Tr.n (by simp) ?_
      rfl
  simp only [qa_2_fin, Told.val] at h
  cases hk : A.all (fun x => !(qbl_v ((nth x 0).str))) with
  | true =>
    rw [if_pos (show qa_k2_1 A m i = true from hk)] at h
    split at h
    · rename_i ho
      obtain ⟨rfl, ht, rfl⟩ := is_iff.1 ho
      cases h
      refine ⟨_, (key ht).trans ?_⟩
      rw [hk]; rfl
    · cases h
  | false =>
    rw [if_neg (show ¬qa_k2_1 A m i = true from by rw [show qa_k2_1 A m i = (A.all (fun x => !(qbl_v ((nth x 0).str)))) from rfl, hk]; simp)] at h
    split at h
    · rename_i ho
      obtain ⟨rfl, ht, rfl⟩ := is_iff.1 ho
      cases h
      refine ⟨_, (key ht).trans ?_⟩
      rw [hk]; rfl
    · cases h
theorem qa_is2 : LoopIs tab FT D28 live 59 qa_lo 0 2 := by
  refine loop_told (sl := qa_2_sl) (step := qa_2_st) (out := qa_2_out) (lor := qa_lo2) (fin := fun x => (qa_2_fin (x.1) (x.2.1) (x.2.2))) (fun _ => rfl) ?_ (fun x n => qa_2_r x.1 x.2.1 x.2.2 n) (fun x ow => qa_2_h x.1 x.2.1 x.2.2 ow)
  intro s t h
  unfold qa_lo2 at h
  split at h
  · cases h; exact ⟨(_, _, _), rfl, rfl⟩
  · cases h
def qa_t (A : LL) : Tr (Int) := (.ite ((qa_k2_1 A (A.length : Int) (0 : Int)) = true) (.ite ((qa_o2_2 A (A.length : Int) (0 : Int)) = true) (.ok (-1 : Int))
   .no)
  (.ite ((qa_o2_3 A (A.length : Int) (0 : Int)) = true) (.ok (qa_u2_3 A (A.length : Int) (0 : Int)))
   .no))
def qa_mk (p : Int) : Res := [(false, [⟨.int .i64, .sh, TC.i p⟩])]
def qa_c (A : LL) : Bool := is (Typed tab (.slice 9) (.l A))
def qa_v (A : LL) : Int := if (A.all (fun x => !(qbl_v ((nth x 0).str)))) = true then -1 else (Int.ofNat (A.findIdx fun x => !(fun x => !(qbl_v ((nth x 0).str))) x))
theorem qa_l (A : LL) : (qa_c A) = true → (qa_t A).val = some (qa_v A) := by
  intro h
  have ht := is_iff.1 h
  unfold qa_t
  cases hk : A.all (fun x => !(qbl_v ((nth x 0).str))) with
  | true =>
    refine Tr.t (show A.all (fun x => !(qbl_v ((nth x 0).str))) = true from hk) ?_
    refine Tr.t (is_true ⟨rfl, ht, rfl⟩) ?_
    show _ = some (qa_v A ); unfold qa_v; rw [if_pos hk]; rfl
  | false =>
    refine Tr.n (show ¬A.all (fun x => !(qbl_v ((nth x 0).str))) = true from by rw [hk]; simp) ?_
    refine Tr.t (is_true ⟨rfl, ht, rfl⟩) ?_
    show _ = some (qa_v A ); unfold qa_v; rw [if_neg (by rw [hk]; simp)]; rfl
def qa_S : List Arg → Option (Bool × Res) := fun xs => match xs with
  | [(false, [(.slice 9, TC.l A)]), (false, [(.func, TC.f 44 [])])] => some ((qa_c A), qa_mk (qa_v A))
  | _ => .none
theorem qa_e (A : LL) : runF tab FT D28 live 59 qa_lo [(false, [(.slice 9, TC.l A)]), (false, [(.func, TC.f 44 [])])] = (qa_t A).run fun p => some (qa_mk p) := by kernel_rfl
theorem qa_s : ∀ xs r, qa_S xs = some (true, r) → runF tab FT D28 live 59 qa_lo xs = some r := by
  intro xs r h
  unfold qa_S at h
  split at h
  · obtain ⟨h1, rfl⟩ := sp h
    exact fun_told (qa_e _) (qa_l _) h1
  · cases h
def D29 : Dt := also D28 59 qa_S
theorem d29 : DOk Go.Proofs.Tryd.prog tab D29 := d28.also mixed_ok tab_ok names_ok (fnLoops_one (by kernel_rfl) qa_is2) qa_s
def qp_t (A : LL) : Tr (Bool) := (.ite ((qa_c A) = true) (.ok (decide ((qa_v A) ≥ (0 : Int))))
  .no)
def qp_mk (p : Bool) : Res := [(false, [⟨.bool, .sh, TC.b p⟩])]
def qp_c (A : LL) : Bool := is (Typed tab (.slice 9) (.l A))
def qp_v (A : LL) : Bool := !(A.all (fun x => !(qbl_v ((nth x 0).str))))
theorem qp_l (A : LL) : (qp_c A) = true → (qp_t A).val = some (qp_v A) := by
  intro h
  have ht := is_iff.1 h
  unfold qp_t
  refine Tr.t (is_true ht) ?_
  show some (decide (qa_v A  ≥ 0)) = some (!(A.all (fun x => !(qbl_v ((nth x 0).str)))))
  unfold qa_v
  cases hk : A.all (fun x => !(qbl_v ((nth x 0).str))) <;> simp
def qp_S : List Arg → Option (Bool × Res) := fun xs => match xs with
  | [(false, [(.slice 9, TC.l A)]), (false, [(.func, TC.f 44 [])])] => some ((qp_c A), qp_mk (qp_v A))
  | _ => .none
theorem qp_e (A : LL) : runF tab FT D29 live 43 noLoops [(false, [(.slice 9, TC.l A)]), (false, [(.func, TC.f 44 [])])] = (qp_t A).run fun p => some (qp_mk p) := by kernel_rfl
theorem qp_s : ∀ xs r, qp_S xs = some (true, r) → runF tab FT D29 live 43 noLoops xs = some r := by
  intro xs r h
  unfold qp_S at h
  split at h
  · obtain ⟨h1, rfl⟩ := sp h
    exact fun_told (qp_e _) (qp_l _) h1
  · cases h
def D30 : Dt := also D29 43 qp_S
theorem d30 : DOk Go.Proofs.Tryd.prog tab D30 := d29.also mixed_ok tab_ok names_ok noLoops_ok qp_s
def qbc_t (s : BS) : Tr (LL × Bool) := (.ite ((s == [47]) = true) (.ok ([], true))
  (.ite ((qbf_c s [47]) = true) (.ite ((qbt_c ((qbf_v s [47]).1) [47]) = true) (.ite ((!(qbf_v s [47]).2) = true) (.ok ([], false))
     (.ite ((decide (((qbt_v ((qbf_v s [47]).1) [47]).length : Int) > (6 : Int))) = true) (.ok ([], false))
      (.ite ((qp_c (qbt_v ((qbf_v s [47]).1) [47])) = true) (.ite ((qp_v (qbt_v ((qbf_v s [47]).1) [47])) = true) (.ok ([], false))
        (.ok ((qbt_v ((qbf_v s [47]).1) [47]), true)))
       .no)))
    .no)
   .no))
def qbc_mk (p : LL × Bool) : Res := [(false, [⟨.slice 9, .own true, TC.l (p.1)⟩]), (false, [⟨.bool, .sh, TC.b (p.2)⟩])]
def qbc_c (s : BS) : Bool := (bif (s == [47]) then true else ((qbf_c s [47]) && ((qbt_c ((qbf_v s [47]).1) [47]) && (bif (!(qbf_v s [47]).2) then true else (bif (decide (((qbt_v ((qbf_v s [47]).1) [47]).length : Int) > (6 : Int))) then true else ((qp_c (qbt_v ((qbf_v s [47]).1) [47])) && (bif (qp_v (qbt_v ((qbf_v s [47]).1) [47])) then true else true)))))))
def qbc_v (s : BS) : LL × Bool := (bif (s == [47]) then ([], true) else (bif (!(qbf_v s [47]).2) then ([], false) else (bif (decide (((qbt_v ((qbf_v s [47]).1) [47]).length : Int) > (6 : Int))) then ([], false) else (bif (qp_v (qbt_v ((qbf_v s [47]).1) [47])) then ([], false) else ((qbt_v ((qbf_v s [47]).1) [47]), true)))))
theorem qbc_l (s : BS) : (qbc_c s) = true → (qbc_t s).val = some (qbc_v s) := by
  unfold qbc_t qbc_v qbc_c
  exact fun h => (Tr.ss h (fun h => rfl) (fun h => (Tr.gb h fun h => (Tr.gb h fun h => (Tr.ss h (fun h => rfl) (fun h => (Tr.ss h (fun h => rfl) (fun h => (Tr.gb h fun h => (Tr.ss h (fun h => rfl) (fun h => rfl)))))))))))
def qbc_S : List Arg → Option (Bool × Res) := fun xs => match xs with
  | [(false, [(.str, TC.s s)])] => some ((qbc_c s), qbc_mk (qbc_v s))
  | _ => .none
theorem qbc_e (s : BS) : runF tab FT D30 live 25 noLoops [(false, [(.str, TC.s s)])] = (qbc_t s).run fun p => some (qbc_mk p) := by kernel_rfl
theorem qbc_s : ∀ xs r, qbc_S xs = some (true, r) → runF tab FT D30 live 25 noLoops xs = some r := by
  intro xs r h
  unfold qbc_S at h
  split at h
  · obtain ⟨h1, rfl⟩ := sp h
    exact fun_told (qbc_e _) (qbc_l _) h1
  · cases h
def D31 : Dt := also D30 25 qbc_S
theorem d31 : DOk Go.Proofs.Tryd.prog tab D31 := d30.also mixed_ok tab_ok names_ok noLoops_ok qbc_s
theorem cut_c (s : BS) : qbf_c s [47] = true := by
  unfold qbf_c qbh_c qbi_c
  cases s with
  | nil => rfl
  | cons b l =>
    rw [show decide (((b :: l).length : Int) ≥ (([47] : BS).length : Int)) = true from by simp; omega, is_true (show (0 : Int) ≤ (0 : Int) ∧ (0 : Int) ≤ (([47] : BS).length : Int) ∧ (([47] : BS).length : Int) ≤ ((b :: l).length : Int) from by simp; omega),
      is_true (show (0 : Int) ≤ (([47] : BS).length : Int) ∧ (([47] : BS).length : Int) ≤ ((b :: l).length : Int) ∧ ((b :: l).length : Int) ≤ ((b :: l).length : Int) from by simp; omega)]
    cases qbi_v (b :: l) [47] <;> rfl
theorem cut_v (s : BS) : qbf_v s [47] = bif (!(s == []) && (s.getD 0 0 == 47)) then (s.drop 1, true) else (s, false) := by
  unfold qbf_v qbh_v qbi_v
  cases s with
  | nil => rfl
  | cons b l =>
    rw [show decide (((b :: l).length : Int) ≥ (([47] : BS).length : Int)) = true from by simp; omega]
    rw [show ((((b :: l).take ((([47] : BS).length : Int)).toNat).drop ((0 : Int)).toNat) == ([47] : BS)) = (b == 47) from by
      show ([b] == [47]) = _
      rw [Bool.eq_iff_iff]; simp]
    rw [show (((b :: l).take (((b :: l).length : Int)).toNat).drop ((([47] : BS).length : Int)).toNat) = l from by
      show ((b :: l).take (b :: l).length).drop 1 = l
      rw [List.take_length]; rfl]
    show _ = bif (!false && (b == 47)) then (l, true) else _
    cases b == 47 <;> rfl
theorem pcs_len : ∀ t : BS, (pcs t).length ≤ t.length + 1 ∧ ∀ x, x ∈ pcs t → x.length ≤ t.length
  | [] => ⟨by simp [pcs], fun x hx => by simp [pcs] at hx; subst hx; simp⟩
  | b :: l => by
    obtain ⟨h1, h2⟩ := pcs_len l
    rw [pcs_cons]
    cases b == 47 with
    | true =>
      refine ⟨by simp; omega, fun x hx => ?_⟩
      rcases List.mem_cons.1 hx with rfl | hx
      · simp
      · have := h2 x hx; simp; omega
    | false =>
      show (hdl [b] (pcs l)).length ≤ _ ∧ ∀ x, x ∈ hdl [b] (pcs l) → _
      cases hp : pcs l with
      | nil => exact absurd hp (pcs_ne l)
      | cons y z =>
        rw [hp] at h1 h2
        refine ⟨by simp [hdl] at h1 ⊢; omega, fun x hx => ?_⟩
        rcases List.mem_cons.1 hx with rfl | hx
        · have := h2 y List.mem_cons_self; simp; omega
        · have := h2 x (List.mem_cons_of_mem _ hx); simp; omega
theorem pcs_typed {t : BS} (h : t.length ≤ 1048576) : Typed tab (.slice 9) (.l (rowsS (pcs t))) := by
  obtain ⟨h1, h2⟩ := pcs_len t
  have hl : (rowsS (pcs t)).length ≤ 1048577 := by unfold rowsS; rw [List.length_map]; omega
  refine .slice _ _ (by rw [show (tab 9).bytes = 16 from rfl]; unfold reachBytes; omega) (by unfold maxLen; omega) (fun x hx => ?_) (fun x hx k hk => ?_)
  · obtain ⟨y, _, rfl⟩ := List.mem_map.1 hx
    rfl
  · obtain ⟨y, hy, rfl⟩ := List.mem_map.1 hx
    have hk : k < 1 := hk
    obtain rfl : k = 0 := by omega
    exact .str _ (by have := h2 y hy; unfold reachBytes; omega)
theorem cut_len (s : BS) : (qbf_v s [47]).1.length ≤ s.length := by
  rw [cut_v]
  cases (!(s == []) && (s.getD 0 0 == 47))
  · exact Nat.le_refl _
  · show (s.drop 1).length ≤ _
    rw [List.length_drop]; omega
theorem qbc_cc {s : BS} (hs : s.length ≤ 1048576) : qbc_c s = true := by
  have h1 := cut_len s
  have a1 := cut_c s
  have a2 : qbt_c ((qbf_v s [47]).1) [47] = true := is_true ⟨by omega, by simp⟩
  have a3 : qp_c (qbt_v ((qbf_v s [47]).1) [47]) = true := by
    unfold qbt_v
    rw [splL_slash]
    exact is_true (pcs_typed (by omega))
  unfold qbc_c
  rw [a1, a2, a3]
  generalize (s == [47]) = p1, (qbf_v s [47]).2 = p2, decide (((qbt_v ((qbf_v s [47]).1) [47]).length : Int) > (6 : Int)) = p3, qp_v (qbt_v ((qbf_v s [47]).1) [47]) = p4
  cases p1 <;> cases p2 <;> cases p3 <;> cases p4 <;> rfl
theorem qbc_vv (s : BS) : qbc_v s = (pathV s, pathB s) := by
  unfold qbc_v qp_v qbt_v
  simp only [splL_slash]
  rw [show (fun x : List TC => !(qbl_v (nth x 0).str)) = fun x => nameOk (nth x 0).str from by
    funext x
    unfold qbl_v
    rw [qm_vv, Bool.not_not]]
  have ha : ∀ L : List (BS), (rowsS L).all (fun x => nameOk (nth x 0).str) = L.all nameOk := fun L => by
    unfold rowsS
    rw [List.all_map]
    rfl
  rw [ha, cut_v]
  unfold pathV pathB
  cases h : s == [47] with
  | true =>
    have := eq_of_beq h
    subst this
    rfl
  | false =>
    have e2 : ∀ L : List (BS), decide (((rowsS L).length : Int) > 6) = !decide (L.length ≤ 6) := fun L => by
      rw [← decide_not]; exact decide_eq_decide.2 (by unfold rowsS; rw [List.length_map]; omega)
    rw [e2]
    generalize (s == []) = p1, (s.getD 0 0 == 47) = p2
    cases p1 <;> cases p2 <;> first
      | rfl
      | (show (bif !decide ((pcs (s.drop 1)).length ≤ 6) then _ else bif !((pcs (s.drop 1)).all nameOk) then _ else _) = _
         generalize (pcs (s.drop 1)).all nameOk = p3, decide ((pcs (s.drop 1)).length ≤ 6) = p4
         cases p3 <;> cases p4 <;> rfl)
def qbr_t (a0 : BS) : Tr (Bool) := (.ite ((qbc_c a0) = true) (.ok ((qbc_v a0).2))
  .no)
def qbr_mk (p : Bool) : Res := [(false, [⟨.bool, .sh, TC.b p⟩])]
def qbr_c (a0 : BS) : Bool := (qbc_c a0)
def qbr_v (a0 : BS) : Bool := (qbc_v a0).2
theorem qbr_l (a0 : BS) : (qbr_c a0) = true → (qbr_t a0).val = some (qbr_v a0) := by
  intro h
  have hc0 : (qbc_c a0) = true := h
  unfold qbr_t
  exact (Tr.t hc0 rfl)
def qbr_S : List Arg → Option (Bool × Res) := fun xs => match xs with
  | [(false, [(.str, TC.s a0)])] => some ((qbr_c a0), qbr_mk (qbr_v a0))
  | _ => .none
theorem qbr_e (a0 : BS) : runF tab FT D31 live 8 noLoops [(false, [(.str, TC.s a0)])] = (qbr_t a0).run fun p => some (qbr_mk p) := by kernel_rfl
theorem qbr_s : ∀ xs r, qbr_S xs = some (true, r) → runF tab FT D31 live 8 noLoops xs = some r := by
  intro xs r h
  unfold qbr_S at h
  split at h
  · obtain ⟨h1, rfl⟩ := sp h
    exact fun_told (qbr_e _) (qbr_l _) h1
  · cases h
def D32 : Dt := also D31 8 qbr_S
theorem d32 : DOk Go.Proofs.Tryd.prog tab D32 := d31.also mixed_ok tab_ok names_ok noLoops_ok qbr_s
def qs_t (a : BS) (b : Int) (c : BS) : Tr (Bool) := (.ite ((qm_c a) = true) (.ite ((!(qm_v a)) = true) (.ok false)
   (.ite ((c == []) = true) (.ok (qbv_v b (1 : Int) (255 : Int)))
    (.ite ((b == (0 : Int)) = true) (.ite ((qbr_c c) = true) (.ok (qbr_v c))
      .no)
     (.ok false))))
  .no)
def qs_mk (p : Bool) : Res := [(false, [⟨.bool, .sh, TC.b p⟩])]
def qs_c (a : BS) (b : Int) (c : BS) : Bool := ((qm_c a) && (bif (!(qm_v a)) then true else (bif (c == []) then true else (bif (b == (0 : Int)) then ((qbr_c c) && true) else true))))
def qs_v (a : BS) (b : Int) (c : BS) : Bool := (bif (!(qm_v a)) then false else (bif (c == []) then (qbv_v b (1 : Int) (255 : Int)) else (bif (b == (0 : Int)) then (qbr_v c) else false)))
theorem qs_l (a : BS) (b : Int) (c : BS) : (qs_c a b c) = true → (qs_t a b c).val = some (qs_v a b c) := by
  unfold qs_t qs_v qs_c
  exact fun h => (Tr.gb h fun h => (Tr.ss h (fun h => rfl) (fun h => (Tr.ss h (fun h => rfl) (fun h => (Tr.ss h (fun h => (Tr.gb h fun h => rfl)) (fun h => rfl)))))))
def qs_S : List Arg → Option (Bool × Res) := fun xs => match xs with
  | [(true, [(.str, TC.s a), (.int .i64, TC.i b), (.str, TC.s c)])] => some ((qs_c a b c), qs_mk (qs_v a b c))
  | _ => .none
theorem qs_e (a : BS) (b : Int) (c : BS) : runF tab FT D32 live 30 noLoops [(true, [(.str, TC.s a), (.int .i64, TC.i b), (.str, TC.s c)])] = (qs_t a b c).run fun p => some (qs_mk p) := by kernel_rfl
theorem qs_s : ∀ xs r, qs_S xs = some (true, r) → runF tab FT D32 live 30 noLoops xs = some r := by
  intro xs r h
  unfold qs_S at h
  split at h
  · obtain ⟨h1, rfl⟩ := sp h
    exact fun_told (qs_e ..) (qs_l _ _ _) h1
  · cases h
def D33 : Dt := also D32 30 qs_S
theorem d33 : DOk Go.Proofs.Tryd.prog tab D33 := d32.also mixed_ok tab_ok names_ok noLoops_ok qs_s
theorem qs_cc {a : BS} {b : Int} {c : BS} (ha : Typed tab (.str) (.s a)) (hc : c.length ≤ 1048576) : (qs_c a b c) = true := by
  unfold qs_c
  refine andT (by exact qm_cc ha) ?_
  refine bifT (fun b1 => ?_) (fun b1 => ?_)
  · skip
    rfl
  · skip
    refine bifT (fun b2 => ?_) (fun b2 => ?_)
    · skip
      rfl
    · skip
      refine bifT (fun b3 => ?_) (fun b3 => ?_)
      · skip
        refine andT (by exact qbc_cc hc) ?_
        rfl
      · skip
        rfl
theorem qs_vv (x : List TC) : qs_v (nth x 0).str (nth x 1).int (nth x 2).str = (nameOk (nth x 0).str && linkB x) := by
  unfold qs_v linkB
  rw [qm_vv, show qbr_v (nth x 2).str = pathB (nth x 2).str from by unfold qbr_v; rw [qbc_vv], show qbv_v (nth x 1).int 1 255 = lnIn (nth x 1).int from by
    unfold qbv_v lnIn; first | rfl | (generalize decide ((nth x 1).int ≥ 1) = p1, decide ((nth x 1).int ≤ 255) = p2; cases p1 <;> cases p2 <;> rfl)]
  generalize nameOk (nth x 0).str = p1, ((nth x 2).str == []) = p2, lnIn (nth x 1).int = p3, ((nth x 1).int == 0) = p4, pathB (nth x 2).str = p5
  cases p1 <;> cases p2 <;> cases p3 <;> cases p4 <;> cases p5 <;> rfl
def qg_f2 (A X : LL) (m i : Int) : (Unit) ⊕ ((LL) ⊕ (LL)) := (bif (!(qs_v ((nth (row X i) 0).str) ((nth (row X i) 1).int) ((nth (row X i) 2).str))) then (.inr (.inl A)) else (bif (decide (i > (0 : Int))) then (bif (bytesLess ((nth (row X i) 0).str) ((nth (row A (IntKind.wrap .i64 (i - (1 : Int)))) 0).str) || ((nth (row X i) 0).str == (nth (row A (IntKind.wrap .i64 (i - (1 : Int)))) 0).str)) then (.inr (.inl A)) else (.inl ())) else (.inl ())))
def qg_e2 (A X : LL) (m : Int) : (LL) ⊕ (LL) := .inr A
def qg_R2 (A X : LL) (m i : Int) : (LL) ⊕ (LL) := iter (fun i a => (qg_f2 A X m (i : Int))) (fun a => (qg_e2 A X m)) (A.length) 0 ()
abbrev qg_2_σ := LL × LL × Int × Int
abbrev qg_2_ω := (LL) ⊕ (LL)
def qg_2_step (A X : LL) (m i : Int) : Tr (qg_2_σ ⊕ qg_2_ω) := (.ite ((decide (i < m)) = true) (.ite ((0 : Int) ≤ i ∧ i < (X.length : Int)) (.ite ((qs_c ((nth (row X i) 0).str) ((nth (row X i) 1).int) ((nth (row X i) 2).str)) = true) (.ite ((!(qs_v ((nth (row X i) 0).str) ((nth (row X i) 1).int) ((nth (row X i) 2).str))) = true) (.ok (.inr (.inl A)))
     (.ite ((decide (i > (0 : Int))) = true) (.ite ((0 : Int) ≤ (IntKind.wrap .i64 (i - (1 : Int))) ∧ (IntKind.wrap .i64 (i - (1 : Int))) < (A.length : Int)) (.ite ((bytesLess ((nth (row X i) 0).str) ((nth (row A (IntKind.wrap .i64 (i - (1 : Int)))) 0).str) || ((nth (row X i) 0).str == (nth (row A (IntKind.wrap .i64 (i - (1 : Int)))) 0).str)) = true) (.ok (.inr (.inl A)))
        (.ok (.inl (A, X, m, (IntKind.wrap .i64 (i + (1 : Int)))))))
       .no)
      (.ok (.inl (A, X, m, (IntKind.wrap .i64 (i + (1 : Int))))))))
    .no)
   .no)
  (.ok (.inr (.inr A))))
def qg_2_st : qg_2_σ → Tr (qg_2_σ ⊕ qg_2_ω) := fun x => (qg_2_step (x.1) (x.2.1) (x.2.2.1) (x.2.2.2))
def qg_k2_1 (A X : LL) (m i : Int) : Bool := sumIs (qg_R2 A X m i)
def qg_o2_2 (A X : LL) (m i : Int) : Bool := is (i = 0 ∧ Typed tab (.slice 48) (.l A) ∧ m = (A.length : Int) ∧ A = X ∧ PathsOk A)
def qg_o2_3 (A X : LL) (m i : Int) : Bool := is (i = 0 ∧ Typed tab (.slice 48) (.l A) ∧ m = (A.length : Int) ∧ A = X ∧ PathsOk A)
def qg_2_fin (A X : LL) (m i : Int) : Told qg_2_ω := (.br (qg_k2_1 A X m i) (.leaf (qg_o2_2 A X m i) (.inl A)) (.leaf (qg_o2_3 A X m i) (.inr A)))
def qg_2_sl (x : qg_2_σ) : List Slot := [⟨.val false [⟨.slice 48, .sh, TC.l (x.1)⟩], ⟨0, 0⟩⟩, ⟨.val false [⟨.slice 48, .sh, TC.l (x.2.1)⟩], ⟨0, 0⟩⟩, ⟨.val false [⟨.int .i64, .sh, TC.i (x.2.2.1)⟩], ⟨0, 0⟩⟩, ⟨.val false [⟨.int .i64, .sh, TC.i (x.2.2.2)⟩], ⟨0, 0⟩⟩]
def qg_2_out : qg_2_ω → Ex × List Slot := (Sum.elim (fun x => (.ret, [⟨.val false [⟨.slice 48, .sh, TC.l x⟩], ⟨0, 0⟩⟩, ⟨.val false [⟨.bool, .sh, TC.b false⟩], ⟨0, 0⟩⟩])) (fun x => (.exit 0, [⟨.val false [⟨.slice 48, .sh, TC.l x⟩], ⟨0, 0⟩⟩, Slot.none])))
def qg_lo2 : List Slot → Option (Told (Ex × List Slot)) := fun s => match s with
  | [⟨.val false [⟨.slice 48, .sh, TC.l A⟩], ⟨0, 0⟩⟩, ⟨.val false [⟨.slice 48, .sh, TC.l X⟩], ⟨0, 0⟩⟩, ⟨.val false [⟨.int .i64, .sh, TC.i m⟩], ⟨0, 0⟩⟩, ⟨.val false [⟨.int .i64, .sh, TC.i i⟩], ⟨0, 0⟩⟩] => some (((qg_2_fin A X m i)).map qg_2_out)
  | _ => .none
def qg_lo : LoopTeller := fun r s => bif Nat.beq r 2 then qg_lo2 s else .none
theorem qg_2_r (A X : LL) (m i : Int) (fuel : Nat) : rounds (rnd tab FT D33 live 17 qg_lo 0 2) leave (fuel + 1) (qg_2_sl (A, X, m, i)) = ((qg_2_step A X m i)).run (goOn (fun s => rounds (rnd tab FT D33 live 17 qg_lo 0 2) leave fuel (qg_2_sl s)) fun w => some (qg_2_out w)) := by kernel_rfl
theorem qg_f2_eq (A : LL) (m i : Int) : qg_f2 A A m i = bif linkP A i then Sum.inl () else Sum.inr (Sum.inl A) := by
  unfold qg_f2 linkP
  simp only [qs_vv, less_le]
  generalize nameOk (nth (row A i) 0).str = p0, decide (i > (0 : Int)) = p1, bytesLess (nth (row A (IntKind.wrap .i64 (i - (1 : Int)))) 0).str (nth (row A i) 0).str = p2, linkB (row A i) = p3
  cases p0 <;> cases p1 <;> cases p2 <;> cases p3 <;> rfl
theorem qg_R2_eq (A : LL) (m : Int) : qg_R2 A A m 0 = bif allI (fun i : Nat => linkP A (i : Int)) A.length then Sum.inr A else Sum.inl A := by
  unfold qg_R2
  exact (iter_all (P := fun i : Nat => linkP A (i : Int)) (g := fun _ a => a) (w := Sum.inl A) fun j a _ => qg_f2_eq A m _)
theorem qg_2_h (A X : LL) (m i : Int) (ow : qg_2_ω) : ((qg_2_fin A X m i)).val = some ow → ∃ fuel, loopN qg_2_st fuel (A, X, m, i) = some ow := by
  refine auto_const (R := (qg_R2 A X m i)) rfl (iter_onR (f := (fun i a => (qg_f2 A X m (i : Int)))) (fin := (fun a => (qg_e2 A X m))) (Q := endsAs A A) (fun i a => by unfold qg_f2; exact (onR_bif rfl (onR_bif (onR_bif rfl trivial) trivial))) (fun _ => rfl) _ _ _) ?_
  intro ho
  have ho : is (i = 0 ∧ Typed tab (.slice 48) (.l A) ∧ m = (A.length : Int) ∧ A = X ∧ PathsOk A) = true := ho.elim id id
  obtain ⟨rfl, ht, rfl, rfl, hP⟩ := is_iff.1 ho
  have hlen : A.length ≤ 140737488351232 := by have := typed_room ht; simp only [show (tab 48).bytes = 40 from rfl] at this; omega
  refine ⟨(A.length) + 1, ?_⟩
  refine iter_loop (step := qg_2_st) (A.length) (fun i a => (qg_f2 A A (A.length : Int) (i : Int))) (fun a => (qg_e2 A A (A.length : Int))) (fun i a => (A, A, (A.length : Int), (i : Int))) (fun _ _ => True) trivial (fun i a hi hI => ⟨?_, fun _ _ => trivial⟩) (fun a hI => ?_)
  · show (qg_2_step A A (A.length : Int) (i : Int)).val = _
    unfold qg_2_step qg_f2
    have c0 : Typed tab (.str) (.s (nth (A.getD i []) 0).str) := typed_s (typed_cell ht (A.getD i []) (mem_getD hi) 0 (by decide))
    have c2 : Typed tab (.str) (.s (nth (A.getD i []) 2).str) := typed_s (typed_cell ht (A.getD i []) (mem_getD hi) 2 (by decide))
    refine Tr.t (by simp; omega) ?_
    exact (Tr.t (by first | omega | (constructor <;> omega) | (simp only [decide_eq_true_eq] at *; rw [wrap64 (by omega) (by omega)]; constructor <;> omega) | (exact qs_cc (by assumption) (hP _ (mem_getD (by omega))))) (Tr.t (by first | (simp only [decide_eq_true_eq] at *; rw [wrap64 (by omega) (by omega)]; constructor <;> omega) | (exact qs_cc (by assumption) (hP _ (mem_getD (by omega)))) | (first | (apply qs_cc <;> assumption) | (first | (apply is_true; and_intros <;> (first | rfl | assumption | (apply qh_cc <;> assumption) | (apply qc_cc <;> assumption) | (apply ql_cc <;> assumption) | (apply qo_cc <;> assumption) | (apply qj_cc <;> assumption) | (apply qe_cc <;> assumption) | (apply qm_cc <;> assumption) | (apply qs_cc <;> assumption) | (first | (apply is_true; and_intros <;> (first | rfl | assumption | (apply qh_cc <;> assumption) | (apply qc_cc <;> assumption) | (apply ql_cc <;> assumption) | (apply qo_cc <;> assumption) | (apply qj_cc <;> assumption) | (apply qe_cc <;> assumption) | (apply qm_cc <;> assumption) | (apply qs_cc <;> assumption))) | (apply qh_cc <;> assumption) | (apply qc_cc <;> assumption) | (apply ql_cc <;> assumption) | (apply qo_cc <;> assumption) | (apply qj_cc <;> assumption) | (apply qe_cc <;> assumption) | (apply qm_cc <;> assumption) | (apply qs_cc <;> assumption)))) | (apply qh_cc <;> assumption) | (apply qc_cc <;> assumption) | (apply ql_cc <;> assumption) | (apply qo_cc <;> assumption) | (apply qj_cc <;> assumption) | (apply qe_cc <;> assumption) | (apply qm_cc <;> assumption) | (apply qs_cc <;> assumption)))) (Tr.bh (fun _ => rfl) (fun _ => (Tr.bh (fun _ => (Tr.t (by first | omega | (constructor <;> omega) | (simp only [decide_eq_true_eq] at *; rw [wrap64 (by omega) (by omega)]; constructor <;> omega) | (exact qs_cc (by assumption) (hP _ (mem_getD (by omega))))) (Tr.bh (fun _ => rfl) (fun _ => (by rw [Tr.val_ok, wrap64 (i := (i : Int) + 1) (by omega) (by omega)]; rfl))))) (fun _ => (by rw [Tr.val_ok, wrap64 (i := (i : Int) + 1) (by omega) (by omega)]; rfl)))))))
  · show (qg_2_step A A (A.length : Int) (A.length : Int)).val = _
    refine Tr.n (by first | (simp; done) | (simp; omega) | omega) ?_
    rfl
theorem qg_is2 : LoopIs tab FT D33 live 17 qg_lo 0 2 := by
  refine loop_told (sl := qg_2_sl) (step := qg_2_st) (out := qg_2_out) (lor := qg_lo2) (fin := fun x => (qg_2_fin (x.1) (x.2.1) (x.2.2.1) (x.2.2.2))) (fun _ => rfl) ?_ (fun x n => qg_2_r x.1 x.2.1 x.2.2.1 x.2.2.2 n) (fun x ow => qg_2_h x.1 x.2.1 x.2.2.1 x.2.2.2 ow)
  intro s t h
  unfold qg_lo2 at h
  split at h
  · cases h; exact ⟨(_, _, _, _), rfl, rfl⟩
  · cases h
def qg_t (A : LL) : Tr (Bool) := (.ite ((qg_k2_1 A A (A.length : Int) (0 : Int)) = true) (.ite ((qg_o2_2 A A (A.length : Int) (0 : Int)) = true) (.ok false)
   .no)
  (.ite ((qg_o2_3 A A (A.length : Int) (0 : Int)) = true) (.ok (decide ((A.length : Int) ≤ (12 : Int))))
   .no))
def qg_mk (p : Bool) : Res := [(false, [⟨.bool, .sh, TC.b p⟩])]
def qg_c (A : LL) : Bool := (bif (qg_k2_1 A A (A.length : Int) (0 : Int)) then ((qg_o2_2 A A (A.length : Int) (0 : Int)) && true) else ((qg_o2_3 A A (A.length : Int) (0 : Int)) && true))
def qg_v (A : LL) : Bool := (bif (qg_k2_1 A A (A.length : Int) (0 : Int)) then false else (decide ((A.length : Int) ≤ (12 : Int))))
theorem qg_l (A : LL) : (qg_c A) = true → (qg_t A).val = some (qg_v A) := by
  unfold qg_t qg_v qg_c
  exact fun h => (Tr.ss h (fun h => (Tr.gb h fun h => rfl)) (fun h => (Tr.gb h fun h => rfl)))
def qg_S : List Arg → Option (Bool × Res) := fun xs => match xs with
  | [(false, [(.slice 48, TC.l A)])] => some ((qg_c A), qg_mk (qg_v A))
  | _ => .none
theorem qg_e (A : LL) : runF tab FT D33 live 17 qg_lo [(false, [(.slice 48, TC.l A)])] = (qg_t A).run fun p => some (qg_mk p) := by kernel_rfl
theorem qg_s : ∀ xs r, qg_S xs = some (true, r) → runF tab FT D33 live 17 qg_lo xs = some r := by
  intro xs r h
  unfold qg_S at h
  split at h
  · obtain ⟨h1, rfl⟩ := sp h
    exact fun_told (qg_e _) (qg_l _) h1
  · cases h
def D34 : Dt := also D33 17 qg_S
theorem d34 : DOk Go.Proofs.Tryd.prog tab D34 := d33.also mixed_ok tab_ok names_ok (fnLoops_one (by kernel_rfl) qg_is2) qg_s
theorem qg_cc {A : LL} (hA : Typed tab (.slice 48) (.l A)) (hP : PathsOk A) : (qg_c A) = true := by
  unfold qg_c
  refine bifT (fun b1 => ?_) (fun b1 => ?_)
  · skip
    refine andT (by exact is_true ⟨rfl, hA, rfl, rfl, hP⟩) ?_
    rfl
  · skip
    refine andT (by exact is_true ⟨rfl, hA, rfl, rfl, hP⟩) ?_
    rfl
theorem qg_vv (A : LL) : qg_v A = linksB A := by
  unfold qg_v qg_k2_1
  rw [qg_R2_eq]
  unfold linksB
  rw [show decide ((A.length : Int) ≤ 12) = decide (A.length ≤ 12) from decide_eq_decide.2 (by omega)]
  generalize allI (fun i : Nat => linkP A (i : Int)) A.length = p1, decide (A.length ≤ 12) = p2
  cases p1 <;> cases p2 <;> rfl
def qbk_t (a0 : BS) : Tr (Bool) := (.ite ((!(a0 == [])) = true) (.ite ((qm_c a0) = true) (.ok (!(qm_v a0)))
   .no)
  (.ok false))
def qbk_mk (p : Bool) : Res := [(false, [⟨.bool, .sh, TC.b p⟩])]
def qbk_c (a0 : BS) : Bool := (qm_c a0)
def qbk_v (a0 : BS) : Bool := (bif (!(a0 == [])) then (!(qm_v a0)) else false)
theorem qbk_l (a0 : BS) : (qbk_c a0) = true → (qbk_t a0).val = some (qbk_v a0) := by
  intro h
  have g0 : (qm_c a0) = true := h
  unfold qbk_t qbk_v
  exact (Tr.s (Tr.t g0 rfl) rfl)
def qbk_S : List Arg → Option (Bool × Res) := fun xs => match xs with
  | [(false, [(.str, TC.s a0)])] => some ((qbk_c a0), qbk_mk (qbk_v a0))
  | _ => .none
theorem qbk_e (a0 : BS) : runF tab FT D34 live 50 noLoops [(false, [(.str, TC.s a0)])] = (qbk_t a0).run fun p => some (qbk_mk p) := by kernel_rfl
theorem qbk_s : ∀ xs r, qbk_S xs = some (true, r) → runF tab FT D34 live 50 noLoops xs = some r := by
  intro xs r h
  unfold qbk_S at h
  split at h
  · obtain ⟨h1, rfl⟩ := sp h
    exact fun_told (qbk_e _) (qbk_l _) h1
  · cases h
def D35 : Dt := also D34 50 qbk_S
theorem d35 : DOk Go.Proofs.Tryd.prog tab D35 := d34.also mixed_ok tab_ok names_ok noLoops_ok qbk_s
abbrev qi_2_σ := LL × Int × Int
abbrev qi_2_ω := (Int) ⊕ (Unit)
def qi_2_step (A : LL) (m i : Int) : Tr (qi_2_σ ⊕ qi_2_ω) := (.ite ((decide (i < m)) = true) (.ite ((0 : Int) ≤ i ∧ i < (A.length : Int)) (.ite ((qbk_c ((nth (row A i) 0).str)) = true) (.ite ((qbk_v ((nth (row A i) 0).str)) = true) (.ok (.inr (.inl i)))
     (.ok (.inl (A, m, (IntKind.wrap .i64 (i + (1 : Int)))))))
    .no)
   .no)
  (.ok (.inr (.inr ()))))
def qi_2_st : qi_2_σ → Tr (qi_2_σ ⊕ qi_2_ω) := fun x => (qi_2_step (x.1) (x.2.1) (x.2.2))
def qi_k2_1 (A : LL) (m i : Int) : Bool := A.all (fun x => !(qbk_v ((nth x 0).str)))
def qi_o2_2 (A : LL) (m i : Int) : Bool := is (i = 0 ∧ Typed tab (.slice 9) (.l A) ∧ m = (A.length : Int))
def qi_o2_3 (A : LL) (m i : Int) : Bool := is (i = 0 ∧ Typed tab (.slice 9) (.l A) ∧ m = (A.length : Int))
def qi_u2_3 (A : LL) (m i : Int) : Int := (Int.ofNat (A.findIdx fun x => !(fun x => !(qbk_v ((nth x 0).str))) x))
def qi_2_fin (A : LL) (m i : Int) : Told qi_2_ω := (.br (qi_k2_1 A m i) (.leaf (qi_o2_2 A m i) (.inr ())) (.leaf (qi_o2_3 A m i) (.inl (qi_u2_3 A m i))))
def qi_2_sl (x : qi_2_σ) : List Slot := [⟨.val false [⟨.slice 9, .sh, TC.l (x.1)⟩], ⟨0, 0⟩⟩, ⟨.val false [⟨.func, .sh, TC.f 50 []⟩], ⟨0, 0⟩⟩, ⟨.val false [⟨.int .i64, .sh, TC.i (x.2.1)⟩], ⟨0, 0⟩⟩, ⟨.val false [⟨.int .i64, .sh, TC.i (x.2.2)⟩], ⟨0, 0⟩⟩]
def qi_2_out : qi_2_ω → Ex × List Slot := (Sum.elim (fun x => (.ret, [⟨.val false [⟨.int .i64, .sh, TC.i x⟩], ⟨0, 0⟩⟩])) (fun x => (.exit 0, [Slot.none])))
def qi_lo2 : List Slot → Option (Told (Ex × List Slot)) := fun s => match s with
  | [⟨.val false [⟨.slice 9, .sh, TC.l A⟩], ⟨0, 0⟩⟩, ⟨.val false [⟨.func, .sh, TC.f 50 []⟩], ⟨0, 0⟩⟩, ⟨.val false [⟨.int .i64, .sh, TC.i m⟩], ⟨0, 0⟩⟩, ⟨.val false [⟨.int .i64, .sh, TC.i i⟩], ⟨0, 0⟩⟩] => some (((qi_2_fin A m i)).map qi_2_out)
  | _ => .none
def qi_lo : LoopTeller := fun r s => bif Nat.beq r 2 then qi_lo2 s else .none
theorem qi_2_r (A : LL) (m i : Int) (fuel : Nat) : rounds (rnd tab FT D35 live 59 qi_lo 0 2) leave (fuel + 1) (qi_2_sl (A, m, i)) = ((qi_2_step A m i)).run (goOn (fun s => rounds (rnd tab FT D35 live 59 qi_lo 0 2) leave fuel (qi_2_sl s)) fun w => some (qi_2_out w)) := by kernel_rfl
theorem qi_2_h (A : LL) (m i : Int) (ow : qi_2_ω) : ((qi_2_fin A m i)).val = some ow → ∃ fuel, loopN qi_2_st fuel (A, m, i) = some ow := by
  intro h
  have key : Typed tab (.slice 9) (.l A) → loopN qi_2_st (A.length + 1) (A, (A.length : Int), (0 : Int)) = some (if A.all (fun x => !(qbk_v ((nth x 0).str))) = true then (.inr ()) else (.inl (Int.ofNat (A.findIdx fun x => !(fun x => !(qbk_v ((nth x 0).str))) x)))) := by
    intro ht
    have hlen : A.length ≤ 140737488351232 := by have := typed_room ht; simp only [show (tab 9).bytes = 16 from rfl] at this; omega
    have key := loopN_scan (step := qi_2_st) A [] (fun x => !(qbk_v ((nth x 0).str))) (fun a _ => a) (fun i a => (A, (A.length : Int), (i : Int))) (fun a => (.inr ())) (fun i a => (.inl (i : Int))) (fun i a hi => ?_) (fun a => ?_) A.length 0 () (by omega)
    · first | (rw [Nat.zero_add] at key; exact key) | exact key
    · have c0 : Typed tab (.str) (.s (nth (A.getD i []) 0).str) := typed_s (typed_cell ht (A.getD i []) (mem_getD hi) 0 (by decide))
      show (qi_2_step A (A.length : Int) (i : Int)).val = _
      unfold qi_2_step
      refine Tr.t (by simp; omega) ?_
      skip
      refine Tr.t (by first | omega | (constructor <;> omega)) ?_
      refine Tr.t (by first | (apply is_true; and_intros <;> (first | rfl | assumption | (apply qh_cc <;> assumption) | (apply qc_cc <;> assumption) | (apply ql_cc <;> assumption) | (apply qo_cc <;> assumption) | (apply qj_cc <;> assumption) | (apply qe_cc <;> assumption) | (apply qm_cc <;> assumption) | (apply qs_cc <;> assumption) | (apply qg_cc <;> assumption) | (first | (apply is_true; and_intros <;> (first | rfl | assumption | (apply qh_cc <;> assumption) | (apply qc_cc <;> assumption) | (apply ql_cc <;> assumption) | (apply qo_cc <;> assumption) | (apply qj_cc <;> assumption) | (apply qe_cc <;> assumption) | (apply qm_cc <;> assumption) | (apply qs_cc <;> assumption) | (apply qg_cc <;> assumption) | (first | (apply is_true; and_intros <;> (first | rfl | assumption | (apply qh_cc <;> assumption) | (apply qc_cc <;> assumption) | (apply ql_cc <;> assumption) | (apply qo_cc <;> assumption) | (apply qj_cc <;> assumption) | (apply qe_cc <;> assumption) | (apply qm_cc <;> assumption) | (apply qs_cc <;> assumption) | (apply qg_cc <;> assumption) | (first | (apply is_true; and_intros <;> (first | rfl | assumption | (apply qh_cc <;> assumption) | (apply qc_cc <;> assumption) | (apply ql_cc <;> assumption) | (apply qo_cc <;> assumption) | (apply qj_cc <;> assumption) | (apply qe_cc <;> assumption) | (apply qm_cc <;> assumption) | (apply qs_cc <;> assumption) | (apply qg_cc <;> assumption))) | (apply qh_cc <;> assumption) | (apply qc_cc <;> assumption) | (apply ql_cc <;> assumption) | (apply qo_cc <;> assumption) | (apply qj_cc <;> assumption) | (apply qe_cc <;> assumption) | (apply qm_cc <;> assumption) | (apply qs_cc <;> assumption) | (apply qg_cc <;> assumption)))) | (apply qh_cc <;> assumption) | (apply qc_cc <;> assumption) | (apply ql_cc <;> assumption) | (apply qo_cc <;> assumption) | (apply qj_cc <;> assumption) | (apply qe_cc <;> assumption) | (apply qm_cc <;> assumption) | (apply qs_cc <;> assumption) | (apply qg_cc <;> assumption)))) | (apply qh_cc <;> assumption) | (apply qc_cc <;> assumption) | (apply ql_cc <;> assumption) | (apply qo_cc <;> assumption) | (apply qj_cc <;> assumption) | (apply qe_cc <;> assumption) | (apply qm_cc <;> assumption) | (apply qs_cc <;> assumption) | (apply qg_cc <;> assumption)))) | (apply qh_cc <;> assumption) | (apply qc_cc <;> assumption) | (apply ql_cc <;> assumption) | (apply qo_cc <;> assumption) | (apply qj_cc <;> assumption) | (apply qe_cc <;> assumption) | (apply qm_cc <;> assumption) | (apply qs_cc <;> assumption) | (apply qg_cc <;> assumption)) ?_
      refine Tr.b2 (fun hP => ?_) (fun _ => rfl)
      rw [Tr.val_ok, wrap64 (i := (i : Int) + 1) (by omega) (by omega)]; rfl
    · show (qi_2_step A (A.length : Int) (A.length : Int)).val = _
      refine Tr.n (by simp) ?_
      rfl
  simp only [qi_2_fin, Told.val] at h
  cases hk : A.all (fun x => !(qbk_v ((nth x 0).str))) with
  | true =>
    rw [if_pos (show qi_k2_1 A m i = true from hk)] at h
    split at h
    · rename_i ho
      obtain ⟨rfl, ht, rfl⟩ := is_iff.1 ho
      cases h
      refine ⟨_, (key ht).trans ?_⟩
      rw [hk]; rfl
    · cases h
  | false =>
    rw [if_neg (show ¬qi_k2_1 A m i = true from by rw [show qi_k2_1 A m i = (A.all (fun x => !(qbk_v ((nth x 0).str)))) from rfl, hk]; simp)] at h
    split at h
    · rename_i ho
      obtain ⟨rfl, ht, rfl⟩ := is_iff.1 ho
      cases h
      refine ⟨_, (key ht).trans ?_⟩
      rw [hk]; rfl
    · cases h
theorem qi_is2 : LoopIs tab FT D35 live 59 qi_lo 0 2 := by
  refine loop_told (sl := qi_2_sl) (step := qi_2_st) (out := qi_2_out) (lor := qi_lo2) (fin := fun x => (qi_2_fin (x.1) (x.2.1) (x.2.2))) (fun _ => rfl) ?_ (fun x n => qi_2_r x.1 x.2.1 x.2.2 n) (fun x ow => qi_2_h x.1 x.2.1 x.2.2 ow)
  intro s t h
  unfold qi_lo2 at h
  split at h
  · cases h; exact ⟨(_, _, _), rfl, rfl⟩
  · cases h
def qi_t (A : LL) : Tr (Int) := (.ite ((qi_k2_1 A (A.length : Int) (0 : Int)) = true) (.ite ((qi_o2_2 A (A.length : Int) (0 : Int)) = true) (.ok (-1 : Int))
   .no)
  (.ite ((qi_o2_3 A (A.length : Int) (0 : Int)) = true) (.ok (qi_u2_3 A (A.length : Int) (0 : Int)))
   .no))
def qi_mk (p : Int) : Res := [(false, [⟨.int .i64, .sh, TC.i p⟩])]
def qi_c (A : LL) : Bool := is (Typed tab (.slice 9) (.l A))
def qi_v (A : LL) : Int := if (A.all (fun x => !(qbk_v ((nth x 0).str)))) = true then -1 else (Int.ofNat (A.findIdx fun x => !(fun x => !(qbk_v ((nth x 0).str))) x))
theorem qi_l (A : LL) : (qi_c A) = true → (qi_t A).val = some (qi_v A) := by
  intro h
  have ht := is_iff.1 h
  unfold qi_t
  cases hk : A.all (fun x => !(qbk_v ((nth x 0).str))) with
  | true =>
    refine Tr.t (show A.all (fun x => !(qbk_v ((nth x 0).str))) = true from hk) ?_
    refine Tr.t (is_true ⟨rfl, ht, rfl⟩) ?_
    show _ = some (qi_v A ); unfold qi_v; rw [if_pos hk]; rfl
  | false =>
    refine Tr.n (show ¬A.all (fun x => !(qbk_v ((nth x 0).str))) = true from by rw [hk]; simp) ?_
    refine Tr.t (is_true ⟨rfl, ht, rfl⟩) ?_
    show _ = some (qi_v A ); unfold qi_v; rw [if_neg (by rw [hk]; simp)]; rfl
def qi_S : List Arg → Option (Bool × Res) := fun xs => match xs with
  | [(false, [(.slice 9, TC.l A)]), (false, [(.func, TC.f 50 [])])] => some ((qi_c A), qi_mk (qi_v A))
  | _ => .none
theorem qi_e (A : LL) : runF tab FT D35 live 59 qi_lo [(false, [(.slice 9, TC.l A)]), (false, [(.func, TC.f 50 [])])] = (qi_t A).run fun p => some (qi_mk p) := by kernel_rfl
theorem qi_s : ∀ xs r, qi_S xs = some (true, r) → runF tab FT D35 live 59 qi_lo xs = some r := by
  intro xs r h
  unfold qi_S at h
  split at h
  · obtain ⟨h1, rfl⟩ := sp h
    exact fun_told (qi_e _) (qi_l _) h1
  · cases h
def D36 : Dt := also D35 59 qi_S
theorem d36 : DOk Go.Proofs.Tryd.prog tab D36 := d35.also mixed_ok tab_ok names_ok (fnLoops_one (by kernel_rfl) qi_is2) qi_s
def qy_t (A : LL) : Tr (Bool) := (.ite ((qi_c A) = true) (.ok (decide ((qi_v A) ≥ (0 : Int))))
  .no)
def qy_mk (p : Bool) : Res := [(false, [⟨.bool, .sh, TC.b p⟩])]
def qy_c (A : LL) : Bool := is (Typed tab (.slice 9) (.l A))
def qy_v (A : LL) : Bool := !(A.all (fun x => !(qbk_v ((nth x 0).str))))
theorem qy_l (A : LL) : (qy_c A) = true → (qy_t A).val = some (qy_v A) := by
  intro h
  have ht := is_iff.1 h
  unfold qy_t
  refine Tr.t (is_true ht) ?_
  show some (decide (qi_v A  ≥ 0)) = some (!(A.all (fun x => !(qbk_v ((nth x 0).str)))))
  unfold qi_v
  cases hk : A.all (fun x => !(qbk_v ((nth x 0).str))) <;> simp
def qy_S : List Arg → Option (Bool × Res) := fun xs => match xs with
  | [(false, [(.slice 9, TC.l A)]), (false, [(.func, TC.f 50 [])])] => some ((qy_c A), qy_mk (qy_v A))
  | _ => .none
theorem qy_e (A : LL) : runF tab FT D36 live 43 noLoops [(false, [(.slice 9, TC.l A)]), (false, [(.func, TC.f 50 [])])] = (qy_t A).run fun p => some (qy_mk p) := by kernel_rfl
theorem qy_s : ∀ xs r, qy_S xs = some (true, r) → runF tab FT D36 live 43 noLoops xs = some r := by
  intro xs r h
  unfold qy_S at h
  split at h
  · obtain ⟨h1, rfl⟩ := sp h
    exact fun_told (qy_e _) (qy_l _) h1
  · cases h
def D37 : Dt := also D36 43 qy_S
theorem d37 : DOk Go.Proofs.Tryd.prog tab D37 := d36.also mixed_ok tab_ok names_ok noLoops_ok qy_s
def qn_t (A : LL) : Tr (Bool) := (.ite ((decide ((A.length : Int) ≤ (30 : Int))) = true) (.ite (((A.length : Int) == (0 : Int)) = true) (.ite ((qy_c A) = true) (.ok (!(qy_v A)))
    .no)
   (.ite ((0 : Int) ≤ (IntKind.wrap .i64 ((A.length : Int) - (1 : Int))) ∧ (IntKind.wrap .i64 ((A.length : Int) - (1 : Int))) < (A.length : Int)) (.ite ((!((nth (row A (IntKind.wrap .i64 ((A.length : Int) - (1 : Int)))) 0).str == [])) = true) (.ite ((qy_c A) = true) (.ok (!(qy_v A)))
      .no)
     (.ok false))
    .no))
  (.ok false))
def qn_mk (p : Bool) : Res := [(false, [⟨.bool, .sh, TC.b p⟩])]
def qn_c (A : LL) : Bool := (bif (decide ((A.length : Int) ≤ (30 : Int))) then (bif ((A.length : Int) == (0 : Int)) then ((qy_c A) && true) else (is ((0 : Int) ≤ (IntKind.wrap .i64 ((A.length : Int) - (1 : Int))) ∧ (IntKind.wrap .i64 ((A.length : Int) - (1 : Int))) < (A.length : Int)) && (bif (!((nth (row A (IntKind.wrap .i64 ((A.length : Int) - (1 : Int)))) 0).str == [])) then ((qy_c A) && true) else true))) else true)
def qn_v (A : LL) : Bool := (bif (decide ((A.length : Int) ≤ (30 : Int))) then (bif ((A.length : Int) == (0 : Int)) then (!(qy_v A)) else (bif (!((nth (row A (IntKind.wrap .i64 ((A.length : Int) - (1 : Int)))) 0).str == [])) then (!(qy_v A)) else false)) else false)
theorem qn_l (A : LL) : (qn_c A) = true → (qn_t A).val = some (qn_v A) := by
  unfold qn_t qn_v qn_c
  exact fun h => (Tr.ss h (fun h => (Tr.ss h (fun h => (Tr.gb h fun h => rfl)) (fun h => (Tr.gs h fun h => (Tr.ss h (fun h => (Tr.gb h fun h => rfl)) (fun h => rfl)))))) (fun h => rfl))
def qn_S : List Arg → Option (Bool × Res) := fun xs => match xs with
  | [(true, [(.slice 9, TC.l A)])] => some ((qn_c A), qn_mk (qn_v A))
  | _ => .none
theorem qn_e (A : LL) : runF tab FT D37 live 38 noLoops [(true, [(.slice 9, TC.l A)])] = (qn_t A).run fun p => some (qn_mk p) := by kernel_rfl
theorem qn_s : ∀ xs r, qn_S xs = some (true, r) → runF tab FT D37 live 38 noLoops xs = some r := by
  intro xs r h
  unfold qn_S at h
  split at h
  · obtain ⟨h1, rfl⟩ := sp h
    exact fun_told (qn_e _) (qn_l _) h1
  · cases h
def D38 : Dt := also D37 38 qn_S
theorem d38 : DOk Go.Proofs.Tryd.prog tab D38 := d37.also mixed_ok tab_ok names_ok noLoops_ok qn_s
theorem qn_cc {A : LL} (hA : Typed tab (.slice 9) (.l A)) : (qn_c A) = true := by
  unfold qn_c
  refine bifT (fun b1 => ?_) (fun b1 => ?_)
  · skip
    refine bifT (fun b2 => ?_) (fun b2 => ?_)
    · skip
      refine andT (by first | (apply is_true; and_intros <;> (first | rfl | assumption | (apply qh_cc <;> assumption) | (apply qc_cc <;> assumption) | (apply ql_cc <;> assumption) | (apply qo_cc <;> assumption) | (apply qj_cc <;> assumption) | (apply qe_cc <;> assumption) | (apply qm_cc <;> assumption) | (apply qs_cc <;> assumption) | (apply qg_cc <;> assumption) | (first | (apply is_true; and_intros <;> (first | rfl | assumption | (apply qh_cc <;> assumption) | (apply qc_cc <;> assumption) | (apply ql_cc <;> assumption) | (apply qo_cc <;> assumption) | (apply qj_cc <;> assumption) | (apply qe_cc <;> assumption) | (apply qm_cc <;> assumption) | (apply qs_cc <;> assumption) | (apply qg_cc <;> assumption) | (first | (apply is_true; and_intros <;> (first | rfl | assumption | (apply qh_cc <;> assumption) | (apply qc_cc <;> assumption) | (apply ql_cc <;> assumption) | (apply qo_cc <;> assumption) | (apply qj_cc <;> assumption) | (apply qe_cc <;> assumption) | (apply qm_cc <;> assumption) | (apply qs_cc <;> assumption) | (apply qg_cc <;> assumption) | (first | (apply is_true; and_intros <;> (first | rfl | assumption | (apply qh_cc <;> assumption) | (apply qc_cc <;> assumption) | (apply ql_cc <;> assumption) | (apply qo_cc <;> assumption) | (apply qj_cc <;> assumption) | (apply qe_cc <;> assumption) | (apply qm_cc <;> assumption) | (apply qs_cc <;> assumption) | (apply qg_cc <;> assumption))) | (apply qh_cc <;> assumption) | (apply qc_cc <;> assumption) | (apply ql_cc <;> assumption) | (apply qo_cc <;> assumption) | (apply qj_cc <;> assumption) | (apply qe_cc <;> assumption) | (apply qm_cc <;> assumption) | (apply qs_cc <;> assumption) | (apply qg_cc <;> assumption)))) | (apply qh_cc <;> assumption) | (apply qc_cc <;> assumption) | (apply ql_cc <;> assumption) | (apply qo_cc <;> assumption) | (apply qj_cc <;> assumption) | (apply qe_cc <;> assumption) | (apply qm_cc <;> assumption) | (apply qs_cc <;> assumption) | (apply qg_cc <;> assumption)))) | (apply qh_cc <;> assumption) | (apply qc_cc <;> assumption) | (apply ql_cc <;> assumption) | (apply qo_cc <;> assumption) | (apply qj_cc <;> assumption) | (apply qe_cc <;> assumption) | (apply qm_cc <;> assumption) | (apply qs_cc <;> assumption) | (apply qg_cc <;> assumption)))) | (apply qh_cc <;> assumption) | (apply qc_cc <;> assumption) | (apply ql_cc <;> assumption) | (apply qo_cc <;> assumption) | (apply qj_cc <;> assumption) | (apply qe_cc <;> assumption) | (apply qm_cc <;> assumption) | (apply qs_cc <;> assumption) | (apply qg_cc <;> assumption)) ?_
      rfl
    · skip
      refine andT (is_true (by have hl := typed_room hA; simp only [show (tab 9).bytes = 16 from rfl] at hl; have hb := of_decide_eq_true b1; have hc := ne_of_beq_false b2; rw [wrap64 (by omega) (by omega)]; constructor <;> omega)) ?_
      refine bifT (fun b3 => ?_) (fun b3 => ?_)
      · skip
        refine andT (by first | (apply is_true; and_intros <;> (first | rfl | assumption | (apply qh_cc <;> assumption) | (apply qc_cc <;> assumption) | (apply ql_cc <;> assumption) | (apply qo_cc <;> assumption) | (apply qj_cc <;> assumption) | (apply qe_cc <;> assumption) | (apply qm_cc <;> assumption) | (apply qs_cc <;> assumption) | (apply qg_cc <;> assumption) | (first | (apply is_true; and_intros <;> (first | rfl | assumption | (apply qh_cc <;> assumption) | (apply qc_cc <;> assumption) | (apply ql_cc <;> assumption) | (apply qo_cc <;> assumption) | (apply qj_cc <;> assumption) | (apply qe_cc <;> assumption) | (apply qm_cc <;> assumption) | (apply qs_cc <;> assumption) | (apply qg_cc <;> assumption) | (first | (apply is_true; and_intros <;> (first | rfl | assumption | (apply qh_cc <;> assumption) | (apply qc_cc <;> assumption) | (apply ql_cc <;> assumption) | (apply qo_cc <;> assumption) | (apply qj_cc <;> assumption) | (apply qe_cc <;> assumption) | (apply qm_cc <;> assumption) | (apply qs_cc <;> assumption) | (apply qg_cc <;> assumption) | (first | (apply is_true; and_intros <;> (first | rfl | assumption | (apply qh_cc <;> assumption) | (apply qc_cc <;> assumption) | (apply ql_cc <;> assumption) | (apply qo_cc <;> assumption) | (apply qj_cc <;> assumption) | (apply qe_cc <;> assumption) | (apply qm_cc <;> assumption) | (apply qs_cc <;> assumption) | (apply qg_cc <;> assumption))) | (apply qh_cc <;> assumption) | (apply qc_cc <;> assumption) | (apply ql_cc <;> assumption) | (apply qo_cc <;> assumption) | (apply qj_cc <;> assumption) | (apply qe_cc <;> assumption) | (apply qm_cc <;> assumption) | (apply qs_cc <;> assumption) | (apply qg_cc <;> assumption)))) | (apply qh_cc <;> assumption) | (apply qc_cc <;> assumption) | (apply ql_cc <;> assumption) | (apply qo_cc <;> assumption) | (apply qj_cc <;> assumption) | (apply qe_cc <;> assumption) | (apply qm_cc <;> assumption) | (apply qs_cc <;> assumption) | (apply qg_cc <;> assumption)))) | (apply qh_cc <;> assumption) | (apply qc_cc <;> assumption) | (apply ql_cc <;> assumption) | (apply qo_cc <;> assumption) | (apply qj_cc <;> assumption) | (apply qe_cc <;> assumption) | (apply qm_cc <;> assumption) | (apply qs_cc <;> assumption) | (apply qg_cc <;> assumption)))) | (apply qh_cc <;> assumption) | (apply qc_cc <;> assumption) | (apply ql_cc <;> assumption) | (apply qo_cc <;> assumption) | (apply qj_cc <;> assumption) | (apply qe_cc <;> assumption) | (apply qm_cc <;> assumption) | (apply qs_cc <;> assumption) | (apply qg_cc <;> assumption)) ?_
        rfl
      · skip
        rfl
  · skip
    rfl
theorem qn_vv (A : LL) : qn_v A = heapOk A := by
  unfold qn_v
  first | unfold qp_v | unfold qy_v
  rw [show (fun x : List TC => !(qbk_v (nth x 0).str)) = slotNameOk from by
    funext x
    unfold qbk_v slotNameOk
    rw [qm_vv]
    cases ((nth x 0).str == []) <;> cases nameOk (nth x 0).str <;> rfl]
  unfold heapOk lastEmpty
  generalize decide ((A.length : Int) ≤ 30) = p1, ((A.length : Int) == 0) = p2, ((nth (row A (IntKind.wrap .i64 ((A.length : Int) - (1 : Int)))) 0).str == []) = p3, A.all slotNameOk = p4
  cases p1 <;> cases p2 <;> cases p3 <;> cases p4 <;> rfl
abbrev qk_2_σ := LL × BS × Int × Int
abbrev qk_2_ω := (Int) ⊕ (Unit)
def qk_2_step (A : LL) (s : BS) (m i : Int) : Tr (qk_2_σ ⊕ qk_2_ω) := (.ite ((decide (i < m)) = true) (.ite ((0 : Int) ≤ i ∧ i < (A.length : Int)) (.ite ((s == (nth (row A i) 0).str) = true) (.ok (.inr (.inl i)))
    (.ok (.inl (A, s, m, (IntKind.wrap .i64 (i + (1 : Int)))))))
   .no)
  (.ok (.inr (.inr ()))))
def qk_2_st : qk_2_σ → Tr (qk_2_σ ⊕ qk_2_ω) := fun x => (qk_2_step (x.1) (x.2.1) (x.2.2.1) (x.2.2.2))
def qk_k2_1 (A : LL) (s : BS) (m i : Int) : Bool := A.all (fun x => !(s == (nth x 0).str))
def qk_o2_2 (A : LL) (s : BS) (m i : Int) : Bool := is (i = 0 ∧ Typed tab (.slice 9) (.l A) ∧ m = (A.length : Int))
def qk_o2_3 (A : LL) (s : BS) (m i : Int) : Bool := is (i = 0 ∧ Typed tab (.slice 9) (.l A) ∧ m = (A.length : Int))
def qk_u2_3 (A : LL) (s : BS) (m i : Int) : Int := (Int.ofNat (A.findIdx fun x => !(fun x => !(s == (nth x 0).str)) x))
def qk_2_fin (A : LL) (s : BS) (m i : Int) : Told qk_2_ω := (.br (qk_k2_1 A s m i) (.leaf (qk_o2_2 A s m i) (.inr ())) (.leaf (qk_o2_3 A s m i) (.inl (qk_u2_3 A s m i))))
def qk_2_sl (x : qk_2_σ) : List Slot := [⟨.val false [⟨.slice 9, .sh, TC.l (x.1)⟩], ⟨0, 0⟩⟩, ⟨.val false [⟨.str, .sh, TC.s (x.2.1)⟩], ⟨0, 0⟩⟩, ⟨.val false [⟨.int .i64, .sh, TC.i (x.2.2.1)⟩], ⟨0, 0⟩⟩, ⟨.val false [⟨.int .i64, .sh, TC.i (x.2.2.2)⟩], ⟨0, 0⟩⟩]
def qk_2_out : qk_2_ω → Ex × List Slot := (Sum.elim (fun x => (.ret, [⟨.val false [⟨.int .i64, .sh, TC.i x⟩], ⟨0, 0⟩⟩])) (fun x => (.exit 0, [Slot.none])))
def qk_lo2 : List Slot → Option (Told (Ex × List Slot)) := fun s => match s with
  | [⟨.val false [⟨.slice 9, .sh, TC.l A⟩], ⟨0, 0⟩⟩, ⟨.val false [⟨.str, .sh, TC.s s⟩], ⟨0, 0⟩⟩, ⟨.val false [⟨.int .i64, .sh, TC.i m⟩], ⟨0, 0⟩⟩, ⟨.val false [⟨.int .i64, .sh, TC.i i⟩], ⟨0, 0⟩⟩] => some (((qk_2_fin A s m i)).map qk_2_out)
  | _ => .none
def qk_lo : LoopTeller := fun r s => bif Nat.beq r 2 then qk_lo2 s else .none
theorem qk_2_r (A : LL) (s : BS) (m i : Int) (fuel : Nat) : rounds (rnd tab FT D38 live 51 qk_lo 0 2) leave (fuel + 1) (qk_2_sl (A, s, m, i)) = ((qk_2_step A s m i)).run (goOn (fun s => rounds (rnd tab FT D38 live 51 qk_lo 0 2) leave fuel (qk_2_sl s)) fun w => some (qk_2_out w)) := by kernel_rfl
theorem qk_2_h (A : LL) (s : BS) (m i : Int) (ow : qk_2_ω) : ((qk_2_fin A s m i)).val = some ow → ∃ fuel, loopN qk_2_st fuel (A, s, m, i) = some ow := by
  intro h
  have key : Typed tab (.slice 9) (.l A) → loopN qk_2_st (A.length + 1) (A, s, (A.length : Int), (0 : Int)) = some (if A.all (fun x => !(s == (nth x 0).str)) = true then (.inr ()) else (.inl (Int.ofNat (A.findIdx fun x => !(fun x => !(s == (nth x 0).str)) x)))) := by
    intro ht
    have hlen : A.length ≤ 140737488351232 := by have := typed_room ht; simp only [show (tab 9).bytes = 16 from rfl] at this; omega
    have key := loopN_scan (step := qk_2_st) A [] (fun x => !(s == (nth x 0).str)) (fun a _ => a) (fun i a => (A, s, (A.length : Int), (i : Int))) (fun a => (.inr ())) (fun i a => (.inl (i : Int))) (fun i a hi => ?_) (fun a => ?_) A.length 0 () (by omega)
    · first | (rw [Nat.zero_add] at key; exact key) | exact key
    · have c0 : Typed tab (.str) (.s (nth (A.getD i []) 0).str) := typed_s (typed_cell ht (A.getD i []) (mem_getD hi) 0 (by decide))
      show (qk_2_step A s (A.length : Int) (i : Int)).val = _
      unfold qk_2_step
      refine Tr.t (by simp; omega) ?_
      skip
      refine Tr.t (by first | omega | (constructor <;> omega)) ?_
      refine Tr.b2 (fun hP => ?_) (fun _ => rfl)
      rw [Tr.val_ok, wrap64 (i := (i : Int) + 1) (by omega) (by omega)]; rfl
    · show (qk_2_step A s (A.length : Int) (A.length : Int)).val = _
      refine Tr.n (by simp) ?_
      rfl
  simp only [qk_2_fin, Told.val] at h
  cases hk : A.all (fun x => !(s == (nth x 0).str)) with
  | true =>
    rw [if_pos (show qk_k2_1 A s m i = true from hk)] at h
    split at h
    · rename_i ho
      obtain ⟨rfl, ht, rfl⟩ := is_iff.1 ho
      cases h
      refine ⟨_, (key ht).trans ?_⟩
      rw [hk]; rfl
    · cases h
  | false =>
    rw [if_neg (show ¬qk_k2_1 A s m i = true from by rw [show qk_k2_1 A s m i = (A.all (fun x => !(s == (nth x 0).str))) from rfl, hk]; simp)] at h
    split at h
    · rename_i ho
      obtain ⟨rfl, ht, rfl⟩ := is_iff.1 ho
      cases h
      refine ⟨_, (key ht).trans ?_⟩
      rw [hk]; rfl
    · cases h
theorem qk_is2 : LoopIs tab FT D38 live 51 qk_lo 0 2 := by
  refine loop_told (sl := qk_2_sl) (step := qk_2_st) (out := qk_2_out) (lor := qk_lo2) (fin := fun x => (qk_2_fin (x.1) (x.2.1) (x.2.2.1) (x.2.2.2))) (fun _ => rfl) ?_ (fun x n => qk_2_r x.1 x.2.1 x.2.2.1 x.2.2.2 n) (fun x ow => qk_2_h x.1 x.2.1 x.2.2.1 x.2.2.2 ow)
  intro s t h
  unfold qk_lo2 at h
  split at h
  · cases h; exact ⟨(_, _, _, _), rfl, rfl⟩
  · cases h
def qk_t (A : LL) (s : BS) : Tr (Int) := (.ite ((qk_k2_1 A s (A.length : Int) (0 : Int)) = true) (.ite ((qk_o2_2 A s (A.length : Int) (0 : Int)) = true) (.ok (-1 : Int))
   .no)
  (.ite ((qk_o2_3 A s (A.length : Int) (0 : Int)) = true) (.ok (qk_u2_3 A s (A.length : Int) (0 : Int)))
   .no))
def qk_mk (p : Int) : Res := [(false, [⟨.int .i64, .sh, TC.i p⟩])]
def qk_c (A : LL) (s : BS) : Bool := is (((qk_o2_2 A s (A.length : Int) (0 : Int)) = true) ∧ ((qk_o2_3 A s (A.length : Int) (0 : Int)) = true))
def qk_v (A : LL) (s : BS) : Int := (bif (qk_k2_1 A s (A.length : Int) (0 : Int)) then (-1 : Int) else (qk_u2_3 A s (A.length : Int) (0 : Int)))
theorem qk_l (A : LL) (s : BS) : (qk_c A s) = true → (qk_t A s).val = some (qk_v A s) := by
  intro h
  obtain ⟨g0, g1⟩ := is_iff.1 h
  unfold qk_t qk_v
  exact (Tr.s (Tr.t g0 rfl) (Tr.t g1 rfl))
def qk_S : List Arg → Option (Bool × Res) := fun xs => match xs with
  | [(false, [(.slice 9, TC.l A)]), (false, [(.str, TC.s s)])] => some ((qk_c A s), qk_mk (qk_v A s))
  | _ => .none
theorem qk_e (A : LL) (s : BS) : runF tab FT D38 live 51 qk_lo [(false, [(.slice 9, TC.l A)]), (false, [(.str, TC.s s)])] = (qk_t A s).run fun p => some (qk_mk p) := by kernel_rfl
theorem qk_s : ∀ xs r, qk_S xs = some (true, r) → runF tab FT D38 live 51 qk_lo xs = some r := by
  intro xs r h
  unfold qk_S at h
  split at h
  · obtain ⟨h1, rfl⟩ := sp h
    exact fun_told (qk_e ..) (qk_l _ _) h1
  · cases h
def D39 : Dt := also D38 51 qk_S
theorem d39 : DOk Go.Proofs.Tryd.prog tab D39 := d38.also mixed_ok tab_ok names_ok (fnLoops_one (by kernel_rfl) qk_is2) qk_s
theorem qk_vv (A : LL) (s : BS) : qk_v A s = slotIdx A s := by
  show (bif A.all (fun x => !(s == (nth x 0).str)) then -1 else Int.ofNat (A.findIdx fun x => !(!(s == (nth x 0).str)))) = slotIdx A s
  unfold slotIdx
  have e : ∀ x : List TC, (s == (nth x 0).str) = ((nth x 0).str == s) := fun x => Bool.beq_comm
  simp only [e]
abbrev qv_3_σ := Int × LL × Int × Int
abbrev qv_3_ω := (LL)
def qv_3_step (n : Int) (X : LL) (m k : Int) : Tr (qv_3_σ ⊕ qv_3_ω) := (.ite ((decide (k < m)) = true) (.ite (0 ≤ (IntKind.wrap .i64 ((8 : Int) * k))) (.ite ((0 : Int) ≤ k ∧ k < (X.length : Int)) (.ok (.inl (n, (X.set (k).toNat (splice (row X k) 0 [TC.i (IntKind.wrap .u8 (Int.fdiv n (2 ^ (min ((IntKind.wrap .i64 ((8 : Int) * k))).toNat 64))))])), m, (IntKind.wrap .i64 (k + (1 : Int))))))
    .no)
   .no)
  (.ok (.inr X)))
def qv_3_st : qv_3_σ → Tr (qv_3_σ ⊕ qv_3_ω) := fun x => (qv_3_step (x.1) (x.2.1) (x.2.2.1) (x.2.2.2))
def qv_o3_1 (n : Int) (X : LL) (m k : Int) : Bool := is (∃ sz : Nat, m = (sz : Int) ∧ sz ≤ 8 ∧ X = List.replicate sz [TC.i 0] ∧ k = 0)
def qv_u3_1 (n : Int) (X : LL) (m k : Int) : LL := bRows n m.toNat
def qv_3_fin (n : Int) (X : LL) (m k : Int) : Told qv_3_ω := (.leaf (qv_o3_1 n X m k) (qv_u3_1 n X m k))
def qv_3_sl (x : qv_3_σ) : List Slot := [⟨.val false [⟨.int .i64, .sh, TC.i (x.1)⟩], ⟨0, 0⟩⟩, ⟨.val false [⟨.slice 5, .own true, TC.l (x.2.1)⟩], ⟨0, 0⟩⟩, ⟨.val false [⟨.int .i64, .sh, TC.i (x.2.2.1)⟩], ⟨0, 0⟩⟩, ⟨.val false [⟨.int .i64, .sh, TC.i (x.2.2.2)⟩], ⟨0, 0⟩⟩]
def qv_3_out : qv_3_ω → Ex × List Slot := (fun x => (.exit 0, [Slot.none, ⟨.val false [⟨.slice 5, .own true, TC.l x⟩], ⟨0, 0⟩⟩]))
def qv_lo3 : List Slot → Option (Told (Ex × List Slot)) := fun s => match s with
  | [⟨.val false [⟨.int .i64, .sh, TC.i n⟩], ⟨0, 0⟩⟩, ⟨.val false [⟨.slice 5, .own true, TC.l X⟩], ⟨0, 0⟩⟩, ⟨.val false [⟨.int .i64, .sh, TC.i m⟩], ⟨0, 0⟩⟩, ⟨.val false [⟨.int .i64, .sh, TC.i k⟩], ⟨0, 0⟩⟩] => some (((qv_3_fin n X m k)).map qv_3_out)
  | _ => .none
def qv_lo : LoopTeller := fun r s => bif Nat.beq r 3 then qv_lo3 s else .none
theorem qv_3_r (n : Int) (X : LL) (m k : Int) (fuel : Nat) : rounds (rnd tab FT D39 live 53 qv_lo 0 3) leave (fuel + 1) (qv_3_sl (n, X, m, k)) = ((qv_3_step n X m k)).run (goOn (fun s => rounds (rnd tab FT D39 live 53 qv_lo 0 3) leave fuel (qv_3_sl s)) fun w => some (qv_3_out w)) := by kernel_rfl
theorem qv_3_h (n : Int) (X : LL) (m k : Int) (ow : qv_3_ω) : ((qv_3_fin n X m k)).val = some ow → ∃ fuel, loopN qv_3_st fuel (n, X, m, k) = some ow := by
  intro h
  refine auto_leaf (R := bRows n m.toNat) (fun ho => ?_) h
  obtain ⟨sz, rfl, h8, rfl, rfl⟩ := is_iff.1 ho
  rw [wr_zero (n := n)]
  refine ⟨sz + 1, loopN_run (step := qv_3_st) (N := sz) (fun j => (n, (wr sz (bAt n) (fun _ => [TC.i 0]) (fun p => decide (p < j))), (sz : Int), (j : Int))) (fun j hj => ?_) ?_ sz 0 (by omega)⟩
  · have e := wr_step (L := sz) (p0 := j) (F := bAt n) (O := fun _ => [TC.i 0]) (vis := fun p => decide (p < j)) (vis' := fun p => decide (p < j + 1)) hj (fun _ => rfl) (fun _ => rfl) (fun p _ => by
      rw [Bool.eq_iff_iff]; simp only [Bool.or_eq_true, decide_eq_true_eq, beq_iff_eq]; omega)
    show (qv_3_step n (wr sz (bAt n) (fun _ => [TC.i 0]) (fun p => decide (p < j))) (sz : Int) (j : Int)).val = _
    unfold qv_3_step
    rw [bAt_i64 (by omega)]
    refine Tr.t (by simp; omega) ?_
    refine Tr.t (by rw [wrap64 (by omega) (by omega)]; omega) ?_
    refine Tr.t ⟨by omega, by rw [wr_len]; omega⟩ ?_
    rw [Tr.val_ok, wrap64 (i := (j : Int) + 1) (by omega) (by omega)]
    show some (Sum.inl (n, (wr sz (bAt n) (fun _ => [TC.i 0]) (fun p => decide (p < j))).set j (splice ((wr sz (bAt n) (fun _ => [TC.i 0]) (fun p => decide (p < j))).getD j []) 0 (bAt n j)), (sz : Int), ((j + 1 : Nat) : Int))) = _
    rw [e]
  · show (qv_3_step n (wr sz (bAt n) (fun _ => [TC.i 0]) (fun p => decide (p < sz))) (sz : Int) (sz : Int)).val = _
    refine Tr.n (by simp) ?_
    rw [wr_bRows]
    rfl
theorem qv_is3 : LoopIs tab FT D39 live 53 qv_lo 0 3 := by
  refine loop_told (sl := qv_3_sl) (step := qv_3_st) (out := qv_3_out) (lor := qv_lo3) (fin := fun x => (qv_3_fin (x.1) (x.2.1) (x.2.2.1) (x.2.2.2))) (fun _ => rfl) ?_ (fun x n => qv_3_r x.1 x.2.1 x.2.2.1 x.2.2.2 n) (fun x ow => qv_3_h x.1 x.2.1 x.2.2.1 x.2.2.2 ow)
  intro s t h
  unfold qv_lo3 at h
  split at h
  · cases h; exact ⟨(_, _, _, _), rfl, rfl⟩
  · cases h
def qv_t (n size : Int) : Tr (BS) := (.ite (0 ≤ size ∧ size ≤ size ∧ size * 1 ≤ 140737488355328 ∧ size ≤ 140737488355328) (.ite ((qv_o3_1 n (List.replicate (size).toNat [TC.i (0 : Int)]) ((List.replicate (size).toNat [TC.i (0 : Int)]).length : Int) (0 : Int)) = true) (.ok ((qv_u3_1 n (List.replicate (size).toNat [TC.i (0 : Int)]) ((List.replicate (size).toNat [TC.i (0 : Int)]).length : Int) (0 : Int)).map byteOf))
   .no)
  .no)
def qv_mk (p : BS) : Res := [(false, [⟨.str, .sh, TC.s p⟩])]
def qv_c (n size : Int) : Bool := is (∃ sz : Nat, size = (sz : Int) ∧ sz ≤ 8)
def qv_v (n size : Int) : BS := hid (bytesL n size.toNat)
theorem qv_l (n size : Int) : (qv_c n size) = true → (qv_t n size).val = some (qv_v n size) := by
  intro h
  obtain ⟨sz, rfl, h8⟩ := is_iff.1 h
  unfold qv_t
  refine Tr.t (by omega) ?_
  refine Tr.t (is_true ⟨sz, by simp, h8, rfl, rfl⟩) ?_
  unfold qv_v
  rw [hid_eq]; simp; rfl
def qv_S : List Arg → Option (Bool × Res) := fun xs => match xs with
  | [(false, [(.int .i64, TC.i n)]), (false, [(.int .i64, TC.i size)])] => some ((qv_c n size), qv_mk (qv_v n size))
  | _ => .none
theorem qv_e (n size : Int) : runF tab FT D39 live 53 qv_lo [(false, [(.int .i64, TC.i n)]), (false, [(.int .i64, TC.i size)])] = (qv_t n size).run fun p => some (qv_mk p) := by kernel_rfl
theorem qv_s : ∀ xs r, qv_S xs = some (true, r) → runF tab FT D39 live 53 qv_lo xs = some r := by
  intro xs r h
  unfold qv_S at h
  split at h
  · obtain ⟨h1, rfl⟩ := sp h
    exact fun_told (qv_e ..) (qv_l _ _) h1
  · cases h
def D40 : Dt := also D39 53 qv_S
theorem d40 : DOk Go.Proofs.Tryd.prog tab D40 := d39.also mixed_ok tab_ok names_ok (fnLoops_one (by kernel_rfl) qv_is3) qv_s
theorem qv_h {n size : Int} : qv_v n size = bytesL n size.toNat := hid_eq _
theorem qv_len {n : Int} {sz : Nat} : (qv_v n (sz : Int)).length = sz := by rw [qv_h]; exact bytesL_len
def qbj_ren : Go.Shelf.Ren := ⟨fun _ => 62, fun n => bif Nat.beq n 4 then 4 else bif Nat.beq n 22 then 23 else 9, fun _ => 0⟩
theorem qbj_lays : SlLaysE0.n41 Go.Proofs.Tryd.prog qbj_ren := {
  mixed := by kernel_rfl
  f41 := ⟨Go.Proofs.Tryd.f62.name, by decide, Go.Proofs.Tryd.func62.trans (congrArg some (by kernel_rfl))⟩
  t4 := Go.Proofs.Tryd.underlying4
  a4 := Go.Proofs.Tryd.isAgg4
  z4 := Go.Proofs.Tryd.sizeOf4
  v4 := Go.Proofs.Tryd.zeroValue4
  t22 := Go.Proofs.Tryd.underlying23
  a22 := Go.Proofs.Tryd.isAgg23
  z22 := Go.Proofs.Tryd.sizeOf23
  v22 := Go.Proofs.Tryd.zeroValue23 }
def qbj_c (A : LL) : Bool := is (Typed tab (.slice 9) (.l A))
def qbj_v (A : LL) : LL := A
def qbj_mk (p : LL) : Res := [(false, [⟨.slice 9, .own true, TC.l p⟩])]
def qbj_S : List Arg → Option (Bool × Res) := fun xs => match xs with
  | [(false, [(.slice 9, TC.l A)])] => some ((qbj_c A), qbj_mk (qbj_v A))
  | _ => .none
def D41 : Dt := also D40 62 qbj_S
theorem d41 : DOk Go.Proofs.Tryd.prog tab D41 := d40.alsoC names_ok (c := _) Go.Proofs.Tryd.func62 rfl (by
  intro xs r h w S hargs0 hS hG hargs
  unfold qbj_S at h
  split at h
  · rename_i A
    obtain ⟨h1, rfl⟩ := sp h
    obtain ⟨u, us, rfl, ha, hr⟩ := args_cons hargs
    cases args_nil hr
    have ht := is_iff.1 h1
    have hroom := typed_room ht
    simp only [show (tab 9).bytes = 16 from rfl] at hroom
    exact clone_told qbj_lays tab_ok rfl (zs := _) rfl (by decide) (deep := true) (fun _ => rfl) hS (arg_rep ha) (show roomFor (tab 9) A.length from by unfold roomFor; simp only [show (tab 9).bytes = 16 from rfl]; omega)
  · cases h)
theorem qbj_cc {A : LL} (h : Typed tab (.slice 9) (.l A)) : qbj_c A = true := is_true h
def qz_t (a0 : BS) : Tr (Bool) := .ok (a0 == [])
def qz_mk (p : Bool) : Res := [(false, [⟨.bool, .sh, TC.b p⟩])]
def qz_c (a0 : BS) : Bool := true
def qz_v (a0 : BS) : Bool := (a0 == [])
theorem qz_l (a0 : BS) : (qz_c a0) = true → (qz_t a0).val = some (qz_v a0) := by
  intro h
  skip
  unfold qz_t qz_v
  exact rfl
def qz_S : List Arg → Option (Bool × Res) := fun xs => match xs with
  | [(false, [(.str, TC.s a0)])] => some (true, qz_mk (qz_v a0))
  | _ => .none
theorem qz_e (a0 : BS) : runF tab FT D41 live 63 noLoops [(false, [(.str, TC.s a0)])] = (qz_t a0).run fun p => some (qz_mk p) := by kernel_rfl
theorem qz_s : ∀ xs r, qz_S xs = some (true, r) → runF tab FT D41 live 63 noLoops xs = some r := by
  intro xs r h
  unfold qz_S at h
  split at h
  · obtain ⟨h1, rfl⟩ := sp h
    exact fun_told (qz_e _) (qz_l _) rfl
  · cases h
def D42 : Dt := also D41 63 qz_S
theorem d42 : DOk Go.Proofs.Tryd.prog tab D42 := d41.also mixed_ok tab_ok names_ok noLoops_ok qz_s
abbrev qd_2_σ := LL × Int × Int
abbrev qd_2_ω := (Int) ⊕ (Unit)
def qd_2_step (A : LL) (m i : Int) : Tr (qd_2_σ ⊕ qd_2_ω) := (.ite ((decide (i < m)) = true) (.ite ((0 : Int) ≤ i ∧ i < (A.length : Int)) (.ite ((qz_v ((nth (row A i) 0).str)) = true) (.ok (.inr (.inl i)))
    (.ok (.inl (A, m, (IntKind.wrap .i64 (i + (1 : Int)))))))
   .no)
  (.ok (.inr (.inr ()))))
def qd_2_st : qd_2_σ → Tr (qd_2_σ ⊕ qd_2_ω) := fun x => (qd_2_step (x.1) (x.2.1) (x.2.2))
def qd_k2_1 (A : LL) (m i : Int) : Bool := A.all (fun x => !(qz_v ((nth x 0).str)))
def qd_o2_2 (A : LL) (m i : Int) : Bool := is (i = 0 ∧ Typed tab (.slice 9) (.l A) ∧ m = (A.length : Int))
def qd_o2_3 (A : LL) (m i : Int) : Bool := is (i = 0 ∧ Typed tab (.slice 9) (.l A) ∧ m = (A.length : Int))
def qd_u2_3 (A : LL) (m i : Int) : Int := (Int.ofNat (A.findIdx fun x => !(fun x => !(qz_v ((nth x 0).str))) x))
def qd_2_fin (A : LL) (m i : Int) : Told qd_2_ω := (.br (qd_k2_1 A m i) (.leaf (qd_o2_2 A m i) (.inr ())) (.leaf (qd_o2_3 A m i) (.inl (qd_u2_3 A m i))))
def qd_2_sl (x : qd_2_σ) : List Slot := [⟨.val false [⟨.slice 9, .sh, TC.l (x.1)⟩], ⟨0, 0⟩⟩, ⟨.val false [⟨.func, .sh, TC.f 63 []⟩], ⟨0, 0⟩⟩, ⟨.val false [⟨.int .i64, .sh, TC.i (x.2.1)⟩], ⟨0, 0⟩⟩, ⟨.val false [⟨.int .i64, .sh, TC.i (x.2.2)⟩], ⟨0, 0⟩⟩]
def qd_2_out : qd_2_ω → Ex × List Slot := (Sum.elim (fun x => (.ret, [⟨.val false [⟨.int .i64, .sh, TC.i x⟩], ⟨0, 0⟩⟩])) (fun x => (.exit 0, [Slot.none])))
def qd_lo2 : List Slot → Option (Told (Ex × List Slot)) := fun s => match s with
  | [⟨.val false [⟨.slice 9, .sh, TC.l A⟩], ⟨0, 0⟩⟩, ⟨.val false [⟨.func, .sh, TC.f 63 []⟩], ⟨0, 0⟩⟩, ⟨.val false [⟨.int .i64, .sh, TC.i m⟩], ⟨0, 0⟩⟩, ⟨.val false [⟨.int .i64, .sh, TC.i i⟩], ⟨0, 0⟩⟩] => some (((qd_2_fin A m i)).map qd_2_out)
  | _ => .none
def qd_lo : LoopTeller := fun r s => bif Nat.beq r 2 then qd_lo2 s else .none
theorem qd_2_r (A : LL) (m i : Int) (fuel : Nat) : rounds (rnd tab FT D42 live 59 qd_lo 0 2) leave (fuel + 1) (qd_2_sl (A, m, i)) = ((qd_2_step A m i)).run (goOn (fun s => rounds (rnd tab FT D42 live 59 qd_lo 0 2) leave fuel (qd_2_sl s)) fun w => some (qd_2_out w)) := by kernel_rfl
theorem qd_2_h (A : LL) (m i : Int) (ow : qd_2_ω) : ((qd_2_fin A m i)).val = some ow → ∃ fuel, loopN qd_2_st fuel (A, m, i) = some ow := by
  intro h
  have key : Typed tab (.slice 9) (.l A) → loopN qd_2_st (A.length + 1) (A, (A.length : Int), (0 : Int)) = some (if A.all (fun x => !(qz_v ((nth x 0).str))) = true then (.inr ()) else (.inl (Int.ofNat (A.findIdx fun x => !(fun x => !(qz_v ((nth x 0).str))) x)))) := by
    intro ht
    have hlen : A.length ≤ 140737488351232 := by have := typed_room ht; simp only [show (tab 9).bytes = 16 from rfl] at this; omega
    have key := loopN_scan (step := qd_2_st) A [] (fun x => !(qz_v ((nth x 0).str))) (fun a _ => a) (fun i a => (A, (A.length : Int), (i : Int))) (fun a => (.inr ())) (fun i a => (.inl (i : Int))) (fun i a hi => ?_) (fun a => ?_) A.length 0 () (by omega)
    · first | (rw [Nat.zero_add] at key; exact key) | exact key
    · have c0 : Typed tab (.str) (.s (nth (A.getD i []) 0).str) := typed_s (typed_cell ht (A.getD i []) (mem_getD hi) 0 (by decide))
      show (qd_2_step A (A.length : Int) (i : Int)).val = _
      unfold qd_2_step
      refine Tr.t (by simp; omega) ?_
      skip
      refine Tr.t (by first | omega | (constructor <;> omega)) ?_
      refine Tr.b2 (fun hP => ?_) (fun _ => rfl)
      rw [Tr.val_ok, wrap64 (i := (i : Int) + 1) (by omega) (by omega)]; rfl
    · show (qd_2_step A (A.length : Int) (A.length : Int)).val = _
      refine Tr.n (by simp) ?_
      rfl
  simp only [qd_2_fin, Told.val] at h
  cases hk : A.all (fun x => !(qz_v ((nth x 0).str))) with
  | true =>
    rw [if_pos (show qd_k2_1 A m i = true from hk)] at h
    split at h
    · rename_i ho
      obtain ⟨rfl, ht, rfl⟩ := is_iff.1 ho
      cases h
      refine ⟨_, (key ht).trans ?_⟩
      rw [hk]; rfl
    · cases h
  | false =>
    rw [if_neg (show ¬qd_k2_1 A m i = true from by rw [show qd_k2_1 A m i = (A.all (fun x => !(qz_v ((nth x 0).str)))) from rfl, hk]; simp)] at h
    split at h
    · rename_i ho
      obtain ⟨rfl, ht, rfl⟩ := is_iff.1 ho
      cases h
      refine ⟨_, (key ht).trans ?_⟩
      rw [hk]; rfl
    · cases h
theorem qd_is2 : LoopIs tab FT D42 live 59 qd_lo 0 2 := by
  refine loop_told (sl := qd_2_sl) (step := qd_2_st) (out := qd_2_out) (lor := qd_lo2) (fin := fun x => (qd_2_fin (x.1) (x.2.1) (x.2.2))) (fun _ => rfl) ?_ (fun x n => qd_2_r x.1 x.2.1 x.2.2 n) (fun x ow => qd_2_h x.1 x.2.1 x.2.2 ow)
  intro s t h
  unfold qd_lo2 at h
  split at h
  · cases h; exact ⟨(_, _, _), rfl, rfl⟩
  · cases h
def qd_t (A : LL) : Tr (Int) := (.ite ((qd_k2_1 A (A.length : Int) (0 : Int)) = true) (.ite ((qd_o2_2 A (A.length : Int) (0 : Int)) = true) (.ok (-1 : Int))
   .no)
  (.ite ((qd_o2_3 A (A.length : Int) (0 : Int)) = true) (.ok (qd_u2_3 A (A.length : Int) (0 : Int)))
   .no))
def qd_mk (p : Int) : Res := [(false, [⟨.int .i64, .sh, TC.i p⟩])]
def qd_c (A : LL) : Bool := is (Typed tab (.slice 9) (.l A))
def qd_v (A : LL) : Int := if (A.all (fun x => !(qz_v ((nth x 0).str)))) = true then -1 else (Int.ofNat (A.findIdx fun x => !(fun x => !(qz_v ((nth x 0).str))) x))
theorem qd_l (A : LL) : (qd_c A) = true → (qd_t A).val = some (qd_v A) := by
  intro h
  have ht := is_iff.1 h
  unfold qd_t
  cases hk : A.all (fun x => !(qz_v ((nth x 0).str))) with
  | true =>
    refine Tr.t (show A.all (fun x => !(qz_v ((nth x 0).str))) = true from hk) ?_
    refine Tr.t (is_true ⟨rfl, ht, rfl⟩) ?_
    show _ = some (qd_v A ); unfold qd_v; rw [if_pos hk]; rfl
  | false =>
    refine Tr.n (show ¬A.all (fun x => !(qz_v ((nth x 0).str))) = true from by rw [hk]; simp) ?_
    refine Tr.t (is_true ⟨rfl, ht, rfl⟩) ?_
    show _ = some (qd_v A ); unfold qd_v; rw [if_neg (by rw [hk]; simp)]; rfl
def qd_S : List Arg → Option (Bool × Res) := fun xs => match xs with
  | [(false, [(.slice 9, TC.l A)]), (false, [(.func, TC.f 63 [])])] => some ((qd_c A), qd_mk (qd_v A))
  | _ => .none
theorem qd_e (A : LL) : runF tab FT D42 live 59 qd_lo [(false, [(.slice 9, TC.l A)]), (false, [(.func, TC.f 63 [])])] = (qd_t A).run fun p => some (qd_mk p) := by kernel_rfl
theorem qd_s : ∀ xs r, qd_S xs = some (true, r) → runF tab FT D42 live 59 qd_lo xs = some r := by
  intro xs r h
  unfold qd_S at h
  split at h
  · obtain ⟨h1, rfl⟩ := sp h
    exact fun_told (qd_e _) (qd_l _) h1
  · cases h
def D43 : Dt := also D42 59 qd_S
theorem d43 : DOk Go.Proofs.Tryd.prog tab D43 := d42.also mixed_ok tab_ok names_ok (fnLoops_one (by kernel_rfl) qd_is2) qd_s
theorem qf_row {A : LL} {x : List TC} (h : Typed tab (.slice 9) (.l A)) (hx : x ∈ A) : x.length = 1 ∧ [TC.s ((nth x 0).str)] = x := by
  obtain ⟨hl, hk⟩ := typed_elem h hx
  have e0 : TC.s ((nth x 0).str) = nth x 0 := typed_str_eq (hk 0 (by decide))
  refine ⟨hl, ?_⟩
  rw [e0]
  exact (row_eta hl).symm
abbrev qf_5_σ := LL × Int × Int × LL
abbrev qf_5_ω := (LL × Int × LL)
def qf_5_step (S : LL) (i j : Int) (Z : LL) : Tr (qf_5_σ ⊕ qf_5_ω) := (.ite ((decide (j < (S.length : Int))) = true) (.ite ((0 : Int) ≤ j ∧ j < (S.length : Int)) (.ite ((!(qz_v ((nth (row S j) 0).str))) = true) (.ite ((0 : Int) ≤ i ∧ i < (S.length : Int)) (.ok (.inl ((S.set (i).toNat (splice (row S i) 0 [TC.s ((nth (row S j) 0).str)])), (IntKind.wrap .i64 (i + (1 : Int))), (IntKind.wrap .i64 (j + (1 : Int))), Z)))
     .no)
    (.ok (.inl (S, i, (IntKind.wrap .i64 (j + (1 : Int))), Z))))
   .no)
  (.ok (.inr (S, i, Z))))
def qf_5_st : qf_5_σ → Tr (qf_5_σ ⊕ qf_5_ω) := fun x => (qf_5_step (x.1) (x.2.1) (x.2.2.1) (x.2.2.2))
def qf_o5_1 (S : LL) (i j : Int) (Z : LL) : Bool := is (Typed tab (.slice 9) (.l S) ∧ 0 ≤ i ∧ i < j ∧ j ≤ (S.length : Int))
def qf_u5_1_0 (S : LL) (i j : Int) (Z : LL) : LL := (delL (fun x => !(qz_v ((nth x 0).str))) (S.drop j.toNat) S i.toNat).1
def qf_u5_1_1 (S : LL) (i j : Int) (Z : LL) : Int := (((delL (fun x => !(qz_v ((nth x 0).str))) (S.drop j.toNat) S i.toNat).2 : Nat) : Int)
def qf_5_fin (S : LL) (i j : Int) (Z : LL) : Told qf_5_ω := (.leaf (qf_o5_1 S i j Z) ((qf_u5_1_0 S i j Z), (qf_u5_1_1 S i j Z), Z))
def qf_5_sl (x : qf_5_σ) : List Slot := [⟨.val false [⟨.slice 9, .own true, TC.l (x.1)⟩], ⟨0, 0⟩⟩, ⟨.val false [⟨.func, .sh, TC.f 63 []⟩], ⟨0, 0⟩⟩, ⟨.val false [⟨.int .i64, .sh, TC.i (x.2.1)⟩], ⟨0, 0⟩⟩, ⟨.val false [⟨.int .i64, .sh, TC.i (x.2.2.1)⟩], ⟨0, 0⟩⟩, ⟨.gv [⟨.slice 9, .gone, TC.l (x.2.2.2)⟩], ⟨0, 0⟩⟩]
def qf_5_out : qf_5_ω → Ex × List Slot := (fun x => (.exit 0, [⟨.val false [⟨.slice 9, .own true, TC.l (x.1)⟩], ⟨0, 0⟩⟩, Slot.none, ⟨.val false [⟨.int .i64, .sh, TC.i (x.2.1)⟩], ⟨0, 0⟩⟩, ⟨.gv [⟨.slice 9, .gone, TC.l (x.2.2)⟩], ⟨0, 0⟩⟩]))
def qf_lo5 : List Slot → Option (Told (Ex × List Slot)) := fun s => match s with
  | [⟨.val false [⟨.slice 9, .own true, TC.l S⟩], ⟨0, 0⟩⟩, ⟨.val false [⟨.func, .sh, TC.f 63 []⟩], ⟨0, 0⟩⟩, ⟨.val false [⟨.int .i64, .sh, TC.i i⟩], ⟨0, 0⟩⟩, ⟨.val false [⟨.int .i64, .sh, TC.i j⟩], ⟨0, 0⟩⟩, ⟨.gv [⟨.slice 9, .gone, TC.l Z⟩], ⟨0, 0⟩⟩] => some (((qf_5_fin S i j Z)).map qf_5_out)
  | _ => .none
def qf_lo : LoopTeller := fun r s => bif Nat.beq r 5 then qf_lo5 s else .none
theorem qf_5_r (S : LL) (i j : Int) (Z : LL) (fuel : Nat) : rounds (rnd tab FT D43 live 61 qf_lo 0 5) leave (fuel + 1) (qf_5_sl (S, i, j, Z)) = ((qf_5_step S i j Z)).run (goOn (fun s => rounds (rnd tab FT D43 live 61 qf_lo 0 5) leave fuel (qf_5_sl s)) fun w => some (qf_5_out w)) := by kernel_rfl
theorem qf_5_h (S : LL) (i j : Int) (Z : LL) (ow : qf_5_ω) : ((qf_5_fin S i j Z)).val = some ow → ∃ fuel, loopN qf_5_st fuel (S, i, j, Z) = some ow := by
  intro h
  refine auto_leaf (R := ((delL (fun x => !(qz_v ((nth x 0).str))) (S.drop (j).toNat) S (i).toNat).1, (((delL (fun x => !(qz_v ((nth x 0).str))) (S.drop (j).toNat) S (i).toNat).2 : Nat) : Int), Z)) (fun ho => ?_) h
  obtain ⟨ht, h0, h1, h2⟩ := is_iff.1 ho
  obtain ⟨i0, rfl⟩ := Int.eq_ofNat_of_zero_le h0
  obtain ⟨j0, rfl⟩ := Int.eq_ofNat_of_zero_le (show (0 : Int) ≤ j by omega)
  have hlen : S.length ≤ 140737488351232 := by have := typed_room ht; simp only [show (tab 9).bytes = 16 from rfl] at this; omega
  have key : ∀ (xs : LL) (j i : Nat) (S' : LL), S.drop j = xs → S'.length = S.length → (∀ p : Nat, j ≤ p → row S' (p : Int) = row S (p : Int)) → (∀ x, x ∈ S' → x ∈ S) → i < j → j ≤ S.length →
      ∃ fuel, loopN qf_5_st fuel (S', (i : Int), (j : Int), Z) = some ((delL (fun x => !(qz_v ((nth x 0).str))) xs S' i).1, (((delL (fun x => !(qz_v ((nth x 0).str))) xs S' i).2 : Nat) : Int), Z) := by
    intro xs
    induction xs with
    | nil =>
      intro j i S' hx hl hp hm hij hj
      have hjl : j = S.length := by
        have := congrArg List.length hx
        rw [List.length_drop, List.length_nil] at this
        omega
      refine ⟨1, loopN_end ?_⟩
      show (qf_5_step S' (i : Int) (j : Int) Z).val = _
      unfold qf_5_step
      refine Tr.n (by simp; omega) ?_
      rfl
    | cons x xs ih =>
      intro j i S' hx hl hp hm hij hj
      obtain ⟨hjl, hrow, hdr⟩ := row_drop hx
      have hxS : x ∈ S := by rw [← hrow, row_nat]; exact mem_getD hjl
      have hiS : row S' (i : Int) ∈ S := hm _ (by rw [row_nat]; exact mem_getD (by omega))
      have hr := hp j (Nat.le_refl _)
      rw [hrow] at hr
      have hfx := (qf_row ht hxS).2
      have hw1 : IntKind.wrap .i64 ((j : Int) + 1) = ((j + 1 : Nat) : Int) := by rw [wrap64 (by omega) (by omega)]; rfl
      have hw2 : IntKind.wrap .i64 ((i : Int) + 1) = ((i + 1 : Nat) : Int) := by rw [wrap64 (by omega) (by omega)]; rfl
      cases hP : (fun x => !(qz_v ((nth x 0).str))) x with
      | true =>
        obtain ⟨fuel, hf⟩ := ih (j + 1) (i + 1) (S'.set i x) hdr (by rw [List.length_set]; exact hl) (fun p hpj => by
          have := hp p (by omega)
          rw [row_nat] at this ⊢
          rw [List.getD_eq_getElem?_getD, List.getElem?_set_ne (by omega), ← List.getD_eq_getElem?_getD]
          exact this) (fun y hy => (List.mem_or_eq_of_mem_set hy).elim (hm y) (fun e => e ▸ hxS)) (by omega) (by omega)
        refine ⟨fuel + 1, ?_⟩
        have hst : (qf_5_st (S', (i : Int), (j : Int), Z)).val = some (Sum.inl (S'.set i x, ((i + 1 : Nat) : Int), ((j + 1 : Nat) : Int), Z)) := by
          show (qf_5_step S' (i : Int) (j : Int) Z).val = _
          unfold qf_5_step
          rw [hr, hw1, hw2, hfx]
          refine Tr.t (by simp; omega) (Tr.t (by constructor <;> omega) (Tr.t hP (Tr.t (by constructor <;> omega) ?_)))
          have hsp : splice (row S' (i : Int)) 0 x = x := by
            unfold splice
            rw [List.take_zero, List.nil_append, List.drop_of_length_le (by rw [(qf_row ht hiS).1, (qf_row ht hxS).1]; omega), List.append_nil]
          rw [Tr.val_ok, hsp]; rfl
        rw [loopN_next hst, hf, delL_t hP]
      | false =>
        obtain ⟨fuel, hf⟩ := ih (j + 1) i S' hdr hl (fun p hpj => hp p (by omega)) hm (by omega) (by omega)
        refine ⟨fuel + 1, ?_⟩
        have hst : (qf_5_st (S', (i : Int), (j : Int), Z)).val = some (Sum.inl (S', (i : Int), ((j + 1 : Nat) : Int), Z)) := by
          show (qf_5_step S' (i : Int) (j : Int) Z).val = _
          unfold qf_5_step
          rw [hr, hw1, hw2, hfx]
          refine Tr.t (by simp; omega) (Tr.t (by constructor <;> omega) (Tr.n (fun hh => Bool.false_ne_true (hP.symm.trans hh)) ?_))
          rfl
        rw [loopN_next hst, hf, delL_f hP]
  exact key (S.drop j0) j0 i0 S rfl rfl (fun _ _ => rfl) (fun _ h => h) (by omega) (by omega)
theorem qf_is5 : LoopIs tab FT D43 live 61 qf_lo 0 5 := by
  refine loop_told (sl := qf_5_sl) (step := qf_5_st) (out := qf_5_out) (lor := qf_lo5) (fin := fun x => (qf_5_fin (x.1) (x.2.1) (x.2.2.1) (x.2.2.2))) (fun _ => rfl) ?_ (fun x n => qf_5_r x.1 x.2.1 x.2.2.1 x.2.2.2 n) (fun x ow => qf_5_h x.1 x.2.1 x.2.2.1 x.2.2.2 ow)
  intro s t h
  unfold qf_lo5 at h
  split at h
  · cases h; exact ⟨(_, _, _, _), rfl, rfl⟩
  · cases h
def qf_t (A : LL) : Tr (LL × LL) := (.ite ((qd_c A) = true) (.ite (((qd_v A) == (-1 : Int)) = true) (.ok (A, A))
   (.ite ((qf_o5_1 A (qd_v A) (IntKind.wrap .i64 ((qd_v A) + (1 : Int))) A) = true) (.ite ((0 : Int) ≤ (qf_u5_1_1 A (qd_v A) (IntKind.wrap .i64 ((qd_v A) + (1 : Int))) A) ∧ (qf_u5_1_1 A (qd_v A) (IntKind.wrap .i64 ((qd_v A) + (1 : Int))) A) ≤ ((qf_u5_1_0 A (qd_v A) (IntKind.wrap .i64 ((qd_v A) + (1 : Int))) A).length : Int) ∧ ((qf_u5_1_0 A (qd_v A) (IntKind.wrap .i64 ((qd_v A) + (1 : Int))) A).length : Int) ≤ ((qf_u5_1_0 A (qd_v A) (IntKind.wrap .i64 ((qd_v A) + (1 : Int))) A).length : Int)) (.ite ((0 : Int) ≤ (0 : Int) ∧ (0 : Int) ≤ (qf_u5_1_1 A (qd_v A) (IntKind.wrap .i64 ((qd_v A) + (1 : Int))) A) ∧ (qf_u5_1_1 A (qd_v A) (IntKind.wrap .i64 ((qd_v A) + (1 : Int))) A) ≤ ((splice (qf_u5_1_0 A (qd_v A) (IntKind.wrap .i64 ((qd_v A) + (1 : Int))) A) ((qf_u5_1_1 A (qd_v A) (IntKind.wrap .i64 ((qd_v A) + (1 : Int))) A)).toNat (List.replicate ((((qf_u5_1_0 A (qd_v A) (IntKind.wrap .i64 ((qd_v A) + (1 : Int))) A).length : Int)).toNat - ((qf_u5_1_1 A (qd_v A) (IntKind.wrap .i64 ((qd_v A) + (1 : Int))) A)).toNat) [TC.s []])).length : Int)) (.ok (A, ((splice (qf_u5_1_0 A (qd_v A) (IntKind.wrap .i64 ((qd_v A) + (1 : Int))) A) ((qf_u5_1_1 A (qd_v A) (IntKind.wrap .i64 ((qd_v A) + (1 : Int))) A)).toNat (List.replicate ((((qf_u5_1_0 A (qd_v A) (IntKind.wrap .i64 ((qd_v A) + (1 : Int))) A).length : Int)).toNat - ((qf_u5_1_1 A (qd_v A) (IntKind.wrap .i64 ((qd_v A) + (1 : Int))) A)).toNat) [TC.s []])).take ((qf_u5_1_1 A (qd_v A) (IntKind.wrap .i64 ((qd_v A) + (1 : Int))) A)).toNat)))
      .no)
     .no)
    .no))
  .no)
def qf_mk (p : LL × LL) : Res := [(true, [⟨.slice 9, .gone, TC.l (p.1)⟩]), (false, [⟨.slice 9, .own true, TC.l (p.2)⟩])]
def qf_c (A : LL) : Bool := is (Typed tab (.slice 9) (.l A))
def qf_v (A : LL) : LL × LL := (A, A.filter (fun x => !(qz_v ((nth x 0).str))))
theorem qf_l (A : LL) : (qf_c A) = true → (qf_t A).val = some (qf_v A) := by
  intro h
  have ht := is_iff.1 h
  have hlen : A.length ≤ 140737488351232 := by have := typed_room ht; simp only [show (tab 9).bytes = 16 from rfl] at this; omega
  unfold qf_t qf_v
  cases hk : A.all (fun x => !(qz_v ((nth x 0).str))) with
  | true =>
    have hv : qd_v A = -1 := by unfold qd_v; rw [if_pos hk]
    rw [hv]
    refine Tr.t (by first | (apply is_true; and_intros <;> (first | rfl | assumption | (apply qh_cc <;> assumption) | (apply qc_cc <;> assumption) | (apply ql_cc <;> assumption) | (apply qo_cc <;> assumption) | (apply qj_cc <;> assumption) | (apply qe_cc <;> assumption) | (apply qm_cc <;> assumption) | (apply qs_cc <;> assumption) | (apply qg_cc <;> assumption) | (apply qn_cc <;> assumption) | (first | (apply is_true; and_intros <;> (first | rfl | assumption | (apply qh_cc <;> assumption) | (apply qc_cc <;> assumption) | (apply ql_cc <;> assumption) | (apply qo_cc <;> assumption) | (apply qj_cc <;> assumption) | (apply qe_cc <;> assumption) | (apply qm_cc <;> assumption) | (apply qs_cc <;> assumption) | (apply qg_cc <;> assumption) | (apply qn_cc <;> assumption) | (first | (apply is_true; and_intros <;> (first | rfl | assumption | (apply qh_cc <;> assumption) | (apply qc_cc <;> assumption) | (apply ql_cc <;> assumption) | (apply qo_cc <;> assumption) | (apply qj_cc <;> assumption) | (apply qe_cc <;> assumption) | (apply qm_cc <;> assumption) | (apply qs_cc <;> assumption) | (apply qg_cc <;> assumption) | (apply qn_cc <;> assumption) | (first | (apply is_true; and_intros <;> (first | rfl | assumption | (apply qh_cc <;> assumption) | (apply qc_cc <;> assumption) | (apply ql_cc <;> assumption) | (apply qo_cc <;> assumption) | (apply qj_cc <;> assumption) | (apply qe_cc <;> assumption) | (apply qm_cc <;> assumption) | (apply qs_cc <;> assumption) | (apply qg_cc <;> assumption) | (apply qn_cc <;> assumption))) | (apply qh_cc <;> assumption) | (apply qc_cc <;> assumption) | (apply ql_cc <;> assumption) | (apply qo_cc <;> assumption) | (apply qj_cc <;> assumption) | (apply qe_cc <;> assumption) | (apply qm_cc <;> assumption) | (apply qs_cc <;> assumption) | (apply qg_cc <;> assumption) | (apply qn_cc <;> assumption)))) | (apply qh_cc <;> assumption) | (apply qc_cc <;> assumption) | (apply ql_cc <;> assumption) | (apply qo_cc <;> assumption) | (apply qj_cc <;> assumption) | (apply qe_cc <;> assumption) | (apply qm_cc <;> assumption) | (apply qs_cc <;> assumption) | (apply qg_cc <;> assumption) | (apply qn_cc <;> assumption)))) | (apply qh_cc <;> assumption) | (apply qc_cc <;> assumption) | (apply ql_cc <;> assumption) | (apply qo_cc <;> assumption) | (apply qj_cc <;> assumption) | (apply qe_cc <;> assumption) | (apply qm_cc <;> assumption) | (apply qs_cc <;> assumption) | (apply qg_cc <;> assumption) | (apply qn_cc <;> assumption)))) | (apply qh_cc <;> assumption) | (apply qc_cc <;> assumption) | (apply ql_cc <;> assumption) | (apply qo_cc <;> assumption) | (apply qj_cc <;> assumption) | (apply qe_cc <;> assumption) | (apply qm_cc <;> assumption) | (apply qs_cc <;> assumption) | (apply qg_cc <;> assumption) | (apply qn_cc <;> assumption)) (Tr.t (by simp) ?_)
    rw [List.filter_eq_self.2 (List.all_eq_true.1 hk)]
    rfl
  | false =>
    have hv : qd_v A = ((A.findIdx fun x => !(fun x => !(qz_v ((nth x 0).str))) x : Nat) : Int) := by unfold qd_v; rw [if_neg (by rw [hk]; simp)]; rfl
    obtain ⟨k1, k2, k3⟩ := find_split hk
    rw [filter_split k1 k2 k3]
    rw [hv]
    generalize (A.findIdx fun x => !(fun x => !(qz_v ((nth x 0).str))) x) = ix at k1 k2 k3 ⊢
    have hw : IntKind.wrap .i64 ((ix : Int) + 1) = ((ix + 1 : Nat) : Int) := by rw [wrap64 (by omega) (by omega)]; rfl
    rw [hw]
    obtain ⟨d1, d2, d3⟩ := delL_ok (fun x => !(qz_v ((nth x 0).str))) (A.drop (ix + 1)) A ix (by rw [List.length_drop]; omega)
    refine Tr.t (by first | (apply is_true; and_intros <;> (first | rfl | assumption | (apply qh_cc <;> assumption) | (apply qc_cc <;> assumption) | (apply ql_cc <;> assumption) | (apply qo_cc <;> assumption) | (apply qj_cc <;> assumption) | (apply qe_cc <;> assumption) | (apply qm_cc <;> assumption) | (apply qs_cc <;> assumption) | (apply qg_cc <;> assumption) | (apply qn_cc <;> assumption) | (first | (apply is_true; and_intros <;> (first | rfl | assumption | (apply qh_cc <;> assumption) | (apply qc_cc <;> assumption) | (apply ql_cc <;> assumption) | (apply qo_cc <;> assumption) | (apply qj_cc <;> assumption) | (apply qe_cc <;> assumption) | (apply qm_cc <;> assumption) | (apply qs_cc <;> assumption) | (apply qg_cc <;> assumption) | (apply qn_cc <;> assumption) | (first | (apply is_true; and_intros <;> (first | rfl | assumption | (apply qh_cc <;> assumption) | (apply qc_cc <;> assumption) | (apply ql_cc <;> assumption) | (apply qo_cc <;> assumption) | (apply qj_cc <;> assumption) | (apply qe_cc <;> assumption) | (apply qm_cc <;> assumption) | (apply qs_cc <;> assumption) | (apply qg_cc <;> assumption) | (apply qn_cc <;> assumption) | (first | (apply is_true; and_intros <;> (first | rfl | assumption | (apply qh_cc <;> assumption) | (apply qc_cc <;> assumption) | (apply ql_cc <;> assumption) | (apply qo_cc <;> assumption) | (apply qj_cc <;> assumption) | (apply qe_cc <;> assumption) | (apply qm_cc <;> assumption) | (apply qs_cc <;> assumption) | (apply qg_cc <;> assumption) | (apply qn_cc <;> assumption))) | (apply qh_cc <;> assumption) | (apply qc_cc <;> assumption) | (apply ql_cc <;> assumption) | (apply qo_cc <;> assumption) | (apply qj_cc <;> assumption) | (apply qe_cc <;> assumption) | (apply qm_cc <;> assumption) | (apply qs_cc <;> assumption) | (apply qg_cc <;> assumption) | (apply qn_cc <;> assumption)))) | (apply qh_cc <;> assumption) | (apply qc_cc <;> assumption) | (apply ql_cc <;> assumption) | (apply qo_cc <;> assumption) | (apply qj_cc <;> assumption) | (apply qe_cc <;> assumption) | (apply qm_cc <;> assumption) | (apply qs_cc <;> assumption) | (apply qg_cc <;> assumption) | (apply qn_cc <;> assumption)))) | (apply qh_cc <;> assumption) | (apply qc_cc <;> assumption) | (apply ql_cc <;> assumption) | (apply qo_cc <;> assumption) | (apply qj_cc <;> assumption) | (apply qe_cc <;> assumption) | (apply qm_cc <;> assumption) | (apply qs_cc <;> assumption) | (apply qg_cc <;> assumption) | (apply qn_cc <;> assumption)))) | (apply qh_cc <;> assumption) | (apply qc_cc <;> assumption) | (apply ql_cc <;> assumption) | (apply qo_cc <;> assumption) | (apply qj_cc <;> assumption) | (apply qe_cc <;> assumption) | (apply qm_cc <;> assumption) | (apply qs_cc <;> assumption) | (apply qg_cc <;> assumption) | (apply qn_cc <;> assumption)) (Tr.n (by first | (simp; done) | (simp; omega)) (Tr.t (is_true ⟨ht, by omega, by omega, by omega⟩) ?_))
    have u0 : qf_u5_1_0 A (ix : Int) ((ix + 1 : Nat) : Int) A = (delL (fun x => !(qz_v ((nth x 0).str))) (A.drop (ix + 1)) A ix).1 := rfl
    have u1 : qf_u5_1_1 A (ix : Int) ((ix + 1 : Nat) : Int) A = (((delL (fun x => !(qz_v ((nth x 0).str))) (A.drop (ix + 1)) A ix).2 : Nat) : Int) := rfl
    rw [u0, u1]
    generalize (delL (fun x => !(qz_v ((nth x 0).str))) (A.drop (ix + 1)) A ix).1 = S' at d1 d2 ⊢
    generalize (delL (fun x => !(qz_v ((nth x 0).str))) (A.drop (ix + 1)) A ix).2 = i' at d1 d3 ⊢
    refine Tr.t ⟨by omega, by omega, by omega⟩ (Tr.t ?_ ?_)
    · refine ⟨by omega, by omega, ?_⟩
      rw [splice_length _ _ _ (by rw [List.length_replicate]; omega)]; omega
    · rw [Tr.val_ok]
      show some (A, (splice S' (i' : Int).toNat _).take (i' : Int).toNat) = some (A, _)
      rw [← d1]
      congr 2
      unfold splice
      rw [Int.toNat_natCast, List.append_assoc, List.take_append_of_le_length (by rw [List.length_take]; omega)]
      try rw [List.take_take, Nat.min_self]
def qf_S : List Arg → Option (Bool × Res) := fun xs => match xs with
  | [(false, [(.slice 9, TC.l A)]), (false, [(.func, TC.f 63 [])])] => some ((qf_c A), qf_mk (qf_v A))
  | _ => .none
theorem qf_e (A : LL) : runFW true tab FT D43 live 61 qf_lo (false, [(.slice 9, TC.l A)]) [(false, [(.func, TC.f 63 [])])] = (qf_t A).run fun p => some (qf_mk p) := by kernel_rfl
theorem qf_s0 : ∀ ys r, qf_S ys = some (true, r) → ∀ a0 xs, ys = a0 :: xs → runFW true tab FT D43 live 61 qf_lo a0 xs = some r := by
  intro ys r h
  unfold qf_S at h
  split at h
  · obtain ⟨h1, rfl⟩ := sp h
    intro a0 xs e
    cases e
    exact fun_toldW (qf_e _) (qf_l _) h1
  · cases h
theorem qf_s : ∀ a0 xs r, qf_S (a0 :: xs) = some (true, r) → runFW true tab FT D43 live 61 qf_lo a0 xs = some r := fun a0 xs r h => qf_s0 _ r h a0 xs rfl
def D44 : Dt := alsoW D43 61 qf_S
theorem d44 : DOk Go.Proofs.Tryd.prog tab D44 := d43.alsoW mixed_ok tab_ok names_ok (fnLoops_one (by kernel_rfl) qf_is5) qf_s
def qr_t (a0 : LL) : Tr (Int) := (.ite ((qbj_c a0) = true) (.ite ((qf_c (qbj_v a0)) = true) (.ok (((qf_v (qbj_v a0)).2).length : Int))
   .no)
  .no)
def qr_mk (p : Int) : Res := [(false, [⟨.int .i64, .sh, TC.i p⟩])]
def qr_c (a0 : LL) : Bool := is (((qbj_c a0) = true) ∧ ((qf_c (qbj_v a0)) = true))
def qr_v (a0 : LL) : Int := (((qf_v (qbj_v a0)).2).length : Int)
theorem qr_l (a0 : LL) : (qr_c a0) = true → (qr_t a0).val = some (qr_v a0) := by
  intro h
  obtain ⟨hc0, hc1⟩ := is_iff.1 h
  unfold qr_t
  exact (Tr.t hc0 (Tr.t hc1 rfl))
def qr_S : List Arg → Option (Bool × Res) := fun xs => match xs with
  | [(true, [(.slice 9, TC.l a0)])] => some ((qr_c a0), qr_mk (qr_v a0))
  | _ => .none
theorem qr_e (a0 : LL) : runF tab FT D44 live 55 noLoops [(true, [(.slice 9, TC.l a0)])] = (qr_t a0).run fun p => some (qr_mk p) := by kernel_rfl
theorem qr_s : ∀ xs r, qr_S xs = some (true, r) → runF tab FT D44 live 55 noLoops xs = some r := by
  intro xs r h
  unfold qr_S at h
  split at h
  · obtain ⟨h1, rfl⟩ := sp h
    exact fun_told (qr_e _) (qr_l _) h1
  · cases h
def D45 : Dt := also D44 55 qr_S
theorem d45 : DOk Go.Proofs.Tryd.prog tab D45 := d44.also mixed_ok tab_ok names_ok noLoops_ok qr_s
def qb_f3 (A B X : LL) (m i : Int) (s : BS) : (BS) ⊕ ((LL × LL × BS) ⊕ (LL × LL × BS)) := (bif (decide ((qk_v B ((nth (row X i) 0).str)) < (0 : Int))) then (.inr (.inl (A, B, s))) else (bif ((nth (row X i) 2).str == []) then (.inl ((s ++ ((qv_v (qk_v B ((nth (row X i) 0).str)) (1 : Int)) ++ (qv_v (((nth (row X i) 2).str).length : Int) (1 : Int)))) ++ (qv_v ((nth (row X i) 1).int) (2 : Int)))) else (.inl ((s ++ ((qv_v (qk_v B ((nth (row X i) 0).str)) (1 : Int)) ++ (qv_v (((nth (row X i) 2).str).length : Int) (1 : Int)))) ++ (nth (row X i) 2).str))))
def qb_e3 (A B X : LL) (m : Int) (s : BS) : (LL × LL × BS) ⊕ (LL × LL × BS) := .inr (A, B, s)
def qb_R3 (A B : LL) (s : BS) (X : LL) (m i : Int) : (LL × LL × BS) ⊕ (LL × LL × BS) := iter (fun i a => (qb_f3 A B X m (i : Int) a)) (fun a => (qb_e3 A B X m a)) (A.length) 0 s
abbrev qb_3_σ := LL × LL × BS × LL × Int × Int
abbrev qb_3_ω := (LL × LL × BS) ⊕ (LL × LL × BS)
def qb_3_step (A B : LL) (s : BS) (X : LL) (m i : Int) : Tr (qb_3_σ ⊕ qb_3_ω) := (.ite ((decide (i < m)) = true) (.ite ((0 : Int) ≤ i ∧ i < (X.length : Int)) (.ite ((qk_c B ((nth (row X i) 0).str)) = true) (.ite ((decide ((qk_v B ((nth (row X i) 0).str)) < (0 : Int))) = true) (.ok (.inr (.inl (A, B, s))))
     (.ite ((qv_c (qk_v B ((nth (row X i) 0).str)) (1 : Int)) = true) (.ite ((qv_c (((nth (row X i) 2).str).length : Int) (1 : Int)) = true) (.ite ((((qv_v (qk_v B ((nth (row X i) 0).str)) (1 : Int)).length + (qv_v (((nth (row X i) 2).str).length : Int) (1 : Int)).length : Nat) : Int) ≤ 9223372036854775807) (.ite (fits (s.length + ((qv_v (qk_v B ((nth (row X i) 0).str)) (1 : Int)) ++ (qv_v (((nth (row X i) 2).str).length : Int) (1 : Int))).length)) (.ite (((nth (row X i) 2).str == []) = true) (.ite ((qv_c ((nth (row X i) 1).int) (2 : Int)) = true) (.ite (fits ((s ++ ((qv_v (qk_v B ((nth (row X i) 0).str)) (1 : Int)) ++ (qv_v (((nth (row X i) 2).str).length : Int) (1 : Int)))).length + (qv_v ((nth (row X i) 1).int) (2 : Int)).length)) (.ok (.inl (A, B, ((s ++ ((qv_v (qk_v B ((nth (row X i) 0).str)) (1 : Int)) ++ (qv_v (((nth (row X i) 2).str).length : Int) (1 : Int)))) ++ (qv_v ((nth (row X i) 1).int) (2 : Int))), X, m, (IntKind.wrap .i64 (i + (1 : Int))))))
            .no)
           .no)
          (.ite (fits ((s ++ ((qv_v (qk_v B ((nth (row X i) 0).str)) (1 : Int)) ++ (qv_v (((nth (row X i) 2).str).length : Int) (1 : Int)))).length + ((nth (row X i) 2).str).length)) (.ok (.inl (A, B, ((s ++ ((qv_v (qk_v B ((nth (row X i) 0).str)) (1 : Int)) ++ (qv_v (((nth (row X i) 2).str).length : Int) (1 : Int)))) ++ (nth (row X i) 2).str), X, m, (IntKind.wrap .i64 (i + (1 : Int))))))
           .no))
         .no)
        .no)
       .no)
      .no))
    .no)
   .no)
  (.ok (.inr (.inr (A, B, s)))))
def qb_3_st : qb_3_σ → Tr (qb_3_σ ⊕ qb_3_ω) := fun x => (qb_3_step (x.1) (x.2.1) (x.2.2.1) (x.2.2.2.1) (x.2.2.2.2.1) (x.2.2.2.2.2))
def qb_k3_1 (A B : LL) (s : BS) (X : LL) (m i : Int) : Bool := sumIs (qb_R3 A B s X m i)
def qb_o3_2 (A B : LL) (s : BS) (X : LL) (m i : Int) : Bool := is (i = 0 ∧ Typed tab (.slice 48) (.l A) ∧ m = (A.length : Int) ∧ s.length ≤ 8 ∧ A.length ≤ 64 ∧ A = X ∧ PathsOk A ∧ Typed tab (.slice 9) (.l B))
def qb_u3_2_0 (A B : LL) (s : BS) (X : LL) (m i : Int) : LL := (sumL (qb_R3 A B s X m i)).1
def qb_u3_2_1 (A B : LL) (s : BS) (X : LL) (m i : Int) : LL := (sumL (qb_R3 A B s X m i)).2.1
def qb_u3_2_2 (A B : LL) (s : BS) (X : LL) (m i : Int) : BS := (sumL (qb_R3 A B s X m i)).2.2
def qb_o3_3 (A B : LL) (s : BS) (X : LL) (m i : Int) : Bool := (qb_o3_2 A B s X m i)
def qb_u3_3_0 (A B : LL) (s : BS) (X : LL) (m i : Int) : LL := (sumR (qb_R3 A B s X m i)).1
def qb_u3_3_1 (A B : LL) (s : BS) (X : LL) (m i : Int) : LL := (sumR (qb_R3 A B s X m i)).2.1
def qb_u3_3_2 (A B : LL) (s : BS) (X : LL) (m i : Int) : BS := (sumR (qb_R3 A B s X m i)).2.2
def qb_3_fin (A B : LL) (s : BS) (X : LL) (m i : Int) : Told qb_3_ω := (.br (qb_k3_1 A B s X m i) (.leaf (qb_o3_2 A B s X m i) (.inl ((qb_u3_2_0 A B s X m i), (qb_u3_2_1 A B s X m i), (qb_u3_2_2 A B s X m i)))) (.leaf (qb_o3_3 A B s X m i) (.inr ((qb_u3_3_0 A B s X m i), (qb_u3_3_1 A B s X m i), (qb_u3_3_2 A B s X m i)))))
def qb_3_sl (x : qb_3_σ) : List Slot := [⟨.val false [⟨.slice 48, .sh, TC.l (x.1)⟩], ⟨0, 0⟩⟩, ⟨.bx 40 [⟨.slice 9, .sh, TC.l (x.2.1)⟩], ⟨0, 0⟩⟩, ⟨.bld 66 5 (x.2.2.1), ⟨0, 0⟩⟩, ⟨.val false [⟨.slice 48, .sh, TC.l (x.2.2.2.1)⟩], ⟨0, 0⟩⟩, ⟨.val false [⟨.int .i64, .sh, TC.i (x.2.2.2.2.1)⟩], ⟨0, 0⟩⟩, ⟨.val false [⟨.int .i64, .sh, TC.i (x.2.2.2.2.2)⟩], ⟨0, 0⟩⟩]
def qb_3_out : qb_3_ω → Ex × List Slot := (Sum.elim (fun x => (.ret, [⟨.val false [⟨.slice 48, .sh, TC.l (x.1)⟩], ⟨0, 0⟩⟩, ⟨.bx 40 [⟨.slice 9, .sh, TC.l (x.2.1)⟩], ⟨0, 0⟩⟩, ⟨.val false [⟨.str, .sh, TC.s []⟩], ⟨0, 0⟩⟩, ⟨.val false [⟨.bool, .sh, TC.b false⟩], ⟨0, 0⟩⟩, ⟨.bld 66 5 (x.2.2), ⟨0, 0⟩⟩])) (fun x => (.exit 0, [⟨.val false [⟨.slice 48, .sh, TC.l (x.1)⟩], ⟨0, 0⟩⟩, ⟨.bx 40 [⟨.slice 9, .sh, TC.l (x.2.1)⟩], ⟨0, 0⟩⟩, Slot.none, Slot.none, ⟨.bld 66 5 (x.2.2), ⟨0, 0⟩⟩])))
def qb_lo3 : List Slot → Option (Told (Ex × List Slot)) := fun s => match s with
  | [⟨.val false [⟨.slice 48, .sh, TC.l A⟩], ⟨0, 0⟩⟩, ⟨.bx 40 [⟨.slice 9, .sh, TC.l B⟩], ⟨0, 0⟩⟩, ⟨.bld 66 5 s, ⟨0, 0⟩⟩, ⟨.val false [⟨.slice 48, .sh, TC.l X⟩], ⟨0, 0⟩⟩, ⟨.val false [⟨.int .i64, .sh, TC.i m⟩], ⟨0, 0⟩⟩, ⟨.val false [⟨.int .i64, .sh, TC.i i⟩], ⟨0, 0⟩⟩] => some (((qb_3_fin A B s X m i)).map qb_3_out)
  | _ => .none
def qb_lo : LoopTeller := fun r s => bif Nat.beq r 3 then qb_lo3 s else .none
theorem qb_3_r (A B : LL) (s : BS) (X : LL) (m i : Int) (fuel : Nat) : rounds (rnd tab FT D45 live 39 qb_lo 0 3) leave (fuel + 1) (qb_3_sl (A, B, s, X, m, i)) = ((qb_3_step A B s X m i)).run (goOn (fun s => rounds (rnd tab FT D45 live 39 qb_lo 0 3) leave fuel (qb_3_sl s)) fun w => some (qb_3_out w)) := by kernel_rfl
theorem enc_Rz (A B : LL) (m : Int) : ∃ z, qb_R3 A B [] A m 0 = bif allN A B then .inr (A, B, encL A B) else .inl (A, B, z) := by
  obtain ⟨z, hz⟩ := iter_try (f := fun i a => qb_f3 A B A m (i : Int) a) (fin := fun a => qb_e3 A B A m a) (P := fun i : Nat => hasN B (row A (i : Int))) (g := fun i a => a ++ linkBy B (row A (i : Int))) (w := fun a => .inl (A, B, a)) (fun j a => by
    show qb_f3 A B A m (j : Int) a = bif hasN B (row A (j : Int)) then _ else _
    unfold qb_f3 hasN linkBy
    rw [qk_vv]
    simp only [qv_h]
    cases decide (slotIdx B (nth (row A (j : Int)) 0).str < 0) with
    | true => rfl
    | false =>
      cases (nth (row A (j : Int)) 2).str == [] with
      | true => show Sum.inl _ = Sum.inl _; rw [List.append_assoc]; rfl
      | false => show Sum.inl _ = Sum.inl _; rw [List.append_assoc]; rfl) A.length 0 []
  refine ⟨z, ?_⟩
  rw [← List.range_eq_range'] at hz
  exact hz
theorem enc_R {A B : LL} {m : Int} (h : sumIs (qb_R3 A B [] A m 0) = false) : (sumR (qb_R3 A B [] A m 0)).2.1 = B := by
  obtain ⟨z, hz⟩ := enc_Rz A B m
  rw [hz] at h ⊢
  cases hk : allN A B with
  | true => rfl
  | false => rw [hk] at h; cases h
theorem qb_3_h (A B : LL) (s : BS) (X : LL) (m i : Int) (ow : qb_3_ω) : ((qb_3_fin A B s X m i)).val = some ow → ∃ fuel, loopN qb_3_st fuel (A, B, s, X, m, i) = some ow := by
  refine auto_sum (R := (qb_R3 A B s X m i)) rfl rfl rfl ?_
  intro ho
  have ho : is (i = 0 ∧ Typed tab (.slice 48) (.l A) ∧ m = (A.length : Int) ∧ s.length ≤ 8 ∧ A.length ≤ 64 ∧ A = X ∧ PathsOk A ∧ Typed tab (.slice 9) (.l B)) = true := ho.elim id id
  obtain ⟨rfl, ht, rfl, hs0, hlim, rfl, hP, hB⟩ := is_iff.1 ho
  have hlen : A.length ≤ 140737488351232 := by have := typed_room ht; simp only [show (tab 48).bytes = 40 from rfl] at this; omega
  refine ⟨(A.length) + 1, ?_⟩
  refine iter_loop (step := qb_3_st) (A.length) (fun i a => (qb_f3 A B A (A.length : Int) (i : Int) a)) (fun a => (qb_e3 A B A (A.length : Int) a)) (fun i a => (A, B, a, A, (A.length : Int), (i : Int))) (fun i (a : BS) => a.length ≤ 8 + 1048584 * i) (by simpa using hs0) (fun i a hi hI => ⟨?_, fun a' h => by
    unfold qb_f3 at h
    have c0 : (nth (row A (i : Int)) 2).str.length ≤ 1048576 := hP _ (mem_getD (by omega))
    have e0 : (qv_v (qk_v B (nth (row A (i : Int)) 0).str) (1 : Int)).length = 1 := qv_len (sz := 1)
    have e1 : (qv_v (((nth (row A (i : Int)) 2).str).length : Int) (1 : Int)).length = 1 := qv_len (sz := 1)
    have e2 : (qv_v (nth (row A (i : Int)) 1).int (2 : Int)).length = 2 := qv_len (sz := 2)
    cases hc0 : decide (qk_v B ((nth (row A (i : Int)) 0).str) < (0 : Int)) <;> rw [hc0] at h
    · cases hc1 : (nth (row A (i : Int)) 2).str == [] <;> rw [hc1] at h <;> (cases h; show List.length _ ≤ 8 + 1048584 * (i + 1); simp only [List.length_append]; omega)
    · cases h⟩) (fun a hI => ?_)
  · show (qb_3_step A B a A (A.length : Int) (i : Int)).val = _
    unfold qb_3_step qb_f3
    have c0 : Typed tab (.str) (.s (nth (A.getD i []) 0).str) := typed_s (typed_cell ht (A.getD i []) (mem_getD hi) 0 (by decide))
    have c2 : Typed tab (.str) (.s (nth (A.getD i []) 2).str) := typed_s (typed_cell ht (A.getD i []) (mem_getD hi) 2 (by decide))
    have hI : a.length ≤ 8 + 1048584 * i := hI
    have c0 : (nth (row A (i : Int)) 2).str.length ≤ 1048576 := hP _ (mem_getD (by omega))
    have e0 : (qv_v (qk_v B (nth (row A (i : Int)) 0).str) (1 : Int)).length = 1 := qv_len (sz := 1)
    have e1 : (qv_v (((nth (row A (i : Int)) 2).str).length : Int) (1 : Int)).length = 1 := qv_len (sz := 1)
    have e2 : (qv_v (nth (row A (i : Int)) 1).int (2 : Int)).length = 2 := qv_len (sz := 2)
    refine Tr.t (by simp; omega) ?_
    exact (Tr.t (by first | omega | (constructor <;> omega) | (simp only [List.length_append]; omega) | (exact is_true ⟨1, rfl, by omega⟩) | (exact is_true ⟨2, rfl, by omega⟩) | (unfold fits; simp only [List.length_append]; omega)) (Tr.t (by first | (simp only [List.length_append]; omega) | (exact is_true ⟨1, rfl, by omega⟩) | (exact is_true ⟨2, rfl, by omega⟩) | (unfold fits; simp only [List.length_append]; omega) | (first | (apply is_true; and_intros <;> (first | rfl | assumption | (apply qh_cc <;> assumption) | (apply qc_cc <;> assumption) | (apply ql_cc <;> assumption) | (apply qo_cc <;> assumption) | (apply qj_cc <;> assumption) | (apply qe_cc <;> assumption) | (apply qm_cc <;> assumption) | (apply qs_cc <;> assumption) | (apply qg_cc <;> assumption) | (apply qn_cc <;> assumption) | (first | (apply is_true; and_intros <;> (first | rfl | assumption | (apply qh_cc <;> assumption) | (apply qc_cc <;> assumption) | (apply ql_cc <;> assumption) | (apply qo_cc <;> assumption) | (apply qj_cc <;> assumption) | (apply qe_cc <;> assumption) | (apply qm_cc <;> assumption) | (apply qs_cc <;> assumption) | (apply qg_cc <;> assumption) | (apply qn_cc <;> assumption) | (first | (apply is_true; and_intros <;> (first | rfl | assumption | (apply qh_cc <;> assumption) | (apply qc_cc <;> assumption) | (apply ql_cc <;> assumption) | (apply qo_cc <;> assumption) | (apply qj_cc <;> assumption) | (apply qe_cc <;> assumption) | (apply qm_cc <;> assumption) | (apply qs_cc <;> assumption) | (apply qg_cc <;> assumption) | (apply qn_cc <;> assumption))) | (apply qh_cc <;> assumption) | (apply qc_cc <;> assumption) | (apply ql_cc <;> assumption) | (apply qo_cc <;> assumption) | (apply qj_cc <;> assumption) | (apply qe_cc <;> assumption) | (apply qm_cc <;> assumption) | (apply qs_cc <;> assumption) | (apply qg_cc <;> assumption) | (apply qn_cc <;> assumption)))) | (apply qh_cc <;> assumption) | (apply qc_cc <;> assumption) | (apply ql_cc <;> assumption) | (apply qo_cc <;> assumption) | (apply qj_cc <;> assumption) | (apply qe_cc <;> assumption) | (apply qm_cc <;> assumption) | (apply qs_cc <;> assumption) | (apply qg_cc <;> assumption) | (apply qn_cc <;> assumption)))) | (apply qh_cc <;> assumption) | (apply qc_cc <;> assumption) | (apply ql_cc <;> assumption) | (apply qo_cc <;> assumption) | (apply qj_cc <;> assumption) | (apply qe_cc <;> assumption) | (apply qm_cc <;> assumption) | (apply qs_cc <;> assumption) | (apply qg_cc <;> assumption) | (apply qn_cc <;> assumption))) (Tr.bf rfl (Tr.t (by first | (simp only [List.length_append]; omega) | (exact is_true ⟨1, rfl, by omega⟩) | (exact is_true ⟨2, rfl, by omega⟩) | (unfold fits; simp only [List.length_append]; omega) | (first | (apply is_true; and_intros <;> (first | rfl | assumption | (apply qh_cc <;> assumption) | (apply qc_cc <;> assumption) | (apply ql_cc <;> assumption) | (apply qo_cc <;> assumption) | (apply qj_cc <;> assumption) | (apply qe_cc <;> assumption) | (apply qm_cc <;> assumption) | (apply qs_cc <;> assumption) | (apply qg_cc <;> assumption) | (apply qn_cc <;> assumption) | (first | (apply is_true; and_intros <;> (first | rfl | assumption | (apply qh_cc <;> assumption) | (apply qc_cc <;> assumption) | (apply ql_cc <;> assumption) | (apply qo_cc <;> assumption) | (apply qj_cc <;> assumption) | (apply qe_cc <;> assumption) | (apply qm_cc <;> assumption) | (apply qs_cc <;> assumption) | (apply qg_cc <;> assumption) | (apply qn_cc <;> assumption) | (first | (apply is_true; and_intros <;> (first | rfl | assumption | (apply qh_cc <;> assumption) | (apply qc_cc <;> assumption) | (apply ql_cc <;> assumption) | (apply qo_cc <;> assumption) | (apply qj_cc <;> assumption) | (apply qe_cc <;> assumption) | (apply qm_cc <;> assumption) | (apply qs_cc <;> assumption) | (apply qg_cc <;> assumption) | (apply qn_cc <;> assumption))) | (apply qh_cc <;> assumption) | (apply qc_cc <;> assumption) | (apply ql_cc <;> assumption) | (apply qo_cc <;> assumption) | (apply qj_cc <;> assumption) | (apply qe_cc <;> assumption) | (apply qm_cc <;> assumption) | (apply qs_cc <;> assumption) | (apply qg_cc <;> assumption) | (apply qn_cc <;> assumption)))) | (apply qh_cc <;> assumption) | (apply qc_cc <;> assumption) | (apply ql_cc <;> assumption) | (apply qo_cc <;> assumption) | (apply qj_cc <;> assumption) | (apply qe_cc <;> assumption) | (apply qm_cc <;> assumption) | (apply qs_cc <;> assumption) | (apply qg_cc <;> assumption) | (apply qn_cc <;> assumption)))) | (apply qh_cc <;> assumption) | (apply qc_cc <;> assumption) | (apply ql_cc <;> assumption) | (apply qo_cc <;> assumption) | (apply qj_cc <;> assumption) | (apply qe_cc <;> assumption) | (apply qm_cc <;> assumption) | (apply qs_cc <;> assumption) | (apply qg_cc <;> assumption) | (apply qn_cc <;> assumption))) (Tr.t (by first | (simp only [List.length_append]; omega) | (exact is_true ⟨1, rfl, by omega⟩) | (exact is_true ⟨2, rfl, by omega⟩) | (unfold fits; simp only [List.length_append]; omega) | (first | (apply is_true; and_intros <;> (first | rfl | assumption | (apply qh_cc <;> assumption) | (apply qc_cc <;> assumption) | (apply ql_cc <;> assumption) | (apply qo_cc <;> assumption) | (apply qj_cc <;> assumption) | (apply qe_cc <;> assumption) | (apply qm_cc <;> assumption) | (apply qs_cc <;> assumption) | (apply qg_cc <;> assumption) | (apply qn_cc <;> assumption) | (first | (apply is_true; and_intros <;> (first | rfl | assumption | (apply qh_cc <;> assumption) | (apply qc_cc <;> assumption) | (apply ql_cc <;> assumption) | (apply qo_cc <;> assumption) | (apply qj_cc <;> assumption) | (apply qe_cc <;> assumption) | (apply qm_cc <;> assumption) | (apply qs_cc <;> assumption) | (apply qg_cc <;> assumption) | (apply qn_cc <;> assumption) | (first | (apply is_true; and_intros <;> (first | rfl | assumption | (apply qh_cc <;> assumption) | (apply qc_cc <;> assumption) | (apply ql_cc <;> assumption) | (apply qo_cc <;> assumption) | (apply qj_cc <;> assumption) | (apply qe_cc <;> assumption) | (apply qm_cc <;> assumption) | (apply qs_cc <;> assumption) | (apply qg_cc <;> assumption) | (apply qn_cc <;> assumption))) | (apply qh_cc <;> assumption) | (apply qc_cc <;> assumption) | (apply ql_cc <;> assumption) | (apply qo_cc <;> assumption) | (apply qj_cc <;> assumption) | (apply qe_cc <;> assumption) | (apply qm_cc <;> assumption) | (apply qs_cc <;> assumption) | (apply qg_cc <;> assumption) | (apply qn_cc <;> assumption)))) | (apply qh_cc <;> assumption) | (apply qc_cc <;> assumption) | (apply ql_cc <;> assumption) | (apply qo_cc <;> assumption) | (apply qj_cc <;> assumption) | (apply qe_cc <;> assumption) | (apply qm_cc <;> assumption) | (apply qs_cc <;> assumption) | (apply qg_cc <;> assumption) | (apply qn_cc <;> assumption)))) | (apply qh_cc <;> assumption) | (apply qc_cc <;> assumption) | (apply ql_cc <;> assumption) | (apply qo_cc <;> assumption) | (apply qj_cc <;> assumption) | (apply qe_cc <;> assumption) | (apply qm_cc <;> assumption) | (apply qs_cc <;> assumption) | (apply qg_cc <;> assumption) | (apply qn_cc <;> assumption))) (Tr.t (by first | omega | (constructor <;> omega) | (simp only [List.length_append]; omega) | (exact is_true ⟨1, rfl, by omega⟩) | (exact is_true ⟨2, rfl, by omega⟩) | (unfold fits; simp only [List.length_append]; omega)) (Tr.t (by first | omega | (constructor <;> omega) | (simp only [List.length_append]; omega) | (exact is_true ⟨1, rfl, by omega⟩) | (exact is_true ⟨2, rfl, by omega⟩) | (unfold fits; simp only [List.length_append]; omega)) (Tr.bf (Tr.t (by first | (simp only [List.length_append]; omega) | (exact is_true ⟨1, rfl, by omega⟩) | (exact is_true ⟨2, rfl, by omega⟩) | (unfold fits; simp only [List.length_append]; omega) | (first | (apply is_true; and_intros <;> (first | rfl | assumption | (apply qh_cc <;> assumption) | (apply qc_cc <;> assumption) | (apply ql_cc <;> assumption) | (apply qo_cc <;> assumption) | (apply qj_cc <;> assumption) | (apply qe_cc <;> assumption) | (apply qm_cc <;> assumption) | (apply qs_cc <;> assumption) | (apply qg_cc <;> assumption) | (apply qn_cc <;> assumption) | (first | (apply is_true; and_intros <;> (first | rfl | assumption | (apply qh_cc <;> assumption) | (apply qc_cc <;> assumption) | (apply ql_cc <;> assumption) | (apply qo_cc <;> assumption) | (apply qj_cc <;> assumption) | (apply qe_cc <;> assumption) | (apply qm_cc <;> assumption) | (apply qs_cc <;> assumption) | (apply qg_cc <;> assumption) | (apply qn_cc <;> assumption) | (first | (apply is_true; and_intros <;> (first | rfl | assumption | (apply qh_cc <;> assumption) | (apply qc_cc <;> assumption) | (apply ql_cc <;> assumption) | (apply qo_cc <;> assumption) | (apply qj_cc <;> assumption) | (apply qe_cc <;> assumption) | (apply qm_cc <;> assumption) | (apply qs_cc <;> assumption) | (apply qg_cc <;> assumption) | (apply qn_cc <;> assumption))) | (apply qh_cc <;> assumption) | (apply qc_cc <;> assumption) | (apply ql_cc <;> assumption) | (apply qo_cc <;> assumption) | (apply qj_cc <;> assumption) | (apply qe_cc <;> assumption) | (apply qm_cc <;> assumption) | (apply qs_cc <;> assumption) | (apply qg_cc <;> assumption) | (apply qn_cc <;> assumption)))) | (apply qh_cc <;> assumption) | (apply qc_cc <;> assumption) | (apply ql_cc <;> assumption) | (apply qo_cc <;> assumption) | (apply qj_cc <;> assumption) | (apply qe_cc <;> assumption) | (apply qm_cc <;> assumption) | (apply qs_cc <;> assumption) | (apply qg_cc <;> assumption) | (apply qn_cc <;> assumption)))) | (apply qh_cc <;> assumption) | (apply qc_cc <;> assumption) | (apply ql_cc <;> assumption) | (apply qo_cc <;> assumption) | (apply qj_cc <;> assumption) | (apply qe_cc <;> assumption) | (apply qm_cc <;> assumption) | (apply qs_cc <;> assumption) | (apply qg_cc <;> assumption) | (apply qn_cc <;> assumption))) (Tr.t (by first | omega | (constructor <;> omega) | (simp only [List.length_append]; omega) | (exact is_true ⟨1, rfl, by omega⟩) | (exact is_true ⟨2, rfl, by omega⟩) | (unfold fits; simp only [List.length_append]; omega)) (by rw [Tr.val_ok, wrap64 (i := (i : Int) + 1) (by omega) (by omega)]; rfl))) (Tr.t (by first | omega | (constructor <;> omega) | (simp only [List.length_append]; omega) | (exact is_true ⟨1, rfl, by omega⟩) | (exact is_true ⟨2, rfl, by omega⟩) | (unfold fits; simp only [List.length_append]; omega)) (by rw [Tr.val_ok, wrap64 (i := (i : Int) + 1) (by omega) (by omega)]; rfl))))))))))
  · show (qb_3_step A B a A (A.length : Int) (A.length : Int)).val = _
    refine Tr.n (by first | (simp; done) | (simp; omega) | omega) ?_
    rfl
theorem qb_is3 : LoopIs tab FT D45 live 39 qb_lo 0 3 := by
  refine loop_told (sl := qb_3_sl) (step := qb_3_st) (out := qb_3_out) (lor := qb_lo3) (fin := fun x => (qb_3_fin (x.1) (x.2.1) (x.2.2.1) (x.2.2.2.1) (x.2.2.2.2.1) (x.2.2.2.2.2))) (fun _ => rfl) ?_ (fun x n => qb_3_r x.1 x.2.1 x.2.2.1 x.2.2.2.1 x.2.2.2.2.1 x.2.2.2.2.2 n) (fun x ow => qb_3_h x.1 x.2.1 x.2.2.1 x.2.2.2.1 x.2.2.2.2.1 x.2.2.2.2.2 ow)
  intro s t h
  unfold qb_lo3 at h
  split at h
  · cases h; exact ⟨(_, _, _, _, _, _), rfl, rfl⟩
  · cases h
def qb_t (A B : LL) : Tr (BS × Bool) := (.ite ((qb_k3_1 A B [] A (A.length : Int) (0 : Int)) = true) (.ite ((qb_o3_2 A B [] A (A.length : Int) (0 : Int)) = true) (.ok ([], false))
   .no)
  (.ite ((qb_o3_3 A B [] A (A.length : Int) (0 : Int)) = true) (.ite ((qr_c (qb_u3_3_1 A B [] A (A.length : Int) (0 : Int))) = true) (.ok ((qb_u3_3_2 A B [] A (A.length : Int) (0 : Int)), ((qr_v (qb_u3_3_1 A B [] A (A.length : Int) (0 : Int))) == ((qb_u3_3_0 A B [] A (A.length : Int) (0 : Int)).length : Int))))
    .no)
   .no))
def qb_mk (p : BS × Bool) : Res := [(false, [⟨.str, .sh, TC.s (p.1)⟩]), (false, [⟨.bool, .sh, TC.b (p.2)⟩])]
def qb_c (A B : LL) : Bool := (bif (qb_k3_1 A B [] A (A.length : Int) (0 : Int)) then ((qb_o3_2 A B [] A (A.length : Int) (0 : Int)) && true) else ((qb_o3_3 A B [] A (A.length : Int) (0 : Int)) && ((qr_c (qb_u3_3_1 A B [] A (A.length : Int) (0 : Int))) && true)))
def qb_v (A B : LL) : BS × Bool := (bif (qb_k3_1 A B [] A (A.length : Int) (0 : Int)) then ([], false) else ((qb_u3_3_2 A B [] A (A.length : Int) (0 : Int)), ((qr_v (qb_u3_3_1 A B [] A (A.length : Int) (0 : Int))) == ((qb_u3_3_0 A B [] A (A.length : Int) (0 : Int)).length : Int))))
theorem qb_l (A B : LL) : (qb_c A B) = true → (qb_t A B).val = some (qb_v A B) := by
  unfold qb_t qb_v qb_c
  exact fun h => (Tr.ss h (fun h => (Tr.gb h fun h => rfl)) (fun h => (Tr.gb h fun h => (Tr.gb h fun h => rfl))))
def qb_S : List Arg → Option (Bool × Res) := fun xs => match xs with
  | [(false, [(.slice 48, TC.l A)]), (true, [(.slice 9, TC.l B)])] => some ((qb_c A B), qb_mk (qb_v A B))
  | _ => .none
theorem qb_e (A B : LL) : runF tab FT D45 live 39 qb_lo [(false, [(.slice 48, TC.l A)]), (true, [(.slice 9, TC.l B)])] = (qb_t A B).run fun p => some (qb_mk p) := by kernel_rfl
theorem qb_s : ∀ xs r, qb_S xs = some (true, r) → runF tab FT D45 live 39 qb_lo xs = some r := by
  intro xs r h
  unfold qb_S at h
  split at h
  · obtain ⟨h1, rfl⟩ := sp h
    exact fun_told (qb_e ..) (qb_l _ _) h1
  · cases h
def D46 : Dt := also D45 39 qb_S
theorem d46 : DOk Go.Proofs.Tryd.prog tab D46 := d45.also mixed_ok tab_ok names_ok (fnLoops_one (by kernel_rfl) qb_is3) qb_s
theorem qb_cc {A : LL} {B : LL} (hA : Typed tab (.slice 48) (.l A)) (hP : PathsOk A) (hB : Typed tab (.slice 9) (.l B)) (hl : A.length ≤ 12) : (qb_c A B) = true := by
  unfold qb_c
  refine bifT (fun b1 => ?_) (fun b1 => ?_)
  · skip
    refine andT (by exact is_true ⟨rfl, hA, rfl, by simp, by omega, rfl, hP, hB⟩) ?_
    rfl
  · skip
    refine andT (by exact is_true ⟨rfl, hA, rfl, by simp, by omega, rfl, hP, hB⟩) ?_
    refine andT (by rw [show qb_u3_3_1 A B [] A (A.length : Int) (0 : Int) = B from enc_R b1]; exact is_true ⟨qbj_cc hB, is_true hB⟩) ?_
    rfl
theorem qb_vv (A B : LL) : qb_v A B = bif allN A B then (encL A B, decide (cntE B = A.length)) else ([], false) := by
  obtain ⟨z, hz⟩ := enc_Rz A B (A.length : Int)
  unfold qb_v
  show (bif sumIs (qb_R3 A B [] A (A.length : Int) 0) then ([], false) else ((sumR (qb_R3 A B [] A (A.length : Int) 0)).2.2, ((qr_v (sumR (qb_R3 A B [] A (A.length : Int) 0)).2.1) == (((sumR (qb_R3 A B [] A (A.length : Int) 0)).1.length : Nat) : Int)))) = _
  rw [hz]
  cases allN A B with
  | true =>
    show (encL A B, (((cntE B : Nat) : Int) == (A.length : Int))) = (encL A B, decide (cntE B = A.length))
    rw [show (((cntE B : Nat) : Int) == (A.length : Int)) = decide (cntE B = A.length) from by rw [Bool.eq_iff_iff]; simp only [beq_iff_eq, decide_eq_true_eq]; omega]
  | false => rfl
def qq_t (A B : LL) : Tr (BS × Bool) := (.ite ((qg_c A) = true) (.ite ((!(qg_v A)) = true) (.ok ([], false))
   (.ite ((qn_c B) = true) (.ite ((!(qn_v B)) = true) (.ok ([], false))
     (.ite ((qb_c A B) = true) (.ite ((!(qb_v A B).2) = true) (.ok ([], false))
       (.ok ((qb_v A B).1, true)))
      .no))
    .no))
  .no)
def qq_mk (p : BS × Bool) : Res := [(false, [⟨.str, .sh, TC.s (p.1)⟩]), (false, [⟨.bool, .sh, TC.b (p.2)⟩])]
def qq_c (A B : LL) : Bool := ((qg_c A) && (bif (!(qg_v A)) then true else ((qn_c B) && (bif (!(qn_v B)) then true else ((qb_c A B) && (bif (!(qb_v A B).2) then true else true))))))
def qq_v (A B : LL) : BS × Bool := (bif (!(qg_v A)) then ([], false) else (bif (!(qn_v B)) then ([], false) else (bif (!(qb_v A B).2) then ([], false) else ((qb_v A B).1, true))))
theorem qq_l (A B : LL) : (qq_c A B) = true → (qq_t A B).val = some (qq_v A B) := by
  unfold qq_t qq_v qq_c
  exact fun h => (Tr.gb h fun h => (Tr.ss h (fun h => rfl) (fun h => (Tr.gb h fun h => (Tr.ss h (fun h => rfl) (fun h => (Tr.gb h fun h => (Tr.ss h (fun h => rfl) (fun h => rfl)))))))))
def qq_S : List Arg → Option (Bool × Res) := fun xs => match xs with
  | [(false, [(.slice 48, TC.l A)]), (true, [(.slice 9, TC.l B)])] => some ((qq_c A B), qq_mk (qq_v A B))
  | _ => .none
theorem qq_e (A B : LL) : runF tab FT D46 live 22 noLoops [(false, [(.slice 48, TC.l A)]), (true, [(.slice 9, TC.l B)])] = (qq_t A B).run fun p => some (qq_mk p) := by kernel_rfl
theorem qq_s : ∀ xs r, qq_S xs = some (true, r) → runF tab FT D46 live 22 noLoops xs = some r := by
  intro xs r h
  unfold qq_S at h
  split at h
  · obtain ⟨h1, rfl⟩ := sp h
    exact fun_told (qq_e ..) (qq_l _ _) h1
  · cases h
def D47 : Dt := also D46 22 qq_S
theorem d47 : DOk Go.Proofs.Tryd.prog tab D47 := d46.also mixed_ok tab_ok names_ok noLoops_ok qq_s
theorem qq_cc {A : LL} {B : LL} (hA : Typed tab (.slice 48) (.l A)) (hP : PathsOk A) (hB : Typed tab (.slice 9) (.l B)) : (qq_c A B) = true := by
  unfold qq_c
  refine andT (by exact qg_cc hA hP) ?_
  refine bifT (fun b1 => ?_) (fun b1 => ?_)
  · skip
    rfl
  · skip
    refine andT (by exact qn_cc hB) ?_
    refine bifT (fun b2 => ?_) (fun b2 => ?_)
    · skip
      rfl
    · skip
      refine andT (by exact qb_cc hA hP hB (linksB_len ((qg_vv _).symm.trans (notF b1)))) ?_
      refine bifT (fun b3 => ?_) (fun b3 => ?_)
      · skip
        rfl
      · skip
        rfl
theorem qq_vv (A B : LL) : qq_v A B = encLV A B := by
  unfold qq_v
  rw [qg_vv, qn_vv, qb_vv]
  unfold encLV encLB
  generalize linksB A = p1, heapOk B = p2, decide (cntE B = A.length) = p3, allN A B = p4
  cases p1 <;> cases p2 <;> cases p3 <;> cases p4 <;> rfl
def qbw_t (x0 : BS) (x1 : Int) (x2 y0 : BS) (y1 : Int) (y2 : BS) : Tr (Bool) := (.ite ((!(x0 == y0)) = true) (.ok false)
  (.ite ((!(x1 == y1)) = true) (.ok false)
   (.ite ((!(x2 == y2)) = true) (.ok false)
    (.ok true))))
def qbw_mk (p : Bool) : Res := [(false, [⟨.bool, .sh, TC.b p⟩])]
def qbw_c (x0 : BS) (x1 : Int) (x2 y0 : BS) (y1 : Int) (y2 : BS) : Bool := is (x0 = y0 ∧ x1 = y1 ∧ x2 = y2 ∧ Typed tab (.str) (.s x0) ∧ Typed tab (.str) (.s x2))
def qbw_v (x0 : BS) (x1 : Int) (x2 y0 : BS) (y1 : Int) (y2 : BS) : Bool := true
theorem qbw_l (x0 : BS) (x1 : Int) (x2 y0 : BS) (y1 : Int) (y2 : BS) : (qbw_c x0 x1 x2 y0 y1 y2) = true → (qbw_t x0 x1 x2 y0 y1 y2).val = some (qbw_v x0 x1 x2 y0 y1 y2) := by
  intro h
  obtain ⟨rfl, rfl, rfl, t0, t1⟩ := is_iff.1 h
  unfold qbw_t
  refine Tr.n (by simp) ?_
  refine Tr.n (by simp) ?_
  refine Tr.n (by simp) ?_
  rfl
def qbw_S : List Arg → Option (Bool × Res) := fun xs => match xs with
  | [(true, [(.str, TC.s x0), (.int .i64, TC.i x1), (.str, TC.s x2)]), (true, [(.str, TC.s y0), (.int .i64, TC.i y1), (.str, TC.s y2)])] => some ((qbw_c x0 x1 x2 y0 y1 y2), qbw_mk (qbw_v x0 x1 x2 y0 y1 y2))
  | _ => .none
theorem qbw_e (x0 : BS) (x1 : Int) (x2 y0 : BS) (y1 : Int) (y2 : BS) : runF tab FT D47 live 31 noLoops [(true, [(.str, TC.s x0), (.int .i64, TC.i x1), (.str, TC.s x2)]), (true, [(.str, TC.s y0), (.int .i64, TC.i y1), (.str, TC.s y2)])] = (qbw_t x0 x1 x2 y0 y1 y2).run fun p => some (qbw_mk p) := by kernel_rfl
theorem qbw_s : ∀ xs r, qbw_S xs = some (true, r) → runF tab FT D47 live 31 noLoops xs = some r := by
  intro xs r h
  unfold qbw_S at h
  split at h
  · obtain ⟨h1, rfl⟩ := sp h
    exact fun_told (qbw_e ..) (qbw_l _ _ _ _ _ _) h1
  · cases h
def D48 : Dt := also D47 31 qbw_S
theorem d48 : DOk Go.Proofs.Tryd.prog tab D48 := d47.also mixed_ok tab_ok names_ok noLoops_ok qbw_s
abbrev qbg_4_σ := LL × LL × Int
abbrev qbg_4_ω := (Unit) ⊕ (Unit)
def qbg_4_step (A C : LL) (i : Int) : Tr (qbg_4_σ ⊕ qbg_4_ω) := (.ite ((decide (i < (A.length : Int))) = true) (.ite ((0 : Int) ≤ i ∧ i < (A.length : Int)) (.ite ((0 : Int) ≤ i ∧ i < (C.length : Int)) (.ite ((qbw_c ((nth (row A i) 0).str) ((nth (row A i) 1).int) ((nth (row A i) 2).str) ((nth (row C i) 0).str) ((nth (row C i) 1).int) ((nth (row C i) 2).str)) = true) (.ite ((!(qbw_v ((nth (row A i) 0).str) ((nth (row A i) 1).int) ((nth (row A i) 2).str) ((nth (row C i) 0).str) ((nth (row C i) 1).int) ((nth (row C i) 2).str))) = true) (.ok (.inr (.inl ())))
      (.ok (.inl (A, C, (IntKind.wrap .i64 (i + (1 : Int)))))))
     .no)
    .no)
   .no)
  (.ok (.inr (.inr ()))))
def qbg_4_st : qbg_4_σ → Tr (qbg_4_σ ⊕ qbg_4_ω) := fun x => (qbg_4_step (x.1) (x.2.1) (x.2.2))
def qbg_o4_1 (A C : LL) (i : Int) : Bool := is (A = C ∧ i = 0 ∧ Typed tab (.slice 48) (.l A))
def qbg_4_fin (A C : LL) (i : Int) : Told qbg_4_ω := (.leaf (qbg_o4_1 A C i) (.inr ()))
def qbg_4_sl (x : qbg_4_σ) : List Slot := [⟨.val false [⟨.slice 48, .sh, TC.l (x.1)⟩], ⟨0, 0⟩⟩, ⟨.val false [⟨.slice 48, .sh, TC.l (x.2.1)⟩], ⟨0, 0⟩⟩, ⟨.val false [⟨.int .i64, .sh, TC.i (x.2.2)⟩], ⟨0, 0⟩⟩]
def qbg_4_out : qbg_4_ω → Ex × List Slot := (Sum.elim (fun x => (.ret, [⟨.val false [⟨.bool, .sh, TC.b false⟩], ⟨0, 0⟩⟩])) (fun x => (.exit 0, [Slot.none])))
def qbg_lo4 : List Slot → Option (Told (Ex × List Slot)) := fun s => match s with
  | [⟨.val false [⟨.slice 48, .sh, TC.l A⟩], ⟨0, 0⟩⟩, ⟨.val false [⟨.slice 48, .sh, TC.l C⟩], ⟨0, 0⟩⟩, ⟨.val false [⟨.int .i64, .sh, TC.i i⟩], ⟨0, 0⟩⟩] => some (((qbg_4_fin A C i)).map qbg_4_out)
  | _ => .none
def qbg_lo : LoopTeller := fun r s => bif Nat.beq r 4 then qbg_lo4 s else .none
theorem qbg_4_r (A C : LL) (i : Int) (fuel : Nat) : rounds (rnd tab FT D48 live 18 qbg_lo 0 4) leave (fuel + 1) (qbg_4_sl (A, C, i)) = ((qbg_4_step A C i)).run (goOn (fun s => rounds (rnd tab FT D48 live 18 qbg_lo 0 4) leave fuel (qbg_4_sl s)) fun w => some (qbg_4_out w)) := by kernel_rfl
theorem qbg_4_h (A C : LL) (i : Int) (ow : qbg_4_ω) : ((qbg_4_fin A C i)).val = some ow → ∃ fuel, loopN qbg_4_st fuel (A, C, i) = some ow := by
  intro h
  simp only [qbg_4_fin, Told.val] at h
  split at h
  · rename_i ho
    obtain ⟨rfl, rfl, ht⟩ := is_iff.1 ho
    cases h
    have hlen : A.length ≤ 140737488351232 := by have := typed_room ht; simp only [show (tab 48).bytes = 40 from rfl] at this; omega
    refine ⟨_, loopN_run (N := A.length) (fun i => (A, A, (i : Int))) (fun i hi => ?_) ?_ A.length 0 (by omega)⟩
    · have c0 : Typed tab (.str) (.s (nth (A.getD i []) 0).str) := typed_s (typed_cell ht (A.getD i []) (mem_getD hi) 0 (by decide))
      have c2 : Typed tab (.str) (.s (nth (A.getD i []) 2).str) := typed_s (typed_cell ht (A.getD i []) (mem_getD hi) 2 (by decide))
      show (qbg_4_step A A (i : Int)).val = _
      unfold qbg_4_step
      refine Tr.t (by simp; omega) ?_
      refine Tr.t (by constructor <;> omega) ?_
      refine Tr.t (by constructor <;> omega) ?_
      refine Tr.t (by first | (apply is_true; and_intros <;> (first | rfl | assumption | (apply qh_cc <;> assumption) | (apply qc_cc <;> assumption) | (apply ql_cc <;> assumption) | (apply qo_cc <;> assumption) | (apply qj_cc <;> assumption) | (apply qe_cc <;> assumption) | (apply qm_cc <;> assumption) | (apply qs_cc <;> assumption) | (apply qg_cc <;> assumption) | (apply qn_cc <;> assumption) | (apply qb_cc <;> assumption) | (apply qq_cc <;> assumption) | (first | (apply is_true; and_intros <;> (first | rfl | assumption | (apply qh_cc <;> assumption) | (apply qc_cc <;> assumption) | (apply ql_cc <;> assumption) | (apply qo_cc <;> assumption) | (apply qj_cc <;> assumption) | (apply qe_cc <;> assumption) | (apply qm_cc <;> assumption) | (apply qs_cc <;> assumption) | (apply qg_cc <;> assumption) | (apply qn_cc <;> assumption) | (apply qb_cc <;> assumption) | (apply qq_cc <;> assumption) | (first | (apply is_true; and_intros <;> (first | rfl | assumption | (apply qh_cc <;> assumption) | (apply qc_cc <;> assumption) | (apply ql_cc <;> assumption) | (apply qo_cc <;> assumption) | (apply qj_cc <;> assumption) | (apply qe_cc <;> assumption) | (apply qm_cc <;> assumption) | (apply qs_cc <;> assumption) | (apply qg_cc <;> assumption) | (apply qn_cc <;> assumption) | (apply qb_cc <;> assumption) | (apply qq_cc <;> assumption) | (first | (apply is_true; and_intros <;> (first | rfl | assumption | (apply qh_cc <;> assumption) | (apply qc_cc <;> assumption) | (apply ql_cc <;> assumption) | (apply qo_cc <;> assumption) | (apply qj_cc <;> assumption) | (apply qe_cc <;> assumption) | (apply qm_cc <;> assumption) | (apply qs_cc <;> assumption) | (apply qg_cc <;> assumption) | (apply qn_cc <;> assumption) | (apply qb_cc <;> assumption) | (apply qq_cc <;> assumption))) | (apply qh_cc <;> assumption) | (apply qc_cc <;> assumption) | (apply ql_cc <;> assumption) | (apply qo_cc <;> assumption) | (apply qj_cc <;> assumption) | (apply qe_cc <;> assumption) | (apply qm_cc <;> assumption) | (apply qs_cc <;> assumption) | (apply qg_cc <;> assumption) | (apply qn_cc <;> assumption) | (apply qb_cc <;> assumption) | (apply qq_cc <;> assumption)))) | (apply qh_cc <;> assumption) | (apply qc_cc <;> assumption) | (apply ql_cc <;> assumption) | (apply qo_cc <;> assumption) | (apply qj_cc <;> assumption) | (apply qe_cc <;> assumption) | (apply qm_cc <;> assumption) | (apply qs_cc <;> assumption) | (apply qg_cc <;> assumption) | (apply qn_cc <;> assumption) | (apply qb_cc <;> assumption) | (apply qq_cc <;> assumption)))) | (apply qh_cc <;> assumption) | (apply qc_cc <;> assumption) | (apply ql_cc <;> assumption) | (apply qo_cc <;> assumption) | (apply qj_cc <;> assumption) | (apply qe_cc <;> assumption) | (apply qm_cc <;> assumption) | (apply qs_cc <;> assumption) | (apply qg_cc <;> assumption) | (apply qn_cc <;> assumption) | (apply qb_cc <;> assumption) | (apply qq_cc <;> assumption)))) | (apply qh_cc <;> assumption) | (apply qc_cc <;> assumption) | (apply ql_cc <;> assumption) | (apply qo_cc <;> assumption) | (apply qj_cc <;> assumption) | (apply qe_cc <;> assumption) | (apply qm_cc <;> assumption) | (apply qs_cc <;> assumption) | (apply qg_cc <;> assumption) | (apply qn_cc <;> assumption) | (apply qb_cc <;> assumption) | (apply qq_cc <;> assumption)) ?_
      refine Tr.n (by simp [qbw_v]) ?_
      rw [Tr.val_ok, wrap64 (i := (i : Int) + 1) (by omega) (by omega)]; rfl
    · show (qbg_4_step A A (A.length : Int)).val = _
      refine Tr.n (by simp) ?_
      rfl
  · cases h
theorem qbg_is4 : LoopIs tab FT D48 live 18 qbg_lo 0 4 := by
  refine loop_told (sl := qbg_4_sl) (step := qbg_4_st) (out := qbg_4_out) (lor := qbg_lo4) (fin := fun x => (qbg_4_fin (x.1) (x.2.1) (x.2.2))) (fun _ => rfl) ?_ (fun x n => qbg_4_r x.1 x.2.1 x.2.2 n) (fun x ow => qbg_4_h x.1 x.2.1 x.2.2 ow)
  intro s t h
  unfold qbg_lo4 at h
  split at h
  · cases h; exact ⟨(_, _, _), rfl, rfl⟩
  · cases h
def qbg_t (A C : LL) : Tr (Bool) := (.ite ((!((A.length : Int) == (C.length : Int))) = true) (.ok false)
  (.ite ((qbg_o4_1 A C (0 : Int)) = true) (.ok true)
   .no))
def qbg_mk (p : Bool) : Res := [(false, [⟨.bool, .sh, TC.b p⟩])]
def qbg_c (A C : LL) : Bool := is (A = C ∧ Typed tab (.slice 48) (.l A))
def qbg_v (A C : LL) : Bool := true
theorem qbg_l (A C : LL) : (qbg_c A C) = true → (qbg_t A C).val = some (qbg_v A C) := by
  intro h
  obtain ⟨rfl, ht⟩ := is_iff.1 h
  unfold qbg_t
  refine Tr.n (by simp) ?_
  refine Tr.t (by first | (apply is_true; and_intros <;> (first | rfl | assumption | (apply qh_cc <;> assumption) | (apply qc_cc <;> assumption) | (apply ql_cc <;> assumption) | (apply qo_cc <;> assumption) | (apply qj_cc <;> assumption) | (apply qe_cc <;> assumption) | (apply qm_cc <;> assumption) | (apply qs_cc <;> assumption) | (apply qg_cc <;> assumption) | (apply qn_cc <;> assumption) | (apply qb_cc <;> assumption) | (apply qq_cc <;> assumption) | (first | (apply is_true; and_intros <;> (first | rfl | assumption | (apply qh_cc <;> assumption) | (apply qc_cc <;> assumption) | (apply ql_cc <;> assumption) | (apply qo_cc <;> assumption) | (apply qj_cc <;> assumption) | (apply qe_cc <;> assumption) | (apply qm_cc <;> assumption) | (apply qs_cc <;> assumption) | (apply qg_cc <;> assumption) | (apply qn_cc <;> assumption) | (apply qb_cc <;> assumption) | (apply qq_cc <;> assumption) | (first | (apply is_true; and_intros <;> (first | rfl | assumption | (apply qh_cc <;> assumption) | (apply qc_cc <;> assumption) | (apply ql_cc <;> assumption) | (apply qo_cc <;> assumption) | (apply qj_cc <;> assumption) | (apply qe_cc <;> assumption) | (apply qm_cc <;> assumption) | (apply qs_cc <;> assumption) | (apply qg_cc <;> assumption) | (apply qn_cc <;> assumption) | (apply qb_cc <;> assumption) | (apply qq_cc <;> assumption) | (first | (apply is_true; and_intros <;> (first | rfl | assumption | (apply qh_cc <;> assumption) | (apply qc_cc <;> assumption) | (apply ql_cc <;> assumption) | (apply qo_cc <;> assumption) | (apply qj_cc <;> assumption) | (apply qe_cc <;> assumption) | (apply qm_cc <;> assumption) | (apply qs_cc <;> assumption) | (apply qg_cc <;> assumption) | (apply qn_cc <;> assumption) | (apply qb_cc <;> assumption) | (apply qq_cc <;> assumption))) | (apply qh_cc <;> assumption) | (apply qc_cc <;> assumption) | (apply ql_cc <;> assumption) | (apply qo_cc <;> assumption) | (apply qj_cc <;> assumption) | (apply qe_cc <;> assumption) | (apply qm_cc <;> assumption) | (apply qs_cc <;> assumption) | (apply qg_cc <;> assumption) | (apply qn_cc <;> assumption) | (apply qb_cc <;> assumption) | (apply qq_cc <;> assumption)))) | (apply qh_cc <;> assumption) | (apply qc_cc <;> assumption) | (apply ql_cc <;> assumption) | (apply qo_cc <;> assumption) | (apply qj_cc <;> assumption) | (apply qe_cc <;> assumption) | (apply qm_cc <;> assumption) | (apply qs_cc <;> assumption) | (apply qg_cc <;> assumption) | (apply qn_cc <;> assumption) | (apply qb_cc <;> assumption) | (apply qq_cc <;> assumption)))) | (apply qh_cc <;> assumption) | (apply qc_cc <;> assumption) | (apply ql_cc <;> assumption) | (apply qo_cc <;> assumption) | (apply qj_cc <;> assumption) | (apply qe_cc <;> assumption) | (apply qm_cc <;> assumption) | (apply qs_cc <;> assumption) | (apply qg_cc <;> assumption) | (apply qn_cc <;> assumption) | (apply qb_cc <;> assumption) | (apply qq_cc <;> assumption)))) | (apply qh_cc <;> assumption) | (apply qc_cc <;> assumption) | (apply ql_cc <;> assumption) | (apply qo_cc <;> assumption) | (apply qj_cc <;> assumption) | (apply qe_cc <;> assumption) | (apply qm_cc <;> assumption) | (apply qs_cc <;> assumption) | (apply qg_cc <;> assumption) | (apply qn_cc <;> assumption) | (apply qb_cc <;> assumption) | (apply qq_cc <;> assumption)) ?_
  rfl
def qbg_S : List Arg → Option (Bool × Res) := fun xs => match xs with
  | [(false, [(.slice 48, TC.l A)]), (false, [(.slice 48, TC.l C)])] => some ((qbg_c A C), qbg_mk (qbg_v A C))
  | _ => .none
theorem qbg_e (A C : LL) : runF tab FT D48 live 18 qbg_lo [(false, [(.slice 48, TC.l A)]), (false, [(.slice 48, TC.l C)])] = (qbg_t A C).run fun p => some (qbg_mk p) := by kernel_rfl
theorem qbg_s : ∀ xs r, qbg_S xs = some (true, r) → runF tab FT D48 live 18 qbg_lo xs = some r := by
  intro xs r h
  unfold qbg_S at h
  split at h
  · obtain ⟨h1, rfl⟩ := sp h
    exact fun_told (qbg_e ..) (qbg_l _ _) h1
  · cases h
def D49 : Dt := also D48 18 qbg_S
theorem d49 : DOk Go.Proofs.Tryd.prog tab D49 := d48.also mixed_ok tab_ok names_ok (fnLoops_one (by kernel_rfl) qbg_is4) qbg_s
abbrev qbe_4_σ := LL × LL × Int
abbrev qbe_4_ω := (Unit) ⊕ (Unit)
def qbe_4_step (A C : LL) (i : Int) : Tr (qbe_4_σ ⊕ qbe_4_ω) := (.ite ((decide (i < (A.length : Int))) = true) (.ite ((0 : Int) ≤ i ∧ i < (A.length : Int)) (.ite ((0 : Int) ≤ i ∧ i < (C.length : Int)) (.ite ((!((nth (row A i) 0).str == (nth (row C i) 0).str)) = true) (.ok (.inr (.inl ())))
     (.ok (.inl (A, C, (IntKind.wrap .i64 (i + (1 : Int)))))))
    .no)
   .no)
  (.ok (.inr (.inr ()))))
def qbe_4_st : qbe_4_σ → Tr (qbe_4_σ ⊕ qbe_4_ω) := fun x => (qbe_4_step (x.1) (x.2.1) (x.2.2))
def qbe_o4_1 (A C : LL) (i : Int) : Bool := is (A = C ∧ i = 0 ∧ Typed tab (.slice 9) (.l A))
def qbe_4_fin (A C : LL) (i : Int) : Told qbe_4_ω := (.leaf (qbe_o4_1 A C i) (.inr ()))
def qbe_4_sl (x : qbe_4_σ) : List Slot := [⟨.val false [⟨.slice 9, .sh, TC.l (x.1)⟩], ⟨0, 0⟩⟩, ⟨.val false [⟨.slice 9, .sh, TC.l (x.2.1)⟩], ⟨0, 0⟩⟩, ⟨.val false [⟨.int .i64, .sh, TC.i (x.2.2)⟩], ⟨0, 0⟩⟩]
def qbe_4_out : qbe_4_ω → Ex × List Slot := (Sum.elim (fun x => (.ret, [⟨.val false [⟨.bool, .sh, TC.b false⟩], ⟨0, 0⟩⟩])) (fun x => (.exit 0, [Slot.none])))
def qbe_lo4 : List Slot → Option (Told (Ex × List Slot)) := fun s => match s with
  | [⟨.val false [⟨.slice 9, .sh, TC.l A⟩], ⟨0, 0⟩⟩, ⟨.val false [⟨.slice 9, .sh, TC.l C⟩], ⟨0, 0⟩⟩, ⟨.val false [⟨.int .i64, .sh, TC.i i⟩], ⟨0, 0⟩⟩] => some (((qbe_4_fin A C i)).map qbe_4_out)
  | _ => .none
def qbe_lo : LoopTeller := fun r s => bif Nat.beq r 4 then qbe_lo4 s else .none
theorem qbe_4_r (A C : LL) (i : Int) (fuel : Nat) : rounds (rnd tab FT D49 live 11 qbe_lo 0 4) leave (fuel + 1) (qbe_4_sl (A, C, i)) = ((qbe_4_step A C i)).run (goOn (fun s => rounds (rnd tab FT D49 live 11 qbe_lo 0 4) leave fuel (qbe_4_sl s)) fun w => some (qbe_4_out w)) := by kernel_rfl
theorem qbe_4_h (A C : LL) (i : Int) (ow : qbe_4_ω) : ((qbe_4_fin A C i)).val = some ow → ∃ fuel, loopN qbe_4_st fuel (A, C, i) = some ow := by
  intro h
  simp only [qbe_4_fin, Told.val] at h
  split at h
  · rename_i ho
    obtain ⟨rfl, rfl, ht⟩ := is_iff.1 ho
    cases h
    have hlen : A.length ≤ 140737488351232 := by have := typed_room ht; simp only [show (tab 9).bytes = 16 from rfl] at this; omega
    refine ⟨_, loopN_run (N := A.length) (fun i => (A, A, (i : Int))) (fun i hi => ?_) ?_ A.length 0 (by omega)⟩
    · have c0 : Typed tab (.str) (.s (nth (A.getD i []) 0).str) := typed_s (typed_cell ht (A.getD i []) (mem_getD hi) 0 (by decide))
      show (qbe_4_step A A (i : Int)).val = _
      unfold qbe_4_step
      refine Tr.t (by simp; omega) ?_
      refine Tr.t (by constructor <;> omega) ?_
      refine Tr.t (by constructor <;> omega) ?_
      refine Tr.n (by simp) ?_
      rw [Tr.val_ok, wrap64 (i := (i : Int) + 1) (by omega) (by omega)]; rfl
    · show (qbe_4_step A A (A.length : Int)).val = _
      refine Tr.n (by simp) ?_
      rfl
  · cases h
theorem qbe_is4 : LoopIs tab FT D49 live 11 qbe_lo 0 4 := by
  refine loop_told (sl := qbe_4_sl) (step := qbe_4_st) (out := qbe_4_out) (lor := qbe_lo4) (fin := fun x => (qbe_4_fin (x.1) (x.2.1) (x.2.2))) (fun _ => rfl) ?_ (fun x n => qbe_4_r x.1 x.2.1 x.2.2 n) (fun x ow => qbe_4_h x.1 x.2.1 x.2.2 ow)
  intro s t h
  unfold qbe_lo4 at h
  split at h
  · cases h; exact ⟨(_, _, _), rfl, rfl⟩
  · cases h
def qbe_t (A C : LL) : Tr (Bool) := (.ite ((!((A.length : Int) == (C.length : Int))) = true) (.ok false)
  (.ite ((qbe_o4_1 A C (0 : Int)) = true) (.ok true)
   .no))
def qbe_mk (p : Bool) : Res := [(false, [⟨.bool, .sh, TC.b p⟩])]
def qbe_c (A C : LL) : Bool := is (A = C ∧ Typed tab (.slice 9) (.l A))
def qbe_v (A C : LL) : Bool := true
theorem qbe_l (A C : LL) : (qbe_c A C) = true → (qbe_t A C).val = some (qbe_v A C) := by
  intro h
  obtain ⟨rfl, ht⟩ := is_iff.1 h
  unfold qbe_t
  refine Tr.n (by simp) ?_
  refine Tr.t (by first | (apply is_true; and_intros <;> (first | rfl | assumption | (apply qh_cc <;> assumption) | (apply qc_cc <;> assumption) | (apply ql_cc <;> assumption) | (apply qo_cc <;> assumption) | (apply qj_cc <;> assumption) | (apply qe_cc <;> assumption) | (apply qm_cc <;> assumption) | (apply qs_cc <;> assumption) | (apply qg_cc <;> assumption) | (apply qn_cc <;> assumption) | (apply qb_cc <;> assumption) | (apply qq_cc <;> assumption) | (first | (apply is_true; and_intros <;> (first | rfl | assumption | (apply qh_cc <;> assumption) | (apply qc_cc <;> assumption) | (apply ql_cc <;> assumption) | (apply qo_cc <;> assumption) | (apply qj_cc <;> assumption) | (apply qe_cc <;> assumption) | (apply qm_cc <;> assumption) | (apply qs_cc <;> assumption) | (apply qg_cc <;> assumption) | (apply qn_cc <;> assumption) | (apply qb_cc <;> assumption) | (apply qq_cc <;> assumption) | (first | (apply is_true; and_intros <;> (first | rfl | assumption | (apply qh_cc <;> assumption) | (apply qc_cc <;> assumption) | (apply ql_cc <;> assumption) | (apply qo_cc <;> assumption) | (apply qj_cc <;> assumption) | (apply qe_cc <;> assumption) | (apply qm_cc <;> assumption) | (apply qs_cc <;> assumption) | (apply qg_cc <;> assumption) | (apply qn_cc <;> assumption) | (apply qb_cc <;> assumption) | (apply qq_cc <;> assumption) | (first | (apply is_true; and_intros <;> (first | rfl | assumption | (apply qh_cc <;> assumption) | (apply qc_cc <;> assumption) | (apply ql_cc <;> assumption) | (apply qo_cc <;> assumption) | (apply qj_cc <;> assumption) | (apply qe_cc <;> assumption) | (apply qm_cc <;> assumption) | (apply qs_cc <;> assumption) | (apply qg_cc <;> assumption) | (apply qn_cc <;> assumption) | (apply qb_cc <;> assumption) | (apply qq_cc <;> assumption))) | (apply qh_cc <;> assumption) | (apply qc_cc <;> assumption) | (apply ql_cc <;> assumption) | (apply qo_cc <;> assumption) | (apply qj_cc <;> assumption) | (apply qe_cc <;> assumption) | (apply qm_cc <;> assumption) | (apply qs_cc <;> assumption) | (apply qg_cc <;> assumption) | (apply qn_cc <;> assumption) | (apply qb_cc <;> assumption) | (apply qq_cc <;> assumption)))) | (apply qh_cc <;> assumption) | (apply qc_cc <;> assumption) | (apply ql_cc <;> assumption) | (apply qo_cc <;> assumption) | (apply qj_cc <;> assumption) | (apply qe_cc <;> assumption) | (apply qm_cc <;> assumption) | (apply qs_cc <;> assumption) | (apply qg_cc <;> assumption) | (apply qn_cc <;> assumption) | (apply qb_cc <;> assumption) | (apply qq_cc <;> assumption)))) | (apply qh_cc <;> assumption) | (apply qc_cc <;> assumption) | (apply ql_cc <;> assumption) | (apply qo_cc <;> assumption) | (apply qj_cc <;> assumption) | (apply qe_cc <;> assumption) | (apply qm_cc <;> assumption) | (apply qs_cc <;> assumption) | (apply qg_cc <;> assumption) | (apply qn_cc <;> assumption) | (apply qb_cc <;> assumption) | (apply qq_cc <;> assumption)))) | (apply qh_cc <;> assumption) | (apply qc_cc <;> assumption) | (apply ql_cc <;> assumption) | (apply qo_cc <;> assumption) | (apply qj_cc <;> assumption) | (apply qe_cc <;> assumption) | (apply qm_cc <;> assumption) | (apply qs_cc <;> assumption) | (apply qg_cc <;> assumption) | (apply qn_cc <;> assumption) | (apply qb_cc <;> assumption) | (apply qq_cc <;> assumption)) ?_
  rfl
end
end Go.Proofs.YthhmamgpcojooaaDoor.V
