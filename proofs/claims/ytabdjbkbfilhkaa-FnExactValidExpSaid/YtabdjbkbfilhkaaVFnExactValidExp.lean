/- What the functions of FnExactValidExp answer. No condition. -/
import Derived.Test.YtabdjbkbfilhkaaVFnExactValidExpP1
namespace Go.Proofs.Ytabdjbkbfilhkaa.V
open Go
set_option maxRecDepth 100000
set_option linter.unusedVariables false
set_option linter.unusedSectionVars false
set_option linter.unusedSimpArgs false
set_option maxHeartbeats 2000000
noncomputable section
section
variable [i_laws_szExp : qj_O]
variable [g_laws_szExp : qj_G]
section
variable [i_laws_toExp : qi_O]
variable [g_laws_toExp : qi_G]
section
variable [i_spec_l25Size : qd_O]
variable [g_spec_l25Size : qd_G]
theorem qa_is2 : LoopIs tab FT D25 live 63 qa_lo 0 2 := by
  refine loop_told (sl := qa_2_sl) (step := qa_2_st) (out := qa_2_out) (lor := qa_lo2) (fin := fun x => (qa_2_fin (x.1) (x.2.1) (x.2.2))) (fun _ => rfl) ?_ (fun x n => qa_2_r x.1 x.2.1 x.2.2 n) (fun x ow => qa_2_h x.1 x.2.1 x.2.2 ow)
  intro s t h
  unfold qa_lo2 at h
  split at h
  · cases h; exact ⟨(_, _, _), rfl, rfl⟩
  · cases h
def qa_t (A : LL) : Tr (Int) := (.ite ((qa_k2_1 A (A.length : Int) (0 : Int)) = true) (.ite ((qa_o2_2 A (A.length : Int) (0 : Int)) = true) (.ok (-1 : Int))
   .no)
  (.ite ((qa_o2_3 A (A.length : Int) (0 : Int)) = true) (.ok (qa_u2_3 A (A.length : Int) (0 : Int)))
   .no))
def qa_mk (p : Int) : Res := [(false, [⟨.int .i64, .sh, TC.i p⟩])]
def qa_c (A : LL) : Bool := is (Typed tab (.slice 59) (.l A))
def qa_v (A : LL) : Int := if (A.all (fun x => !(qv_v ((nth x 0).int) ((nth x 1).int) ((nth x 2).bool)))) = true then -1 else (Int.ofNat (A.findIdx fun x => !(fun x => !(qv_v ((nth x 0).int) ((nth x 1).int) ((nth x 2).bool))) x))
theorem qa_l (A : LL) : (qa_c A) = true → (qa_t A).val = some (qa_v A) := by
  intro h
  have ht := is_iff.1 h
  unfold qa_t
  cases hk : A.all (fun x => !(qv_v ((nth x 0).int) ((nth x 1).int) ((nth x 2).bool))) with
  | true =>
    refine Tr.t (show A.all (fun x => !(qv_v ((nth x 0).int) ((nth x 1).int) ((nth x 2).bool))) = true from hk) ?_
    refine Tr.t (is_true ⟨rfl, ht, rfl⟩) ?_
    show _ = some (qa_v A ); unfold qa_v; rw [if_pos hk]; rfl
  | false =>
    refine Tr.n (show ¬A.all (fun x => !(qv_v ((nth x 0).int) ((nth x 1).int) ((nth x 2).bool))) = true from by rw [hk]; simp) ?_
    refine Tr.t (is_true ⟨rfl, ht, rfl⟩) ?_
    show _ = some (qa_v A ); unfold qa_v; rw [if_neg (by rw [hk]; simp)]; rfl
def qa_S : List Arg → Option (Bool × Res) := fun xs => match xs with
  | [(false, [(.slice 59, TC.l A)]), (false, [(.func, TC.f 48 [])])] => some ((qa_c A), qa_mk (qa_v A))
  | _ => .none
theorem qa_e (A : LL) : runF tab FT D25 live 63 qa_lo [(false, [(.slice 59, TC.l A)]), (false, [(.func, TC.f 48 [])])] = (qa_t A).run fun p => some (qa_mk p) := by kernel_rfl
theorem qa_s : ∀ xs r, qa_S xs = some (true, r) → runF tab FT D25 live 63 qa_lo xs = some r := by
  intro xs r h
  unfold qa_S at h
  split at h
  · obtain ⟨h1, rfl⟩ := sp h
    exact fun_told (qa_e _) (qa_l _) h1
  · cases h
def D26 : Dt := also D25 63 qa_S
theorem d26 : DOk Go.Proofs.Try.prog tab D26 := d25.also mixed_ok tab_ok names_ok (fnLoops_one (by kernel_rfl) qa_is2) qa_s
def qk_t (A : LL) : Tr (Bool) := (.ite ((qa_c A) = true) (.ok (decide ((qa_v A) ≥ (0 : Int))))
  .no)
def qk_mk (p : Bool) : Res := [(false, [⟨.bool, .sh, TC.b p⟩])]
def qk_c (A : LL) : Bool := is (Typed tab (.slice 59) (.l A))
def qk_v (A : LL) : Bool := !(A.all (fun x => !(qv_v ((nth x 0).int) ((nth x 1).int) ((nth x 2).bool))))
theorem qk_l (A : LL) : (qk_c A) = true → (qk_t A).val = some (qk_v A) := by
  intro h
  have ht := is_iff.1 h
  unfold qk_t
  refine Tr.t (is_true ht) ?_
  show some (decide (qa_v A  ≥ 0)) = some (!(A.all (fun x => !(qv_v ((nth x 0).int) ((nth x 1).int) ((nth x 2).bool)))))
  unfold qa_v
  cases hk : A.all (fun x => !(qv_v ((nth x 0).int) ((nth x 1).int) ((nth x 2).bool))) <;> simp
def qk_S : List Arg → Option (Bool × Res) := fun xs => match xs with
  | [(false, [(.slice 59, TC.l A)]), (false, [(.func, TC.f 48 [])])] => some ((qk_c A), qk_mk (qk_v A))
  | _ => .none
theorem qk_e (A : LL) : runF tab FT D26 live 47 noLoops [(false, [(.slice 59, TC.l A)]), (false, [(.func, TC.f 48 [])])] = (qk_t A).run fun p => some (qk_mk p) := by kernel_rfl
theorem qk_s : ∀ xs r, qk_S xs = some (true, r) → runF tab FT D26 live 47 noLoops xs = some r := by
  intro xs r h
  unfold qk_S at h
  split at h
  · obtain ⟨h1, rfl⟩ := sp h
    exact fun_told (qk_e _) (qk_l _) h1
  · cases h
def D27 : Dt := also D26 47 qk_S
theorem d27 : DOk Go.Proofs.Try.prog tab D27 := d26.also mixed_ok tab_ok names_ok noLoops_ok qk_s
def qm_t (k n : Int) (tx : BS) (K R : LL) : Tr (Bool) := (.ite ((k == (1 : Int)) = true) (.ite ((qy_v n (0 : Int) (1000000000000 : Int)) = true) (.ite (((K.length : Int) == (0 : Int)) = true) (.ite ((n == n) = true) (.ite ((tx == []) = true) (.ok ((R.length : Int) == (0 : Int)))
      (.ok false))
     (.ok false))
    (.ok false))
   (.ok false))
  (.ite ((k == (2 : Int)) = true) (.ite ((qh_c tx) = true) (.ite ((qh_v tx) = true) (.ite (((K.length : Int) == (0 : Int)) = true) (.ite ((n == (0 : Int)) = true) (.ite ((tx == tx) = true) (.ok ((R.length : Int) == (0 : Int)))
        (.ok false))
       (.ok false))
      (.ok false))
     (.ok false))
    .no)
   (.ite ((k == (3 : Int)) = true) (.ite ((qbh_c tx K) = true) (.ite ((qbh_v tx K) = true) (.ite (((K.length : Int) == (K.length : Int)) = true) (.ite ((n == (0 : Int)) = true) (.ite ((tx == tx) = true) (.ok ((R.length : Int) == (0 : Int)))
         (.ok false))
        (.ok false))
       (.ok false))
      (.ok false))
     .no)
    (.ite ((k == (4 : Int)) = true) (.ite ((qy_v (R.length : Int) (1 : Int) (3 : Int)) = true) (.ite ((qk_c R) = true) (.ite ((!(qk_v R)) = true) (.ite (((K.length : Int) == (1 : Int)) = true) (.ite ((n == (0 : Int)) = true) (.ite ((tx == []) = true) (.ok ((R.length : Int) == (R.length : Int)))
           (.ok false))
          (.ok false))
         (.ok false))
        (.ok false))
       .no)
      (.ok false))
     (.ite ((k == (5 : Int)) = true) (.ite (((K.length : Int) == (1 : Int)) = true) (.ite ((n == (0 : Int)) = true) (.ite ((tx == []) = true) (.ok ((R.length : Int) == (0 : Int)))
         (.ok false))
        (.ok false))
       (.ok false))
      (.ite ((qy_v k (6 : Int) (16 : Int)) = true) (.ite (((K.length : Int) == (2 : Int)) = true) (.ite ((n == (0 : Int)) = true) (.ite ((tx == []) = true) (.ok ((R.length : Int) == (0 : Int)))
          (.ok false))
         (.ok false))
        (.ok false))
       (.ok false)))))))
def qm_mk (p : Bool) : Res := [(false, [⟨.bool, .sh, TC.b p⟩])]
def qm_c (k n : Int) (tx : BS) (K R : LL) : Bool := is (((qh_c tx) = true) ∧ ((qbh_c tx K) = true) ∧ ((qk_c R) = true))
def qm_v (k n : Int) (tx : BS) (K R : LL) : Bool := (bif (k == (1 : Int)) then (bif (qy_v n (0 : Int) (1000000000000 : Int)) then (bif ((K.length : Int) == (0 : Int)) then (bif (n == n) then (bif (tx == []) then ((R.length : Int) == (0 : Int)) else false) else false) else false) else false) else (bif (k == (2 : Int)) then (bif (qh_v tx) then (bif ((K.length : Int) == (0 : Int)) then (bif (n == (0 : Int)) then (bif (tx == tx) then ((R.length : Int) == (0 : Int)) else false) else false) else false) else false) else (bif (k == (3 : Int)) then (bif (qbh_v tx K) then (bif ((K.length : Int) == (K.length : Int)) then (bif (n == (0 : Int)) then (bif (tx == tx) then ((R.length : Int) == (0 : Int)) else false) else false) else false) else false) else (bif (k == (4 : Int)) then (bif (qy_v (R.length : Int) (1 : Int) (3 : Int)) then (bif (!(qk_v R)) then (bif ((K.length : Int) == (1 : Int)) then (bif (n == (0 : Int)) then (bif (tx == []) then ((R.length : Int) == (R.length : Int)) else false) else false) else false) else false) else false) else (bif (k == (5 : Int)) then (bif ((K.length : Int) == (1 : Int)) then (bif (n == (0 : Int)) then (bif (tx == []) then ((R.length : Int) == (0 : Int)) else false) else false) else false) else (bif (qy_v k (6 : Int) (16 : Int)) then (bif ((K.length : Int) == (2 : Int)) then (bif (n == (0 : Int)) then (bif (tx == []) then ((R.length : Int) == (0 : Int)) else false) else false) else false) else false))))))
theorem qm_l (k n : Int) (tx : BS) (K R : LL) : (qm_c k n tx K R) = true → (qm_t k n tx K R).val = some (qm_v k n tx K R) := by
  intro h
  obtain ⟨g0, g1, g2⟩ := is_iff.1 h
  unfold qm_t qm_v
  exact (Tr.s (Tr.s (Tr.s (Tr.s (Tr.s rfl rfl) rfl) rfl) rfl) (Tr.s (Tr.t g0 (Tr.s (Tr.s (Tr.s (Tr.s rfl rfl) rfl) rfl) rfl)) (Tr.s (Tr.t g1 (Tr.s (Tr.s (Tr.s (Tr.s rfl rfl) rfl) rfl) rfl)) (Tr.s (Tr.s (Tr.t g2 (Tr.s (Tr.s (Tr.s (Tr.s rfl rfl) rfl) rfl) rfl)) rfl) (Tr.s (Tr.s (Tr.s (Tr.s rfl rfl) rfl) rfl) (Tr.s (Tr.s (Tr.s (Tr.s rfl rfl) rfl) rfl) rfl))))))
def qm_S : List Arg → Option (Bool × Res) := fun xs => match xs with
  | [(true, [(.int .i64, TC.i k), (.int .i64, TC.i n), (.str, TC.s tx), (.slice 31, TC.l K), (.slice 59, TC.l R)])] => some ((qm_c k n tx K R), qm_mk (qm_v k n tx K R))
  | _ => .none
theorem qm_e (k n : Int) (tx : BS) (K R : LL) : runF tab FT D27 live 33 noLoops [(true, [(.int .i64, TC.i k), (.int .i64, TC.i n), (.str, TC.s tx), (.slice 31, TC.l K), (.slice 59, TC.l R)])] = (qm_t k n tx K R).run fun p => some (qm_mk p) := by kernel_rfl
theorem qm_s : ∀ xs r, qm_S xs = some (true, r) → runF tab FT D27 live 33 noLoops xs = some r := by
  intro xs r h
  unfold qm_S at h
  split at h
  · obtain ⟨h1, rfl⟩ := sp h
    exact fun_told (qm_e ..) (qm_l _ _ _ _ _) h1
  · cases h
def D28 : Dt := also D27 33 qm_S
theorem d28 : DOk Go.Proofs.Try.prog tab D28 := d27.also mixed_ok tab_ok names_ok noLoops_ok qm_s
theorem red_v (s : BS) : qu_v s = redS s := by
  have e : qu_v s = decide ((bif ([[TC.s [115, 117, 109]], [TC.s [109, 105, 110]], [TC.s [109, 97, 120]], [TC.s [99, 111, 117, 110, 116]]] : LL).all (fun x => !(s == (nth x 0).str)) then (-1 : Int) else qb_u2_3 [[TC.s [115, 117, 109]], [TC.s [109, 105, 110]], [TC.s [109, 97, 120]], [TC.s [99, 111, 117, 110, 116]]] s 4 0) ≥ 0) := rfl
  rw [e]
  have e2 : ([[TC.s [115, 117, 109]], [TC.s [109, 105, 110]], [TC.s [109, 97, 120]], [TC.s [99, 111, 117, 110, 116]]] : LL).all (fun x => !(s == (nth x 0).str)) = !(redS s) := by
    show (!(s == [115, 117, 109]) && (!(s == [109, 105, 110]) && (!(s == [109, 97, 120]) && (!(s == [99, 111, 117, 110, 116]) && true)))) = _
    unfold redS
    cases s == [115, 117, 109] <;> cases s == [109, 105, 110] <;> cases s == [109, 97, 120] <;> cases s == [99, 111, 117, 110, 116] <;> rfl
  rw [e2]
  cases redS s with
  | false => rfl
  | true =>
    have h0 : (qb_u2_3 [[TC.s [115, 117, 109]], [TC.s [109, 105, 110]], [TC.s [109, 97, 120]], [TC.s [99, 111, 117, 110, 116]]] s 4 0) ≥ 0 := Int.natCast_nonneg _
    show decide (qb_u2_3 _ s 4 0 ≥ 0) = true
    exact decide_eq_true h0
theorem red_c (s : BS) : qu_c s = true := by
  have ht : Typed tab (.slice 9) (.l [[TC.s [115, 117, 109]], [TC.s [109, 105, 110]], [TC.s [109, 97, 120]], [TC.s [99, 111, 117, 110, 116]]]) := by
    have hx : ∀ x, x ∈ ([[TC.s [115, 117, 109]], [TC.s [109, 105, 110]], [TC.s [109, 97, 120]], [TC.s [99, 111, 117, 110, 116]]] : LL) → ∃ l : BS, x = [TC.s l] ∧ l.length ≤ 5 := fun x hx => by
      simp only [List.mem_cons, List.not_mem_nil, or_false] at hx
      rcases hx with rfl | rfl | rfl | rfl <;> exact ⟨_, rfl, by decide⟩
    refine .slice _ _ (by decide) (by decide) (fun x hm => ?_) (fun x hm k hk => ?_)
    · obtain ⟨l, rfl, _⟩ := hx x hm; rfl
    · obtain ⟨l, rfl, hl⟩ := hx x hm
      have : k = 0 := by have : k < 1 := hk; omega
      subst this
      exact .str l (by show l.length ≤ 140737488351232; omega)
  show qb_c _ s = true
  exact is_true ⟨is_true ⟨rfl, ht, rfl⟩, is_true ⟨rfl, ht, rfl⟩⟩
theorem qm_cc {k n : Int} {tx : BS} {K R : LL} (t2 : Typed tab .str (.s tx)) (t3 : Typed tab (.slice 31) (.l K)) (t4 : Typed tab (.slice 59) (.l R)) : qm_c k n tx K R = true :=
  is_true ⟨qh_cc t2, is_true ⟨t3, typed_str_len t2, red_c tx⟩, is_true t4⟩
theorem qm_vv (k n : Int) (tx : BS) (K R : LL) : qm_v k n tx K R = nodeB k n tx K R := by
  have hin : ∀ a b c : Int, qy_v a b c = inX a b c := fun _ _ _ => rfl
  have hcall : qbh_v tx K = callB tx K := by
    show (bif qu_v tx then redK K else mapK tx K) = _
    rw [red_v]; rfl
  have hR : qk_v R = !(R.all ranB) := by
    unfold qk_v
    refine congrArg (fun b => !b) (congrArg (fun p => R.all p) (funext fun x => ?_))
    unfold qv_v
    rw [Bool.not_not]
    rfl
  unfold qm_v
  rw [hcall, hR, qh_vv]
  simp only [hin]
  unfold nodeB
  by_cases k1 : k = 1
  · subst k1
    rw [beq_self_eq_true n]
    cases inX n 0 1000000000000 <;> cases (tx == ([] : BS)) <;> cases ((K.length : Int) == 0) <;> cases ((R.length : Int) == 0) <;> rfl
  rw [show (k == 1) = false from by simpa using k1]
  by_cases k2 : k = 2
  · subst k2
    rw [beq_self_eq_true tx]
    cases (n == 0) <;> cases nameOk tx <;> cases ((K.length : Int) == 0) <;> cases ((R.length : Int) == 0) <;> rfl
  rw [show (k == 2) = false from by simpa using k2]
  by_cases k3 : k = 3
  · subst k3
    rw [beq_self_eq_true tx, beq_self_eq_true (K.length : Int)]
    cases (n == 0) <;> cases callB tx K <;> cases ((R.length : Int) == 0) <;> rfl
  rw [show (k == 3) = false from by simpa using k3]
  by_cases k4 : k = 4
  · subst k4
    rw [beq_self_eq_true (R.length : Int)]
    cases (n == 0) <;> cases inX (R.length : Int) 1 3 <;> cases R.all ranB <;> cases (tx == ([] : BS)) <;> cases ((K.length : Int) == 1) <;> rfl
  rw [show (k == 4) = false from by simpa using k4]
  by_cases k5 : k = 5
  · subst k5
    cases (n == 0) <;> cases ((R.length : Int) == 0) <;> cases (tx == ([] : BS)) <;> cases ((K.length : Int) == 1) <;> rfl
  rw [show (k == 5) = false from by simpa using k5]
  cases inX k 6 16 <;> cases (n == 0) <;> cases ((R.length : Int) == 0) <;> cases (tx == ([] : BS)) <;> cases ((K.length : Int) == 2) <;> rfl
section
class qc_O where n : Nat
variable [i_impl_Exp_count : qc_O]
def qc_rc (k n : Int) (tx : BS) (K R : LL) (left : Int) : Bool := is (rowsDep K < qc_O.n ∧ Typed tab (.slice 31) (.l K) ∧ Typed tab (.slice 59) (.l R) ∧ Typed tab .str (.s tx) ∧ 0 ≤ left ∧ left ≤ 40)
def qc_rv (k n : Int) (tx : BS) (K R : LL) (left : Int) : Int × Bool := cntV k n tx K R left
def qc_rmk (p : Int × Bool) : Res := [(false, [⟨.int .i64, .sh, TC.i (p.1)⟩]), (false, [⟨.bool, .sh, TC.b (p.2)⟩])]
def qc_rS : List Arg → Option (Bool × Res) := fun xs => match xs with
  | [(true, [(.int .i64, TC.i k), (.int .i64, TC.i n), (.str, TC.s tx), (.slice 31, TC.l K), (.slice 59, TC.l R)]), (false, [(.int .i64, TC.i left)])] => some ((qc_rc k n tx K R left), qc_rmk (qc_rv k n tx K R left))
  | _ => .none
def D29 : Dt := also D28 21 qc_rS
class qc_G : Prop where ok : DOk Go.Proofs.Try.prog tab D29
variable [g_impl_Exp_count : qc_G]
theorem d29 : DOk Go.Proofs.Try.prog tab D29 := qc_G.ok
abbrev qc_6_σ := Int × Int × Int × BS × LL × LL × LL × Int × Int
abbrev qc_6_ω := (Int) ⊕ (Int)
def qc_6_step (left k n : Int) (tx : BS) (K R Q : LL) (m i : Int) : Tr (qc_6_σ ⊕ qc_6_ω) := (.ite ((decide (i < m)) = true) (.ite ((0 : Int) ≤ i ∧ i < (Q.length : Int)) (.ite ((qc_rc ((nth (row Q i) 0).int) ((nth (row Q i) 1).int) ((nth (row Q i) 2).str) ((nth (row Q i) 3).list) ((nth (row Q i) 4).list) left) = true) (.ite ((!(qc_rv ((nth (row Q i) 0).int) ((nth (row Q i) 1).int) ((nth (row Q i) 2).str) ((nth (row Q i) 3).list) ((nth (row Q i) 4).list) left).2) = true) (.ok (.inr (.inl ((qc_rv ((nth (row Q i) 0).int) ((nth (row Q i) 1).int) ((nth (row Q i) 2).str) ((nth (row Q i) 3).list) ((nth (row Q i) 4).list) left).1))))
     (.ok (.inl ((qc_rv ((nth (row Q i) 0).int) ((nth (row Q i) 1).int) ((nth (row Q i) 2).str) ((nth (row Q i) 3).list) ((nth (row Q i) 4).list) left).1, k, n, tx, K, R, Q, m, (IntKind.wrap .i64 (i + (1 : Int)))))))
    .no)
   .no)
  (.ok (.inr (.inr left))))
def qc_6_st : qc_6_σ → Tr (qc_6_σ ⊕ qc_6_ω) := fun x => (qc_6_step (x.1) (x.2.1) (x.2.2.1) (x.2.2.2.1) (x.2.2.2.2.1) (x.2.2.2.2.2.1) (x.2.2.2.2.2.2.1) (x.2.2.2.2.2.2.2.1) (x.2.2.2.2.2.2.2.2))
def qc_k6_1 (left k n : Int) (tx : BS) (K R Q : LL) (m i : Int) : Bool := (Q.all okX && decide ((sumX Q : Int) ≤ left))
def qc_o6_2 (left k n : Int) (tx : BS) (K R Q : LL) (m i : Int) : Bool := is (i = 0 ∧ m = (Q.length : Int) ∧ Q.length ≤ 140737488355328 ∧ 0 ≤ left ∧ left ≤ 40 ∧ ∀ (x : List TC) (l : Int), x ∈ Q → 0 ≤ l → l ≤ 40 → qc_rc (nth x 0).int (nth x 1).int (nth x 2).str (nth x 3).list (nth x 4).list l = true)
def qc_u6_2 (left k n : Int) (tx : BS) (K R Q : LL) (m i : Int) : Int := left - (sumX Q : Int)
def qc_o6_3 (left k n : Int) (tx : BS) (K R Q : LL) (m i : Int) : Bool := (qc_o6_2 left k n tx K R Q m i)
def qc_u6_3 (left k n : Int) (tx : BS) (K R Q : LL) (m i : Int) : Int := (0 : Int)
def qc_6_fin (left k n : Int) (tx : BS) (K R Q : LL) (m i : Int) : Told qc_6_ω := (.br (qc_k6_1 left k n tx K R Q m i) (.leaf (qc_o6_2 left k n tx K R Q m i) (.inr (qc_u6_2 left k n tx K R Q m i))) (.leaf (qc_o6_3 left k n tx K R Q m i) (.inl (qc_u6_3 left k n tx K R Q m i))))
def qc_6_sl (x : qc_6_σ) : List Slot := [⟨.val false [⟨.int .i64, .sh, TC.i (x.1)⟩], ⟨0, 0⟩⟩, ⟨.bx 31 [⟨.int .i64, .sh, TC.i (x.2.1)⟩, ⟨.int .i64, .sh, TC.i (x.2.2.1)⟩, ⟨.str, .sh, TC.s (x.2.2.2.1)⟩, ⟨.slice 31, .sh, TC.l (x.2.2.2.2.1)⟩, ⟨.slice 59, .sh, TC.l (x.2.2.2.2.2.1)⟩], ⟨0, 0⟩⟩, ⟨.val false [⟨.slice 31, .sh, TC.l (x.2.2.2.2.2.2.1)⟩], ⟨0, 0⟩⟩, ⟨.val false [⟨.int .i64, .sh, TC.i (x.2.2.2.2.2.2.2.1)⟩], ⟨0, 0⟩⟩, ⟨.val false [⟨.int .i64, .sh, TC.i (x.2.2.2.2.2.2.2.2)⟩], ⟨0, 0⟩⟩]
def qc_6_out : qc_6_ω → Ex × List Slot := (Sum.elim (fun x => (.ret, [⟨.val false [⟨.int .i64, .sh, TC.i x⟩], ⟨0, 0⟩⟩, ⟨.val false [⟨.int .i64, .sh, TC.i (0 : Int)⟩], ⟨0, 0⟩⟩, ⟨.val false [⟨.bool, .sh, TC.b false⟩], ⟨0, 0⟩⟩])) (fun x => (.exit 0, [⟨.val false [⟨.int .i64, .sh, TC.i x⟩], ⟨0, 0⟩⟩, Slot.none, Slot.none])))
def qc_lo6 : List Slot → Option (Told (Ex × List Slot)) := fun s => match s with
  | [⟨.val false [⟨.int .i64, .sh, TC.i left⟩], ⟨0, 0⟩⟩, ⟨.bx 31 [⟨.int .i64, .sh, TC.i k⟩, ⟨.int .i64, .sh, TC.i n⟩, ⟨.str, .sh, TC.s tx⟩, ⟨.slice 31, .sh, TC.l K⟩, ⟨.slice 59, .sh, TC.l R⟩], ⟨0, 0⟩⟩, ⟨.val false [⟨.slice 31, .sh, TC.l Q⟩], ⟨0, 0⟩⟩, ⟨.val false [⟨.int .i64, .sh, TC.i m⟩], ⟨0, 0⟩⟩, ⟨.val false [⟨.int .i64, .sh, TC.i i⟩], ⟨0, 0⟩⟩] => some (((qc_6_fin left k n tx K R Q m i)).map qc_6_out)
  | _ => .none
def qc_lo : LoopTeller := fun r s => bif Nat.beq r 6 then qc_lo6 s else .none
theorem qc_6_r (left k n : Int) (tx : BS) (K R Q : LL) (m i : Int) (fuel : Nat) : rounds (rnd tab FT D29 live 21 qc_lo 0 6) leave (fuel + 1) (qc_6_sl (left, k, n, tx, K, R, Q, m, i)) = ((qc_6_step left k n tx K R Q m i)).run (goOn (fun s => rounds (rnd tab FT D29 live 21 qc_lo 0 6) leave fuel (qc_6_sl s)) fun w => some (qc_6_out w)) := by kernel_rfl
theorem qc_6_h (left k n : Int) (tx : BS) (K R Q : LL) (m i : Int) (ow : qc_6_ω) : ((qc_6_fin left k n tx K R Q m i)).val = some ow → ∃ fuel, loopN qc_6_st fuel (left, k, n, tx, K, R, Q, m, i) = some ow := by
  intro h
  refine auto_br (K := (Q.all okX && decide ((sumX Q : Int) ≤ left))) rfl (fun ho => ?_) h
  have ho := ho.elim id id
  obtain ⟨rfl, rfl, hlen, h0, h1, hr⟩ := is_iff.1 ho
  have key : ∀ (rest : LL) (j : Nat) (l : Int), Q.drop j = rest → 0 ≤ l → l ≤ 40 → ∃ M, loopN qc_6_st M (l, k, n, tx, K, R, Q, (Q.length : Int), (j : Int)) = some (bif (rest.all okX && decide ((sumX rest : Int) ≤ l)) then .inr (l - (sumX rest : Int)) else .inl (0 : Int)) := by
    intro rest
    induction rest with
    | nil =>
      intro j l hd h0 h1
      have hj : Q.length ≤ j := by have := congrArg List.length hd; rw [List.length_drop, List.length_nil] at this; omega
      refine ⟨1, loopN_end ?_⟩
      show (qc_6_step l k n tx K R Q (Q.length : Int) (j : Int)).val = _
      unfold qc_6_step
      refine Tr.n (by simp; omega) ?_
      rw [Tr.val_ok]
      have e : sumX [] = 0 := rfl
      rw [e, decide_eq_true (show ((0 : Nat) : Int) ≤ l by omega)]
      show some (Sum.inr (Sum.inr l)) = some (Sum.inr (Sum.inr (l - 0)))
      rw [Int.sub_zero]
    | cons x rest ih =>
      intro j l hd h0 h1
      obtain ⟨hj, hrow, hdr⟩ := row_drop hd
      have hx : x ∈ Q := by rw [← hrow, row_nat]; exact mem_getD hj
      have hst : (qc_6_step l k n tx K R Q (Q.length : Int) (j : Int)).val = (bif (okX x && decide ((numX x : Int) ≤ l)) then some (.inl (l - (numX x : Int), k, n, tx, K, R, Q, (Q.length : Int), ((j + 1 : Nat) : Int))) else some (.inr (.inl (0 : Int)))) := by
        unfold qc_6_step
        rw [hrow]
        refine Tr.t (by simp; omega) (Tr.t ⟨by omega, by omega⟩ (Tr.t (hr x l hx h0 h1) ?_))
        have ev : qc_rv (nth x 0).int (nth x 1).int (nth x 2).str (nth x 3).list (nth x 4).list l = bif (okX x && decide ((numX x : Int) ≤ l)) then (l - (numX x : Int), true) else (0, false) := rfl
        rw [ev]
        cases hc : (okX x && decide ((numX x : Int) ≤ l)) with
        | false => exact Tr.t rfl rfl
        | true =>
          refine Tr.n (by simp) ?_
          rw [Tr.val_ok, wrap64 (i := (j : Int) + 1) (by omega) (by omega)]
          rfl
      rw [List.all_cons, sumX_cons]
      cases hc : (okX x && decide ((numX x : Int) ≤ l)) with
      | false =>
        rw [hc] at hst
        refine ⟨1, (loopN_end hst).trans ?_⟩
        cases hox : okX x with
        | false => rfl
        | true =>
          rw [hox, Bool.true_and, decide_eq_false_iff_not] at hc
          rw [decide_eq_false (show ¬ ((numX x + sumX rest : Nat) : Int) ≤ l by omega), Bool.and_false]
          rfl
      | true =>
        rw [hc] at hst
        rw [Bool.and_eq_true, decide_eq_true_eq] at hc
        obtain ⟨M, hM⟩ := ih (j + 1) (l - (numX x : Int)) hdr (by omega) (by omega)
        refine ⟨M + 1, (loopN_next hst).trans (hM.trans ?_)⟩
        rw [hc.1, Bool.true_and]
        have e1 : decide (((numX x + sumX rest : Nat) : Int) ≤ l) = decide ((sumX rest : Int) ≤ l - (numX x : Int)) := decide_eq_decide.2 (by omega)
        have e2 : l - ((numX x + sumX rest : Nat) : Int) = l - (numX x : Int) - (sumX rest : Int) := by omega
        rw [e1, e2]
  exact key Q 0 left rfl h0 h1
theorem qc_is6 : LoopIs tab FT D29 live 21 qc_lo 0 6 := by
  refine loop_told (sl := qc_6_sl) (step := qc_6_st) (out := qc_6_out) (lor := qc_lo6) (fin := fun x => (qc_6_fin (x.1) (x.2.1) (x.2.2.1) (x.2.2.2.1) (x.2.2.2.2.1) (x.2.2.2.2.2.1) (x.2.2.2.2.2.2.1) (x.2.2.2.2.2.2.2.1) (x.2.2.2.2.2.2.2.2))) (fun _ => rfl) ?_ (fun x n => qc_6_r x.1 x.2.1 x.2.2.1 x.2.2.2.1 x.2.2.2.2.1 x.2.2.2.2.2.1 x.2.2.2.2.2.2.1 x.2.2.2.2.2.2.2.1 x.2.2.2.2.2.2.2.2 n) (fun x ow => qc_6_h x.1 x.2.1 x.2.2.1 x.2.2.2.1 x.2.2.2.2.1 x.2.2.2.2.2.1 x.2.2.2.2.2.2.1 x.2.2.2.2.2.2.2.1 x.2.2.2.2.2.2.2.2 ow)
  intro s t h
  unfold qc_lo6 at h
  split at h
  · cases h; exact ⟨(_, _, _, _, _, _, _, _, _), rfl, rfl⟩
  · cases h
def qc_t (k n : Int) (tx : BS) (K R : LL) (left : Int) : Tr (Int × Bool) := (.ite ((decide ((IntKind.wrap .i64 (left - (1 : Int))) < (0 : Int))) = true) (.ok ((0 : Int), false))
  (.ite ((qm_c k n tx K R) = true) (.ite ((!(qm_v k n tx K R)) = true) (.ok ((0 : Int), false))
    (.ite ((qc_k6_1 (IntKind.wrap .i64 (left - (1 : Int))) k n tx K R K (K.length : Int) (0 : Int)) = true) (.ite ((qc_o6_2 (IntKind.wrap .i64 (left - (1 : Int))) k n tx K R K (K.length : Int) (0 : Int)) = true) (.ok ((qc_u6_2 (IntKind.wrap .i64 (left - (1 : Int))) k n tx K R K (K.length : Int) (0 : Int)), true))
      .no)
     (.ite ((qc_o6_3 (IntKind.wrap .i64 (left - (1 : Int))) k n tx K R K (K.length : Int) (0 : Int)) = true) (.ok ((0 : Int), false))
      .no)))
   .no))
def qc_mk (p : Int × Bool) : Res := [(false, [⟨.int .i64, .sh, TC.i (p.1)⟩]), (false, [⟨.bool, .sh, TC.b (p.2)⟩])]
def qc_c (k n : Int) (tx : BS) (K R : LL) (left : Int) : Bool := (bif (decide ((IntKind.wrap .i64 (left - (1 : Int))) < (0 : Int))) then true else ((qm_c k n tx K R) && (bif (!(qm_v k n tx K R)) then true else (bif (qc_k6_1 (IntKind.wrap .i64 (left - (1 : Int))) k n tx K R K (K.length : Int) (0 : Int)) then ((qc_o6_2 (IntKind.wrap .i64 (left - (1 : Int))) k n tx K R K (K.length : Int) (0 : Int)) && true) else ((qc_o6_3 (IntKind.wrap .i64 (left - (1 : Int))) k n tx K R K (K.length : Int) (0 : Int)) && true)))))
def qc_v (k n : Int) (tx : BS) (K R : LL) (left : Int) : Int × Bool := (bif (decide ((IntKind.wrap .i64 (left - (1 : Int))) < (0 : Int))) then ((0 : Int), false) else (bif (!(qm_v k n tx K R)) then ((0 : Int), false) else (bif (qc_k6_1 (IntKind.wrap .i64 (left - (1 : Int))) k n tx K R K (K.length : Int) (0 : Int)) then ((qc_u6_2 (IntKind.wrap .i64 (left - (1 : Int))) k n tx K R K (K.length : Int) (0 : Int)), true) else ((0 : Int), false))))
theorem qc_l (k n : Int) (tx : BS) (K R : LL) (left : Int) : (qc_c k n tx K R left) = true → (qc_t k n tx K R left).val = some (qc_v k n tx K R left) := by
  unfold qc_t qc_v qc_c
  exact fun h => (Tr.ss h (fun h => rfl) (fun h => (Tr.gb h fun h => (Tr.ss h (fun h => rfl) (fun h => (Tr.ss h (fun h => (Tr.gb h fun h => rfl)) (fun h => (Tr.gb h fun h => rfl))))))))
theorem qc_e (k n : Int) (tx : BS) (K R : LL) (left : Int) : runF tab FT D29 live 21 qc_lo [(true, [(.int .i64, TC.i k), (.int .i64, TC.i n), (.str, TC.s tx), (.slice 31, TC.l K), (.slice 59, TC.l R)]), (false, [(.int .i64, TC.i left)])] = (qc_t k n tx K R left).run fun p => some (qc_mk p) := by kernel_rfl
theorem qc_nx (k n : Int) (tx : BS) (K R : LL) (left : Int) : is (rowsDep K < qc_O.n + 1 ∧ Typed tab (.slice 31) (.l K) ∧ Typed tab (.slice 59) (.l R) ∧ Typed tab .str (.s tx) ∧ 0 ≤ left ∧ left ≤ 40) = true → (qc_c k n tx K R left) = true ∧ (qc_v k n tx K R left) = cntV k n tx K R left := by
  intro h
  obtain ⟨hM, t3, t4, t2, h0, h1⟩ := is_iff.1 h
  have hf : qm_c k n tx K R = true := qm_cc t2 t3 t4
  have hl := typed_room t3
  simp only [show (tab 31).bytes = 80 from rfl] at hl
  have ho : ∀ l : Int, 0 ≤ l → l ≤ 40 → qc_o6_2 l k n tx K R K (K.length : Int) 0 = true ∧ qc_o6_3 l k n tx K R K (K.length : Int) 0 = true := fun l a b => by
    have h2 : (0 : Int) = 0 ∧ (K.length : Int) = (K.length : Int) ∧ K.length ≤ 140737488355328 ∧ 0 ≤ l ∧ l ≤ 40 ∧ ∀ (x : List TC) (l : Int), x ∈ K → 0 ≤ l → l ≤ 40 → qc_rc (nth x 0).int (nth x 1).int (nth x 2).str (nth x 3).list (nth x 4).list l = true := ⟨rfl, rfl, by omega, a, b, fun x l hx c d => is_true ⟨by have := dep_cell hx 3; omega, typed_list ((typed_elem t3 hx).2 3 (by decide)), typed_list ((typed_elem t3 hx).2 4 (by decide)), typed_s ((typed_elem t3 hx).2 2 (by decide)), c, d⟩⟩
    exact ⟨is_true h2, is_true h2⟩
  unfold qc_c qc_v cntV
  rw [qm_vv, okE_eq, numE_eq, wrap64 (i := left - 1) (by omega) (by omega)]
  by_cases h2 : left - 1 < 0
  · rw [decide_eq_true h2]
    refine ⟨rfl, ?_⟩
    rw [decide_eq_false (show ¬ ((1 + sumX K : Nat) : Int) ≤ left by omega), Bool.and_false]
    rfl
  · rw [decide_eq_false h2, hf]
    obtain ⟨o2, o3⟩ := ho (left - 1) (by omega) (by omega)
    rw [o2, o3]
    have ek : qc_k6_1 (left - 1) k n tx K R K (K.length : Int) 0 = (K.all okX && decide ((sumX K : Int) ≤ left - 1)) := rfl
    have eu : qc_u6_2 (left - 1) k n tx K R K (K.length : Int) 0 = left - 1 - (sumX K : Int) := rfl
    have e1 : decide (((1 + sumX K : Nat) : Int) ≤ left) = decide ((sumX K : Int) ≤ left - 1) := decide_eq_decide.2 (by omega)
    have e2 : left - ((1 + sumX K : Nat) : Int) = left - 1 - (sumX K : Int) := by omega
    rw [ek, eu, e1, e2]
    cases nodeB k n tx K R <;> cases K.all okX <;> cases decide ((sumX K : Int) ≤ left - 1) <;> exact ⟨rfl, rfl⟩
theorem qc_nxr (k n : Int) (tx : BS) (K R : LL) (left : Int) : qc_rc (i_impl_Exp_count := ⟨qc_O.n + 1⟩) k n tx K R left = true → (qc_c k n tx K R left) = true ∧ (qc_v k n tx K R left) = (qc_rv k n tx K R left) := fun h => qc_nx k n tx K R left h
theorem qc_rs : ∀ xs r, qc_rS (i_impl_Exp_count := ⟨qc_O.n + 1⟩) xs = some (true, r) → runF tab FT D29 live 21 qc_lo xs = some r := by
  intro xs r h
  unfold qc_rS at h
  split at h
  · obtain ⟨h1, rfl⟩ := sp h
    have hx := qc_nxr _ _ _ _ _ _ h1
    have ht := fun_told (qc_e ..) (qc_l _ _ _ _ _ _) hx.1
    rw [hx.2] at ht
    exact ht
  · cases h
theorem qc_step : qc_G (i_impl_Exp_count := ⟨qc_O.n + 1⟩) := by
  have h := DOk.also2 (S := qc_rS (i_impl_Exp_count := ⟨qc_O.n + 1⟩)) mixed_ok tab_ok names_ok d28 d29 (fnLoops_one (by kernel_rfl) qc_is6) qc_rs
  refine qc_G.mk (i_impl_Exp_count := ⟨qc_O.n + 1⟩) ?_
  exact h
def qbb_t (a0 a1 : Int) (a2 : BS) (a3 a4 : LL) : Tr (Bool) := (.ite ((qc_rc a0 a1 a2 a3 a4 (40 : Int)) = true) (.ok ((qc_rv a0 a1 a2 a3 a4 (40 : Int)).2))
  .no)
def qbb_mk (p : Bool) : Res := [(false, [⟨.bool, .sh, TC.b p⟩])]
def qbb_c (a0 a1 : Int) (a2 : BS) (a3 a4 : LL) : Bool := (qc_rc a0 a1 a2 a3 a4 (40 : Int))
def qbb_v (a0 a1 : Int) (a2 : BS) (a3 a4 : LL) : Bool := (qc_rv a0 a1 a2 a3 a4 (40 : Int)).2
theorem qbb_l (a0 a1 : Int) (a2 : BS) (a3 a4 : LL) : (qbb_c a0 a1 a2 a3 a4) = true → (qbb_t a0 a1 a2 a3 a4).val = some (qbb_v a0 a1 a2 a3 a4) := by
  intro h
  have hc0 : (qc_rc a0 a1 a2 a3 a4 (40 : Int)) = true := h
  unfold qbb_t
  exact (Tr.t hc0 rfl)
def qbb_S : List Arg → Option (Bool × Res) := fun xs => match xs with
  | [(true, [(.int .i64, TC.i a0), (.int .i64, TC.i a1), (.str, TC.s a2), (.slice 31, TC.l a3), (.slice 59, TC.l a4)])] => some ((qbb_c a0 a1 a2 a3 a4), qbb_mk (qbb_v a0 a1 a2 a3 a4))
  | _ => .none
theorem qbb_e (a0 a1 : Int) (a2 : BS) (a3 a4 : LL) : runF tab FT D29 live 8 noLoops [(true, [(.int .i64, TC.i a0), (.int .i64, TC.i a1), (.str, TC.s a2), (.slice 31, TC.l a3), (.slice 59, TC.l a4)])] = (qbb_t a0 a1 a2 a3 a4).run fun p => some (qbb_mk p) := by kernel_rfl
theorem qbb_s : ∀ xs r, qbb_S xs = some (true, r) → runF tab FT D29 live 8 noLoops xs = some r := by
  intro xs r h
  unfold qbb_S at h
  split at h
  · obtain ⟨h1, rfl⟩ := sp h
    exact fun_told (qbb_e ..) (qbb_l _ _ _ _ _) h1
  · cases h
def D30 : Dt := also D29 8 qbb_S
theorem d30 : DOk Go.Proofs.Try.prog tab D30 := d29.also mixed_ok tab_ok names_ok noLoops_ok qbb_s
section
class qr_O where n : Nat
variable [i_laws_eqExp : qr_O]
def qr_rc (x0 x1 : Int) (x2 : BS) (x3 x4 : LL) (y0 y1 : Int) (y2 : BS) (y3 y4 : LL) : Bool := is (rowsDep x3 < qr_O.n ∧ x0 = y0 ∧ x1 = y1 ∧ x2 = y2 ∧ x3 = y3 ∧ x4 = y4 ∧ Typed tab (.slice 31) (.l x3) ∧ Typed tab (.slice 59) (.l x4))
def qr_rv (x0 x1 : Int) (x2 : BS) (x3 x4 : LL) (y0 y1 : Int) (y2 : BS) (y3 y4 : LL) : Bool := true
def qr_rmk (p : Bool) : Res := [(false, [⟨.bool, .sh, TC.b p⟩])]
def qr_rS : List Arg → Option (Bool × Res) := fun xs => match xs with
  | [(true, [(.int .i64, TC.i x0), (.int .i64, TC.i x1), (.str, TC.s x2), (.slice 31, TC.l x3), (.slice 59, TC.l x4)]), (true, [(.int .i64, TC.i y0), (.int .i64, TC.i y1), (.str, TC.s y2), (.slice 31, TC.l y3), (.slice 59, TC.l y4)])] => some ((qr_rc x0 x1 x2 x3 x4 y0 y1 y2 y3 y4), qr_rmk (qr_rv x0 x1 x2 x3 x4 y0 y1 y2 y3 y4))
  | _ => .none
def D31 : Dt := also D30 9 qr_rS
class qr_G : Prop where ok : DOk Go.Proofs.Try.prog tab D31
variable [g_laws_eqExp : qr_G]
theorem d31 : DOk Go.Proofs.Try.prog tab D31 := qr_G.ok
abbrev qq_4_σ := LL × LL × Int
abbrev qq_4_ω := (Unit) ⊕ (Unit)
def qq_4_step (A C : LL) (i : Int) : Tr (qq_4_σ ⊕ qq_4_ω) := (.ite ((decide (i < (A.length : Int))) = true) (.ite ((0 : Int) ≤ i ∧ i < (A.length : Int)) (.ite ((0 : Int) ≤ i ∧ i < (C.length : Int)) (.ite ((qr_rc ((nth (row A i) 0).int) ((nth (row A i) 1).int) ((nth (row A i) 2).str) ((nth (row A i) 3).list) ((nth (row A i) 4).list) ((nth (row C i) 0).int) ((nth (row C i) 1).int) ((nth (row C i) 2).str) ((nth (row C i) 3).list) ((nth (row C i) 4).list)) = true) (.ite ((!(qr_rv ((nth (row A i) 0).int) ((nth (row A i) 1).int) ((nth (row A i) 2).str) ((nth (row A i) 3).list) ((nth (row A i) 4).list) ((nth (row C i) 0).int) ((nth (row C i) 1).int) ((nth (row C i) 2).str) ((nth (row C i) 3).list) ((nth (row C i) 4).list))) = true) (.ok (.inr (.inl ())))
      (.ok (.inl (A, C, (IntKind.wrap .i64 (i + (1 : Int)))))))
     .no)
    .no)
   .no)
  (.ok (.inr (.inr ()))))
def qq_4_st : qq_4_σ → Tr (qq_4_σ ⊕ qq_4_ω) := fun x => (qq_4_step (x.1) (x.2.1) (x.2.2))
def qq_o4_1 (A C : LL) (i : Int) : Bool := is (A = C ∧ Typed tab (.slice 31) (.l A) ∧ (∀ x : List TC, x ∈ A → (qr_rc ((nth x 0).int) ((nth x 1).int) ((nth x 2).str) ((nth x 3).list) ((nth x 4).list) ((nth x 0).int) ((nth x 1).int) ((nth x 2).str) ((nth x 3).list) ((nth x 4).list)) = true) ∧ i = 0)
def qq_4_fin (A C : LL) (i : Int) : Told qq_4_ω := (.leaf (qq_o4_1 A C i) (.inr ()))
def qq_4_sl (x : qq_4_σ) : List Slot := [⟨.val false [⟨.slice 31, .sh, TC.l (x.1)⟩], ⟨0, 0⟩⟩, ⟨.val false [⟨.slice 31, .sh, TC.l (x.2.1)⟩], ⟨0, 0⟩⟩, ⟨.val false [⟨.int .i64, .sh, TC.i (x.2.2)⟩], ⟨0, 0⟩⟩]
def qq_4_out : qq_4_ω → Ex × List Slot := (Sum.elim (fun x => (.ret, [⟨.val false [⟨.bool, .sh, TC.b false⟩], ⟨0, 0⟩⟩])) (fun x => (.exit 0, [Slot.none])))
def qq_lo4 : List Slot → Option (Told (Ex × List Slot)) := fun s => match s with
  | [⟨.val false [⟨.slice 31, .sh, TC.l A⟩], ⟨0, 0⟩⟩, ⟨.val false [⟨.slice 31, .sh, TC.l C⟩], ⟨0, 0⟩⟩, ⟨.val false [⟨.int .i64, .sh, TC.i i⟩], ⟨0, 0⟩⟩] => some (((qq_4_fin A C i)).map qq_4_out)
  | _ => .none
def qq_lo : LoopTeller := fun r s => bif Nat.beq r 4 then qq_lo4 s else .none
theorem qq_4_r (A C : LL) (i : Int) (fuel : Nat) : rounds (rnd tab FT D31 live 22 qq_lo 0 4) leave (fuel + 1) (qq_4_sl (A, C, i)) = ((qq_4_step A C i)).run (goOn (fun s => rounds (rnd tab FT D31 live 22 qq_lo 0 4) leave fuel (qq_4_sl s)) fun w => some (qq_4_out w)) := by kernel_rfl
theorem qq_4_h (A C : LL) (i : Int) (ow : qq_4_ω) : ((qq_4_fin A C i)).val = some ow → ∃ fuel, loopN qq_4_st fuel (A, C, i) = some ow := by
  intro h
  refine auto_leaf (R := Sum.inr ()) (fun ho => ?_) h
  obtain ⟨rfl, ht, hr0, rfl⟩ := is_iff.1 ho
  have hlen : A.length ≤ 140737488351232 := by have := typed_room ht; simp only [show (tab 31).bytes = 80 from rfl] at this; omega
  refine ⟨_, loopN_run (N := A.length) (fun i => (A, A, (i : Int))) (fun i hi => ?_) ?_ A.length 0 (by omega)⟩
  · have c2 : Typed tab (.str) (.s (nth (A.getD i []) 2).str) := typed_s (typed_cell ht (A.getD i []) (mem_getD hi) 2 (by decide))
    have c3 : Typed tab (.slice 31) (.l (nth (A.getD i []) 3).list) := typed_list (typed_cell ht (A.getD i []) (mem_getD hi) 3 (by decide))
    have c4 : Typed tab (.slice 59) (.l (nth (A.getD i []) 4).list) := typed_list (typed_cell ht (A.getD i []) (mem_getD hi) 4 (by decide))
    show (qq_4_step A A (i : Int)).val = _
    unfold qq_4_step
    refine Tr.t (by simp; omega) ?_
    refine Tr.t (by first | omega | (constructor <;> omega)) ?_
    refine Tr.t (by first | omega | (constructor <;> omega)) ?_
    refine Tr.t (hr0 (A.getD i []) (mem_getD hi)) ?_
    refine Tr.n (by simp [qc_rv, qr_rv, qj_rv, qi_rv, qd_rv]) ?_
    rw [Tr.val_ok, wrap64 (i := (i : Int) + 1) (by omega) (by omega)]; rfl
  · show (qq_4_step A A (A.length : Int)).val = _
    refine Tr.n (by simp) ?_
    rfl
theorem qq_is4 : LoopIs tab FT D31 live 22 qq_lo 0 4 := by
  refine loop_told (sl := qq_4_sl) (step := qq_4_st) (out := qq_4_out) (lor := qq_lo4) (fin := fun x => (qq_4_fin (x.1) (x.2.1) (x.2.2))) (fun _ => rfl) ?_ (fun x n => qq_4_r x.1 x.2.1 x.2.2 n) (fun x ow => qq_4_h x.1 x.2.1 x.2.2 ow)
  intro s t h
  unfold qq_lo4 at h
  split at h
  · cases h; exact ⟨(_, _, _), rfl, rfl⟩
  · cases h
def qq_t (A C : LL) : Tr (Bool) := (.ite ((!((A.length : Int) == (C.length : Int))) = true) (.ok false)
  (.ite ((qq_o4_1 A C (0 : Int)) = true) (.ok true)
   .no))
def qq_mk (p : Bool) : Res := [(false, [⟨.bool, .sh, TC.b p⟩])]
def qq_c (A C : LL) : Bool := is (A = C ∧ Typed tab (.slice 31) (.l A) ∧ (∀ x : List TC, x ∈ A → (qr_rc ((nth x 0).int) ((nth x 1).int) ((nth x 2).str) ((nth x 3).list) ((nth x 4).list) ((nth x 0).int) ((nth x 1).int) ((nth x 2).str) ((nth x 3).list) ((nth x 4).list)) = true))
def qq_v (A C : LL) : Bool := true
theorem qq_l (A C : LL) : (qq_c A C) = true → (qq_t A C).val = some (qq_v A C) := by
  intro h
  obtain ⟨rfl, ht, hr0⟩ := is_iff.1 h
  unfold qq_t
  refine Tr.n (by simp) ?_
  refine Tr.t (is_true ⟨rfl, ht, hr0, rfl⟩) ?_
  rfl
def qq_S : List Arg → Option (Bool × Res) := fun xs => match xs with
  | [(false, [(.slice 31, TC.l A)]), (false, [(.slice 31, TC.l C)])] => some ((qq_c A C), qq_mk (qq_v A C))
  | _ => .none
theorem qq_e (A C : LL) : runF tab FT D31 live 22 qq_lo [(false, [(.slice 31, TC.l A)]), (false, [(.slice 31, TC.l C)])] = (qq_t A C).run fun p => some (qq_mk p) := by kernel_rfl
theorem qq_s : ∀ xs r, qq_S xs = some (true, r) → runF tab FT D31 live 22 qq_lo xs = some r := by
  intro xs r h
  unfold qq_S at h
  split at h
  · obtain ⟨h1, rfl⟩ := sp h
    exact fun_told (qq_e ..) (qq_l _ _) h1
  · cases h
def D32 : Dt := also D31 22 qq_S
theorem d32 : DOk Go.Proofs.Try.prog tab D32 := d31.also mixed_ok tab_ok names_ok (fnLoops_one (by kernel_rfl) qq_is4) qq_s
def qbd_t (x0 x1 : Int) (x2 : Bool) (y0 y1 : Int) (y2 : Bool) : Tr (Bool) := (.ite ((!(x0 == y0)) = true) (.ok false)
  (.ite ((!(x1 == y1)) = true) (.ok false)
   (.ite ((!(x2 == y2)) = true) (.ok false)
    (.ok true))))
def qbd_mk (p : Bool) : Res := [(false, [⟨.bool, .sh, TC.b p⟩])]
def qbd_c (x0 x1 : Int) (x2 : Bool) (y0 y1 : Int) (y2 : Bool) : Bool := is (x0 = y0 ∧ x1 = y1 ∧ x2 = y2)
def qbd_v (x0 x1 : Int) (x2 : Bool) (y0 y1 : Int) (y2 : Bool) : Bool := true
theorem qbd_l (x0 x1 : Int) (x2 : Bool) (y0 y1 : Int) (y2 : Bool) : (qbd_c x0 x1 x2 y0 y1 y2) = true → (qbd_t x0 x1 x2 y0 y1 y2).val = some (qbd_v x0 x1 x2 y0 y1 y2) := by
  intro h
  obtain ⟨rfl, rfl, rfl⟩ := is_iff.1 h
  unfold qbd_t
  refine Tr.n (by simp) ?_
  refine Tr.n (by simp) ?_
  refine Tr.n (by simp) ?_
  rfl
def qbd_S : List Arg → Option (Bool × Res) := fun xs => match xs with
  | [(true, [(.int .i64, TC.i x0), (.int .i64, TC.i x1), (.bool, TC.b x2)]), (true, [(.int .i64, TC.i y0), (.int .i64, TC.i y1), (.bool, TC.b y2)])] => some ((qbd_c x0 x1 x2 y0 y1 y2), qbd_mk (qbd_v x0 x1 x2 y0 y1 y2))
  | _ => .none
theorem qbd_e (x0 x1 : Int) (x2 : Bool) (y0 y1 : Int) (y2 : Bool) : runF tab FT D32 live 34 noLoops [(true, [(.int .i64, TC.i x0), (.int .i64, TC.i x1), (.bool, TC.b x2)]), (true, [(.int .i64, TC.i y0), (.int .i64, TC.i y1), (.bool, TC.b y2)])] = (qbd_t x0 x1 x2 y0 y1 y2).run fun p => some (qbd_mk p) := by kernel_rfl
theorem qbd_s : ∀ xs r, qbd_S xs = some (true, r) → runF tab FT D32 live 34 noLoops xs = some r := by
  intro xs r h
  unfold qbd_S at h
  split at h
  · obtain ⟨h1, rfl⟩ := sp h
    exact fun_told (qbd_e ..) (qbd_l _ _ _ _ _ _) h1
  · cases h
def D33 : Dt := also D32 34 qbd_S
theorem d33 : DOk Go.Proofs.Try.prog tab D33 := d32.also mixed_ok tab_ok names_ok noLoops_ok qbd_s
abbrev qo_4_σ := LL × LL × Int
abbrev qo_4_ω := (Unit) ⊕ (Unit)
def qo_4_step (A C : LL) (i : Int) : Tr (qo_4_σ ⊕ qo_4_ω) := (.ite ((decide (i < (A.length : Int))) = true) (.ite ((0 : Int) ≤ i ∧ i < (A.length : Int)) (.ite ((0 : Int) ≤ i ∧ i < (C.length : Int)) (.ite ((qbd_c ((nth (row A i) 0).int) ((nth (row A i) 1).int) ((nth (row A i) 2).bool) ((nth (row C i) 0).int) ((nth (row C i) 1).int) ((nth (row C i) 2).bool)) = true) (.ite ((!(qbd_v ((nth (row A i) 0).int) ((nth (row A i) 1).int) ((nth (row A i) 2).bool) ((nth (row C i) 0).int) ((nth (row C i) 1).int) ((nth (row C i) 2).bool))) = true) (.ok (.inr (.inl ())))
      (.ok (.inl (A, C, (IntKind.wrap .i64 (i + (1 : Int)))))))
     .no)
    .no)
   .no)
  (.ok (.inr (.inr ()))))
def qo_4_st : qo_4_σ → Tr (qo_4_σ ⊕ qo_4_ω) := fun x => (qo_4_step (x.1) (x.2.1) (x.2.2))
def qo_o4_1 (A C : LL) (i : Int) : Bool := is (A = C ∧ Typed tab (.slice 59) (.l A) ∧ i = 0)
def qo_4_fin (A C : LL) (i : Int) : Told qo_4_ω := (.leaf (qo_o4_1 A C i) (.inr ()))
def qo_4_sl (x : qo_4_σ) : List Slot := [⟨.val false [⟨.slice 59, .sh, TC.l (x.1)⟩], ⟨0, 0⟩⟩, ⟨.val false [⟨.slice 59, .sh, TC.l (x.2.1)⟩], ⟨0, 0⟩⟩, ⟨.val false [⟨.int .i64, .sh, TC.i (x.2.2)⟩], ⟨0, 0⟩⟩]
def qo_4_out : qo_4_ω → Ex × List Slot := (Sum.elim (fun x => (.ret, [⟨.val false [⟨.bool, .sh, TC.b false⟩], ⟨0, 0⟩⟩])) (fun x => (.exit 0, [Slot.none])))
def qo_lo4 : List Slot → Option (Told (Ex × List Slot)) := fun s => match s with
  | [⟨.val false [⟨.slice 59, .sh, TC.l A⟩], ⟨0, 0⟩⟩, ⟨.val false [⟨.slice 59, .sh, TC.l C⟩], ⟨0, 0⟩⟩, ⟨.val false [⟨.int .i64, .sh, TC.i i⟩], ⟨0, 0⟩⟩] => some (((qo_4_fin A C i)).map qo_4_out)
  | _ => .none
def qo_lo : LoopTeller := fun r s => bif Nat.beq r 4 then qo_lo4 s else .none
theorem qo_4_r (A C : LL) (i : Int) (fuel : Nat) : rounds (rnd tab FT D33 live 23 qo_lo 0 4) leave (fuel + 1) (qo_4_sl (A, C, i)) = ((qo_4_step A C i)).run (goOn (fun s => rounds (rnd tab FT D33 live 23 qo_lo 0 4) leave fuel (qo_4_sl s)) fun w => some (qo_4_out w)) := by kernel_rfl
theorem qo_4_h (A C : LL) (i : Int) (ow : qo_4_ω) : ((qo_4_fin A C i)).val = some ow → ∃ fuel, loopN qo_4_st fuel (A, C, i) = some ow := by
  intro h
  refine auto_leaf (R := Sum.inr ()) (fun ho => ?_) h
  obtain ⟨rfl, ht, rfl⟩ := is_iff.1 ho
  have hlen : A.length ≤ 140737488351232 := by have := typed_room ht; simp only [show (tab 59).bytes = 24 from rfl] at this; omega
  refine ⟨_, loopN_run (N := A.length) (fun i => (A, A, (i : Int))) (fun i hi => ?_) ?_ A.length 0 (by omega)⟩
  · skip
    show (qo_4_step A A (i : Int)).val = _
    unfold qo_4_step
    refine Tr.t (by simp; omega) ?_
    refine Tr.t (by first | omega | (constructor <;> omega)) ?_
    refine Tr.t (by first | omega | (constructor <;> omega)) ?_
    refine Tr.t (by first | (apply is_true; and_intros <;> (first | rfl | assumption | (apply qg_cc <;> assumption) | (apply qf_cc <;> assumption) | (apply qh_cc <;> assumption) | (first | (apply is_true; and_intros <;> (first | rfl | assumption | (apply qg_cc <;> assumption) | (apply qf_cc <;> assumption) | (apply qh_cc <;> assumption) | (first | (apply is_true; and_intros <;> (first | rfl | assumption | (apply qg_cc <;> assumption) | (apply qf_cc <;> assumption) | (apply qh_cc <;> assumption) | (first | (apply is_true; and_intros <;> (first | rfl | assumption | (apply qg_cc <;> assumption) | (apply qf_cc <;> assumption) | (apply qh_cc <;> assumption))) | (apply qg_cc <;> assumption) | (apply qf_cc <;> assumption) | (apply qh_cc <;> assumption)))) | (apply qg_cc <;> assumption) | (apply qf_cc <;> assumption) | (apply qh_cc <;> assumption)))) | (apply qg_cc <;> assumption) | (apply qf_cc <;> assumption) | (apply qh_cc <;> assumption)))) | (apply qg_cc <;> assumption) | (apply qf_cc <;> assumption) | (apply qh_cc <;> assumption)) ?_
    refine Tr.n (by simp [qc_rv, qr_rv, qbd_v, qj_rv, qi_rv, qd_rv]) ?_
    rw [Tr.val_ok, wrap64 (i := (i : Int) + 1) (by omega) (by omega)]; rfl
  · show (qo_4_step A A (A.length : Int)).val = _
    refine Tr.n (by simp) ?_
    rfl
theorem qo_is4 : LoopIs tab FT D33 live 23 qo_lo 0 4 := by
  refine loop_told (sl := qo_4_sl) (step := qo_4_st) (out := qo_4_out) (lor := qo_lo4) (fin := fun x => (qo_4_fin (x.1) (x.2.1) (x.2.2))) (fun _ => rfl) ?_ (fun x n => qo_4_r x.1 x.2.1 x.2.2 n) (fun x ow => qo_4_h x.1 x.2.1 x.2.2 ow)
  intro s t h
  unfold qo_lo4 at h
  split at h
  · cases h; exact ⟨(_, _, _), rfl, rfl⟩
  · cases h
def qo_t (A C : LL) : Tr (Bool) := (.ite ((!((A.length : Int) == (C.length : Int))) = true) (.ok false)
  (.ite ((qo_o4_1 A C (0 : Int)) = true) (.ok true)
   .no))
def qo_mk (p : Bool) : Res := [(false, [⟨.bool, .sh, TC.b p⟩])]
def qo_c (A C : LL) : Bool := is (A = C ∧ Typed tab (.slice 59) (.l A))
def qo_v (A C : LL) : Bool := true
theorem qo_l (A C : LL) : (qo_c A C) = true → (qo_t A C).val = some (qo_v A C) := by
  intro h
  obtain ⟨rfl, ht⟩ := is_iff.1 h
  unfold qo_t
  refine Tr.n (by simp) ?_
  refine Tr.t (is_true ⟨rfl, ht, rfl⟩) ?_
  rfl
def qo_S : List Arg → Option (Bool × Res) := fun xs => match xs with
  | [(false, [(.slice 59, TC.l A)]), (false, [(.slice 59, TC.l C)])] => some ((qo_c A C), qo_mk (qo_v A C))
  | _ => .none
theorem qo_e (A C : LL) : runF tab FT D33 live 23 qo_lo [(false, [(.slice 59, TC.l A)]), (false, [(.slice 59, TC.l C)])] = (qo_t A C).run fun p => some (qo_mk p) := by kernel_rfl
theorem qo_s : ∀ xs r, qo_S xs = some (true, r) → runF tab FT D33 live 23 qo_lo xs = some r := by
  intro xs r h
  unfold qo_S at h
  split at h
  · obtain ⟨h1, rfl⟩ := sp h
    exact fun_told (qo_e ..) (qo_l _ _) h1
  · cases h
def D34 : Dt := also D33 23 qo_S
theorem d34 : DOk Go.Proofs.Try.prog tab D34 := d33.also mixed_ok tab_ok names_ok (fnLoops_one (by kernel_rfl) qo_is4) qo_s
def qr_t (x0 x1 : Int) (x2 : BS) (x3 x4 : LL) (y0 y1 : Int) (y2 : BS) (y3 y4 : LL) : Tr (Bool) := (.ite ((!(x0 == y0)) = true) (.ok false)
  (.ite ((!(x1 == y1)) = true) (.ok false)
   (.ite ((!(x2 == y2)) = true) (.ok false)
    (.ite ((qq_c x3 y3) = true) (.ite ((!(qq_v x3 y3)) = true) (.ok false)
      (.ite ((qo_c x4 y4) = true) (.ite ((!(qo_v x4 y4)) = true) (.ok false)
        (.ok true))
       .no))
     .no))))
def qr_mk (p : Bool) : Res := [(false, [⟨.bool, .sh, TC.b p⟩])]
def qr_c (x0 x1 : Int) (x2 : BS) (x3 x4 : LL) (y0 y1 : Int) (y2 : BS) (y3 y4 : LL) : Bool := (bif (!(x0 == y0)) then true else (bif (!(x1 == y1)) then true else (bif (!(x2 == y2)) then true else ((qq_c x3 y3) && (bif (!(qq_v x3 y3)) then true else ((qo_c x4 y4) && (bif (!(qo_v x4 y4)) then true else true)))))))
def qr_v (x0 x1 : Int) (x2 : BS) (x3 x4 : LL) (y0 y1 : Int) (y2 : BS) (y3 y4 : LL) : Bool := (bif (!(x0 == y0)) then false else (bif (!(x1 == y1)) then false else (bif (!(x2 == y2)) then false else (bif (!(qq_v x3 y3)) then false else (bif (!(qo_v x4 y4)) then false else true)))))
theorem qr_l (x0 x1 : Int) (x2 : BS) (x3 x4 : LL) (y0 y1 : Int) (y2 : BS) (y3 y4 : LL) : (qr_c x0 x1 x2 x3 x4 y0 y1 y2 y3 y4) = true → (qr_t x0 x1 x2 x3 x4 y0 y1 y2 y3 y4).val = some (qr_v x0 x1 x2 x3 x4 y0 y1 y2 y3 y4) := by
  unfold qr_t qr_v qr_c
  exact fun h => (Tr.ss h (fun h => rfl) (fun h => (Tr.ss h (fun h => rfl) (fun h => (Tr.ss h (fun h => rfl) (fun h => (Tr.gb h fun h => (Tr.ss h (fun h => rfl) (fun h => (Tr.gb h fun h => (Tr.ss h (fun h => rfl) (fun h => rfl))))))))))))
theorem qr_e (x0 x1 : Int) (x2 : BS) (x3 x4 : LL) (y0 y1 : Int) (y2 : BS) (y3 y4 : LL) : runF tab FT D34 live 9 noLoops [(true, [(.int .i64, TC.i x0), (.int .i64, TC.i x1), (.str, TC.s x2), (.slice 31, TC.l x3), (.slice 59, TC.l x4)]), (true, [(.int .i64, TC.i y0), (.int .i64, TC.i y1), (.str, TC.s y2), (.slice 31, TC.l y3), (.slice 59, TC.l y4)])] = (qr_t x0 x1 x2 x3 x4 y0 y1 y2 y3 y4).run fun p => some (qr_mk p) := by kernel_rfl
theorem qr_nx (x0 x1 : Int) (x2 : BS) (x3 x4 : LL) (y0 y1 : Int) (y2 : BS) (y3 y4 : LL) : is (rowsDep x3 < qr_O.n + 1 ∧ x0 = y0 ∧ x1 = y1 ∧ x2 = y2 ∧ x3 = y3 ∧ x4 = y4 ∧ Typed tab (.slice 31) (.l x3) ∧ Typed tab (.slice 59) (.l x4)) = true → (qr_c x0 x1 x2 x3 x4 y0 y1 y2 y3 y4) = true ∧ (qr_v x0 x1 x2 x3 x4 y0 y1 y2 y3 y4) = true := by
  intro h
  obtain ⟨hM, rfl, rfl, rfl, rfl, rfl, t3, t4⟩ := is_iff.1 h
  have c4 : qo_c x4 x4 = true := is_true ⟨rfl, t4⟩
  have c3 : qq_c x3 x3 = true := is_true ⟨rfl, t3, fun x hx => is_true ⟨by have a := dep_cell hx 3; omega, rfl, rfl, rfl, rfl, rfl, typed_list ((typed_elem t3 hx).2 3 (by decide)), typed_list ((typed_elem t3 hx).2 4 (by decide))⟩⟩
  constructor
  · unfold qr_c
    simp only [c3, c4, qq_v, qo_v, beq_self_eq_true, Bool.not_true, cond_false, Bool.and_self]
  · unfold qr_v
    simp only [qq_v, qo_v, beq_self_eq_true, Bool.not_true, cond_false]
theorem qr_nxr (x0 x1 : Int) (x2 : BS) (x3 x4 : LL) (y0 y1 : Int) (y2 : BS) (y3 y4 : LL) : qr_rc (i_laws_eqExp := ⟨qr_O.n + 1⟩) x0 x1 x2 x3 x4 y0 y1 y2 y3 y4 = true → (qr_c x0 x1 x2 x3 x4 y0 y1 y2 y3 y4) = true ∧ (qr_v x0 x1 x2 x3 x4 y0 y1 y2 y3 y4) = (qr_rv x0 x1 x2 x3 x4 y0 y1 y2 y3 y4) := fun h => qr_nx x0 x1 x2 x3 x4 y0 y1 y2 y3 y4 h
theorem qr_rs : ∀ xs r, qr_rS (i_laws_eqExp := ⟨qr_O.n + 1⟩) xs = some (true, r) → runF tab FT D34 live 9 noLoops xs = some r := by
  intro xs r h
  unfold qr_rS at h
  split at h
  · obtain ⟨h1, rfl⟩ := sp h
    have hx := qr_nxr _ _ _ _ _ _ _ _ _ _ h1
    have ht := fun_told (qr_e ..) (qr_l _ _ _ _ _ _ _ _ _ _) hx.1
    rw [hx.2] at ht
    exact ht
  · cases h
theorem qr_step : qr_G (i_laws_eqExp := ⟨qr_O.n + 1⟩) := by
  have h := DOk.also2 (S := qr_rS (i_laws_eqExp := ⟨qr_O.n + 1⟩)) mixed_ok tab_ok names_ok d30 d34 noLoops_ok qr_rs
  refine qr_G.mk (i_laws_eqExp := ⟨qr_O.n + 1⟩) ?_
  exact h
def laws_FnExactValidExp_t (x0 x1 : Int) (x2 : BS) (x3 x4 : LL) : Tr Bool := (.ite ((qj_rc x0 x1 x2 x3 x4 (1048576 : Int)) = true) (.ite ((decide ((qj_rv x0 x1 x2 x3 x4 (1048576 : Int)) < (0 : Int))) = true) (.ok true)
   (.ite ((qi_rc x0 x1 x2 x3 x4) = true) (.ite ((qbc_c ((qi_rv x0 x1 x2 x3 x4).1) ((qi_rv x0 x1 x2 x3 x4).2.1) ((qi_rv x0 x1 x2 x3 x4).2.2.1) ((qi_rv x0 x1 x2 x3 x4).2.2.2.1) ((qi_rv x0 x1 x2 x3 x4).2.2.2.2)) = true) (.ite ((qi_rc x0 x1 x2 x3 x4) = true) (.ite ((qbb_c ((qi_rv x0 x1 x2 x3 x4).1) ((qi_rv x0 x1 x2 x3 x4).2.1) ((qi_rv x0 x1 x2 x3 x4).2.2.1) ((qi_rv x0 x1 x2 x3 x4).2.2.2.1) ((qi_rv x0 x1 x2 x3 x4).2.2.2.2)) = true) (.ite ((!((qbb_v ((qi_rv x0 x1 x2 x3 x4).1) ((qi_rv x0 x1 x2 x3 x4).2.1) ((qi_rv x0 x1 x2 x3 x4).2.2.1) ((qi_rv x0 x1 x2 x3 x4).2.2.2.1) ((qi_rv x0 x1 x2 x3 x4).2.2.2.2)) == (qbc_v ((qi_rv x0 x1 x2 x3 x4).1) ((qi_rv x0 x1 x2 x3 x4).2.1) ((qi_rv x0 x1 x2 x3 x4).2.2.1) ((qi_rv x0 x1 x2 x3 x4).2.2.2.1) ((qi_rv x0 x1 x2 x3 x4).2.2.2.2)))) = true) (.ok false)
        (.ite ((qi_rc x0 x1 x2 x3 x4) = true) (.ite ((qr_rc ((qi_rv x0 x1 x2 x3 x4).1) ((qi_rv x0 x1 x2 x3 x4).2.1) ((qi_rv x0 x1 x2 x3 x4).2.2.1) ((qi_rv x0 x1 x2 x3 x4).2.2.2.1) ((qi_rv x0 x1 x2 x3 x4).2.2.2.2) ((qi_rv x0 x1 x2 x3 x4).1) ((qi_rv x0 x1 x2 x3 x4).2.1) ((qi_rv x0 x1 x2 x3 x4).2.2.1) ((qi_rv x0 x1 x2 x3 x4).2.2.2.1) ((qi_rv x0 x1 x2 x3 x4).2.2.2.2)) = true) (.ite ((!(qr_rv ((qi_rv x0 x1 x2 x3 x4).1) ((qi_rv x0 x1 x2 x3 x4).2.1) ((qi_rv x0 x1 x2 x3 x4).2.2.1) ((qi_rv x0 x1 x2 x3 x4).2.2.2.1) ((qi_rv x0 x1 x2 x3 x4).2.2.2.2) ((qi_rv x0 x1 x2 x3 x4).1) ((qi_rv x0 x1 x2 x3 x4).2.1) ((qi_rv x0 x1 x2 x3 x4).2.2.1) ((qi_rv x0 x1 x2 x3 x4).2.2.2.1) ((qi_rv x0 x1 x2 x3 x4).2.2.2.2))) = true) (.ok false)
           (.ok true))
          .no)
         .no))
       .no)
      .no)
     .no)
    .no))
  .no)
theorem laws_FnExactValidExp_e (x0 x1 : Int) (x2 : BS) (x3 x4 : LL) : runF tab FT D34 live 3 noLoops [(true, [(.int .i64, TC.i x0), (.int .i64, TC.i x1), (.str, TC.s x2), (.slice 25, TC.l x3), (.slice 61, TC.l x4)])] = (laws_FnExactValidExp_t x0 x1 x2 x3 x4).run fun p => some [(false, [⟨.bool, .sh, .b p⟩])] := by kernel_rfl
theorem tyArgsExp {A B : LL} (a3 : Typed tab (.slice 25) (.l A)) (a4 : Typed tab (.slice 61) (.l B)) : Typed tab (.slice 31) (.l A) ∧ Typed tab (.slice 59) (.l B) :=
  ⟨typed_iso iso_ok a3 (by decide), typed_iso iso_ok a4 (by decide)⟩
theorem eqExp_rv {x0 : Int} {x1 : Int} {x2 : BS} {x3 : LL} {x4 : LL} {y0 : Int} {y1 : Int} {y2 : BS} {y3 : LL} {y4 : LL} : ¬(!(qr_rv x0 x1 x2 x3 x4 y0 y1 y2 y3 y4)) = true := by
  show ¬(!true) = true
  decide
theorem valid_eq {k n : Int} {tx : BS} {K R : LL} : qbb_v k n tx K R = qbc_v k n tx K R := (sz_valid k n tx K R).symm
theorem laws_FnExactValidExp_p (x0 x1 : Int) (x2 : BS) (x3 x4 : LL) (h0 : Typed tab (.int .i64) (.i x0)) (h1 : Typed tab (.int .i64) (.i x1)) (h2 : Typed tab (.str) (.s x2)) (h3 : Typed tab (.slice 25) (.l x3)) (h4 : Typed tab (.slice 61) (.l x4)) (NN : Nat) (eN : NN = rowsDep x3 + rowsDep x4 + 1) (r_laws_szExp : ∀ (x0 x1 : Int) (x2 : BS) (x3 x4 : LL) (x5 : Int), rowsDep x3 < NN ∧ Typed tab (.slice 25) (.l x3) ∧ Typed tab (.slice 61) (.l x4) → (qj_rc x0 x1 x2 x3 x4 x5) = true) (b_laws_szExp : ∀ (x0 x1 : Int) (x2 : BS) (x3 x4 : LL) (x5 : Int), rowsDep x3 < NN ∧ Typed tab (.slice 25) (.l x3) ∧ Typed tab (.slice 61) (.l x4) → Typed tab .str (.s x2) → 0 ≤ x5 → x5 ≤ 1048576 → 0 ≤ qj_rv x0 x1 x2 x3 x4 x5 → qj_rv x0 x1 x2 x3 x4 x5 ≤ x5 ∧ (kdE x3 : Int) ≤ x5) (n_laws_toExp : NN ≤ qi_O.n) (n_spec_l25Size : NN ≤ qd_O.n) (n_impl_Exp_count : NN ≤ qc_O.n) (n_laws_eqExp : NN ≤ qr_O.n) : (laws_FnExactValidExp_t x0 x1 x2 x3 x4).val = some true := by
  have t3_31 := qp_ty h3
  have t4_59 := ql_ty h4
  obtain ⟨i3, i4⟩ := tyArgsExp h3 h4
  unfold laws_FnExactValidExp_t
  simp only [show qi_rv x0 x1 x2 x3 x4 = (x0, x1, x2, x3, x4) from rfl]
  refine Tr.t (by first | (exact r_laws_szExp _ _ _ _ _ _ ⟨by omega, h3, h4⟩)) ?_
  refine Tr.yk (fun hk0 => ?_)
  refine Tr.t (by first | (exact is_true ⟨by omega, h3, h4⟩)) ?_
  refine Tr.t (by first | (exact is_true ⟨by show rowsDep x3 < _; omega, i3, i4, h2, (by have hb := b_laws_szExp x0 x1 x2 x3 x4 1048576 ⟨by omega, h3, h4⟩ h2 (by decide) (by decide) (by have hk := hk0; simp only [decide_eq_true_eq] at hk; omega); show kdE x3 ≤ 1048576; omega)⟩)) ?_
  refine Tr.t (by first | (exact is_true ⟨by omega, h3, h4⟩)) ?_
  refine Tr.t (by first | (exact is_true ⟨by omega, i3, i4, h2, by decide, by decide⟩)) ?_
  refine Tr.n (by first | (exact eqExp_rv) | ((rw [valid_eq]; simp))) ?_
  refine Tr.t (by first | (exact is_true ⟨by omega, h3, h4⟩)) ?_
  refine Tr.t (by first | (exact is_true ⟨by omega, rfl, rfl, rfl, rfl, rfl, i3, i4⟩)) ?_
  refine Tr.n (by first | (exact eqExp_rv) | ((rw [valid_eq]; simp))) ?_
  rfl
end
theorem qr_none : ∀ xs r, qr_rS (i_laws_eqExp := ⟨0⟩) xs ≠ some (true, r) := by
  intro xs r h
  unfold qr_rS at h
  split at h
  · simp only [Option.some.injEq, Prod.mk.injEq] at h
    have h1 := is_iff.1 h.1
    exact absurd h1.1 (Nat.not_lt_zero _)
  · cases h
theorem qr_good : ∀ n : Nat, qr_G (i_laws_eqExp := ⟨n⟩) := by
  intro n
  induction n with
  | zero => exact qr_G.mk (i_laws_eqExp := ⟨0⟩) (DOk.also0 d30 qr_none)
  | succ n ih => exact qr_step (i_laws_eqExp := ⟨n⟩) (g_laws_eqExp := ih)
end
theorem qc_none : ∀ xs r, qc_rS (i_impl_Exp_count := ⟨0⟩) xs ≠ some (true, r) := by
  intro xs r h
  unfold qc_rS at h
  split at h
  · simp only [Option.some.injEq, Prod.mk.injEq] at h
    have h1 := is_iff.1 h.1
    exact absurd h1.1 (Nat.not_lt_zero _)
  · cases h
theorem qc_good : ∀ n : Nat, qc_G (i_impl_Exp_count := ⟨n⟩) := by
  intro n
  induction n with
  | zero => exact qc_G.mk (i_impl_Exp_count := ⟨0⟩) (DOk.also0 d28 qc_none)
  | succ n ih => exact qc_step (i_impl_Exp_count := ⟨n⟩) (g_impl_Exp_count := ih)
end
theorem qd_none : ∀ xs r, qd_rS (i_spec_l25Size := ⟨0⟩) xs ≠ some (true, r) := by
  intro xs r h
  unfold qd_rS at h
  split at h
  · simp only [Option.some.injEq, Prod.mk.injEq] at h
    have h1 := is_iff.1 h.1
    exact absurd h1.1 (Nat.not_lt_zero _)
  · cases h
theorem qd_good : ∀ n : Nat, qd_G (i_spec_l25Size := ⟨n⟩) := by
  intro n
  induction n with
  | zero => exact qd_G.mk (i_spec_l25Size := ⟨0⟩) (DOk.also0 d14 qd_none)
  | succ n ih => exact qd_step (i_spec_l25Size := ⟨n⟩) (g_spec_l25Size := ih)
end
theorem qi_none : ∀ xs r, qi_rS (i_laws_toExp := ⟨0⟩) xs ≠ some (true, r) := by
  intro xs r h
  unfold qi_rS at h
  split at h
  · simp only [Option.some.injEq, Prod.mk.injEq] at h
    have h1 := is_iff.1 h.1
    exact absurd h1.1 (Nat.not_lt_zero _)
  · cases h
theorem qi_good : ∀ n : Nat, qi_G (i_laws_toExp := ⟨n⟩) := by
  intro n
  induction n with
  | zero => exact qi_G.mk (i_laws_toExp := ⟨0⟩) (DOk.also0 d3 qi_none)
  | succ n ih => exact qi_step (i_laws_toExp := ⟨n⟩) (g_laws_toExp := ih)
end
@[reducible] noncomputable def qj_orc : Nat → qj_O
  | 0 => ⟨fun _ _ _ _ _ _ => (false, default)⟩
  | n + 1 => ⟨qj_next (i_laws_szExp := qj_orc n)⟩
theorem qj_none : ∀ xs r, qj_rS (i_laws_szExp := qj_orc 0) xs ≠ some (true, r) := by
  intro xs r h
  unfold qj_rS at h
  split at h
  · simp only [Option.some.injEq, Prod.mk.injEq] at h
    exact absurd h.1 (by show ¬(false = true); simp)
  · cases h
theorem qj_good : ∀ n, qj_G (i_laws_szExp := qj_orc n) := by
  intro n
  induction n with
  | zero => exact qj_G.mk (i_laws_szExp := qj_orc 0) (DOk.also0 d0 qj_none)
  | succ n ih => exact qj_step (i_laws_szExp := qj_orc n) (g_laws_szExp := ih)
theorem qj_hr : ∀ (n : Nat) (x0 x1 : Int) (x2 : BS) (x3 x4 : LL) (x5 : Int), rowsDep x3 < n ∧ Typed tab (.slice 25) (.l x3) ∧ Typed tab (.slice 61) (.l x4) → qj_rc (i_laws_szExp := qj_orc n) x0 x1 x2 x3 x4 x5 = true := by
  intro n
  induction n with
  | zero => intro x0 x1 x2 x3 x4 x5 h; exact absurd h.1 (Nat.not_lt_zero _)
  | succ n ih =>
    intro x0 x1 x2 x3 x4 x5 h
    exact qj_nx (i_laws_szExp := qj_orc n) (g_laws_szExp := qj_good n) n ih x0 x1 x2 x3 x4 x5 h
theorem qj_bd : ∀ n : Nat, ∀ (x0 x1 : Int) (x2 : BS) (x3 x4 : LL) (x5 : Int), rowsDep x3 < n ∧ Typed tab (.slice 25) (.l x3) ∧ Typed tab (.slice 61) (.l x4) → Typed tab .str (.s x2) → 0 ≤ x5 → x5 ≤ 1048576 → 0 ≤ qj_rv (i_laws_szExp := qj_orc n) x0 x1 x2 x3 x4 x5 → qj_rv (i_laws_szExp := qj_orc n) x0 x1 x2 x3 x4 x5 ≤ x5 ∧ (kdE x3 : Int) ≤ x5 := by
  intro n
  induction n with
  | zero => intro x0 x1 x2 x3 x4 x5 h; exact absurd h.1 (Nat.not_lt_zero _)
  | succ n ih =>
    intro x0 x1 x2 x3 x4 x5 h ht h0 h1 hv
    exact qj_bs (i_laws_szExp := qj_orc n) (g_laws_szExp := qj_good n) n (qj_hr n) ih x0 x1 x2 x3 x4 x5 h ht h0 h1 hv
theorem laws_FnExactValidExp_pure : ∀ xs, ArgsTyped tab [25] xs → ∃ (D : Dt) (lo : LoopTeller), DOk Go.Proofs.Try.prog tab D ∧ FnLoops tab (fun f => Go.Proofs.Try.prog.funcs[f]?) D live 3 lo ∧ runF tab (fun f => Go.Proofs.Try.prog.funcs[f]?) D live 3 lo xs = yes := by
  intro xs h
  cases h with | cons l0 g0 h =>
  obtain ⟨z0_0, z0_1, z0_2, z0_3, z0_4, rfl⟩ := len_5 l0
  have q0 := g0 0 (by decide)
  have q0 : Typed tab (.int .i64) z0_0 := q0
  obtain ⟨y0, rfl⟩ := typed_int q0
  have q1 := g0 1 (by decide)
  have q1 : Typed tab (.int .i64) z0_1 := q1
  obtain ⟨y1, rfl⟩ := typed_int q1
  have q2 := g0 2 (by decide)
  have q2 : Typed tab (.str) z0_2 := q2
  obtain ⟨y2, rfl⟩ := typed_str q2
  have q3 := g0 3 (by decide)
  have q3 : Typed tab (.slice 25) z0_3 := q3
  obtain ⟨y3, rfl⟩ := typed_slice q3
  have q4 := g0 4 (by decide)
  have q4 : Typed tab (.slice 61) z0_4 := q4
  obtain ⟨y4, rfl⟩ := typed_slice q4
  cases h
  letI i_laws_szExp : qj_O := qj_orc (rowsDep y3 + rowsDep y4 + 1)
  letI g_laws_szExp : qj_G := qj_good (rowsDep y3 + rowsDep y4 + 1)
  letI i_laws_toExp : qi_O := ⟨rowsDep y3 + rowsDep y4 + 1⟩
  letI g_laws_toExp : qi_G := qi_good (rowsDep y3 + rowsDep y4 + 1)
  letI i_spec_l25Size : qd_O := ⟨rowsDep y3 + rowsDep y4 + 1⟩
  letI g_spec_l25Size : qd_G := qd_good (rowsDep y3 + rowsDep y4 + 1)
  letI i_impl_Exp_count : qc_O := ⟨rowsDep y3 + rowsDep y4 + 1⟩
  letI g_impl_Exp_count : qc_G := qc_good (rowsDep y3 + rowsDep y4 + 1)
  letI i_laws_eqExp : qr_O := ⟨rowsDep y3 + rowsDep y4 + 1⟩
  letI g_laws_eqExp : qr_G := qr_good (rowsDep y3 + rowsDep y4 + 1)
  refine ⟨D34, noLoops, d34, noLoops_ok, (laws_FnExactValidExp_e y0 y1 y2 y3 y4).trans ?_⟩
  rw [Tr.run_eq, laws_FnExactValidExp_p y0 y1 y2 y3 y4 q0 q1 q2 q3 q4 (rowsDep y3 + rowsDep y4 + 1) rfl (qj_hr (rowsDep y3 + rowsDep y4 + 1)) (qj_bd (rowsDep y3 + rowsDep y4 + 1)) (Nat.le_refl _) (Nat.le_refl _) (Nat.le_refl _) (Nat.le_refl _)]
  rfl
end
end Go.Proofs.Ytabdjbkbfilhkaa.V
