/- What the functions of FnExactForgetDataset answer. No condition. -/
import Derived.Test.YthhmamgpcojooaaVFacts
namespace Go.Proofs.Ythhmamgpcojooaa.V
open Go
set_option maxRecDepth 100000
set_option linter.unusedVariables false
set_option linter.unusedSectionVars false
set_option linter.unusedSimpArgs false
set_option maxHeartbeats 2000000
abbrev LL := List (List TC)
abbrev BS := List UInt8
def letterB (c : Int) : Bool := (decide (c ≥ 65) && decide (c ≤ 90)) || (decide (c ≥ 97) && decide (c ≤ 122))
def nameB (i c : Int) : Bool := letterB c || (!(i == 0) && ((decide (c ≥ 48) && decide (c ≤ 57)) || c == 95))
def nameOk (s : BS) : Bool := decide ((s.length : Int) ≥ 1) && decide ((s.length : Int) ≤ 12) && allI (fun i : Nat => nameB (i : Int) ((s.getD ((i : Int)).toNat 0).toNat : Int)) s.length
theorem dlt {a b : Int} : decide (a < b) = !decide (a ≥ b) := by rw [← decide_not]; simp
theorem dgt {a b : Int} : decide (a > b) = !decide (a ≤ b) := by rw [← decide_not]; simp
def inB (n lo hi : Int) : Bool := bif decide (n ≥ lo) then decide (n ≤ hi) else false
def dupB (A : LL) (ka kk : Int) (k : Int) : Bool := !(((nth (row A k) 0).int == ka) && ((nth (row A k) 1).int == kk))
def noDup (A : LL) (i : Int) : Bool := allI (fun k : Nat => dupB A (nth (row A i) 0).int (nth (row A i) 1).int (k : Int)) i.toNat
def slotOkR (x : List TC) : Bool := inB (nth x 0).int 1 255 && inB (nth x 1).int 0 4095 && inB ((nth x 2).str.length : Int) 1 512
def vslot (A : LL) (i : Int) : Bool := slotOkR (row A i) && noDup A i
def cacheOk (s : Int) (A : LL) (h m w : Int) : Bool := inB s 1 16 && decide ((A.length : Int) ≤ s) && (inB h 0 1000000 && inB m 0 1000000 && inB w 0 1000000) && allI (fun i : Nat => vslot A (i : Int)) A.length
def keepP (at_ : Int) (x : List TC) : Bool := !((nth x 0).int == at_)
theorem typed_filter {e : TypeId} {A : LL} {P : List TC → Bool} (h : Typed tab (.slice e) (.l A)) : Typed tab (.slice e) (.l (A.filter P)) := typed_sub h (fun _ hx => (List.mem_filter.1 hx).1) (List.length_filter_le _ _)
theorem foldI_filter {A : LL} {P : List TC → Bool} : foldI (fun i (a : LL) => bif P (row A (i : Int)) then a ++ [row A (i : Int)] else a) A.length [] = A.filter P := by
  have key : ∀ n, n ≤ A.length → foldI (fun i (a : LL) => bif P (row A (i : Int)) then a ++ [row A (i : Int)] else a) n [] = (A.take n).filter P := by
    intro n
    induction n with
    | zero => intro _; rfl
    | succ n ih =>
      intro hn
      rw [foldI_succ, ih (by omega), List.take_succ_eq_append_getElem (by omega), List.filter_append]
      have e : row A (n : Int) = A[n] := by rw [row_nat, getD_at (by omega)]
      rw [e]
      cases hP : P A[n] with
      | true => rw [List.filter_cons_of_pos hP]; rfl
      | false => rw [List.filter_cons_of_neg (by simp [hP])]; simp
  have := key A.length (Nat.le_refl _)
  rw [List.take_length] at this
  exact this
noncomputable def forgetV (sz : Int) (A : LL) (nh mi wr p : Int) : Int × LL × Int × Int × Int × Int := bif cacheOk sz A nh mi wr then (sz, A.filter (keepP p), nh, mi, wr, 0) else (0, [], 0, 0, 0, 1)
theorem forgetV_ty {e : TypeId} {sz : Int} {A : LL} {nh mi wr p : Int} (h : Typed tab (.slice e) (.l A)) : Typed tab (.slice e) (.l (forgetV sz A nh mi wr p).2.1) := by
  unfold forgetV
  cases cacheOk sz A nh mi wr with
  | true => exact typed_filter h
  | false => exact typed_sub (B := []) h (fun _ hx => by cases hx) (Nat.zero_le _)
def inR (lo hi : Int) (x : List TC) : Bool := bif decide ((nth x 0).int ≥ lo) then decide ((nth x 0).int ≤ hi) else false
def mulR (n : Int) (x : List TC) : Int := IntKind.wrap .i64 (n * (nth x 0).int)
def prodL (A : LL) : Int := A.foldl mulR 1
def delL (P : List TC → Bool) : LL → LL → Nat → LL × Nat
  | [], S, i => (S, i)
  | x :: xs, S, i => bif P x then delL P xs (S.set i x) (i + 1) else delL P xs S i
theorem delL_t {P : List TC → Bool} {x : List TC} {xs S : LL} {i : Nat} (h : P x = true) : delL P (x :: xs) S i = delL P xs (S.set i x) (i + 1) := by
  rw [delL, h]; rfl
theorem delL_f {P : List TC → Bool} {x : List TC} {xs S : LL} {i : Nat} (h : P x = false) : delL P (x :: xs) S i = delL P xs S i := by
  rw [delL, h]; rfl
theorem delL_ok (P : List TC → Bool) : ∀ (xs S : LL) (i : Nat), i + xs.length ≤ S.length → (delL P xs S i).1.take (delL P xs S i).2 = S.take i ++ xs.filter P ∧ (delL P xs S i).1.length = S.length ∧ (delL P xs S i).2 ≤ S.length
  | [], S, i, h => by
    refine ⟨by simp [delL], rfl, ?_⟩
    simp only [List.length_nil, Nat.add_zero] at h
    exact h
  | x :: xs, S, i, h => by
    simp only [List.length_cons] at h
    unfold delL
    cases hP : P x with
    | true =>
      obtain ⟨h1, h2, h3⟩ := delL_ok P xs (S.set i x) (i + 1) (by simp; omega)
      simp only [cond_true]
      refine ⟨?_, by rw [h2]; simp, by simpa using h3⟩
      rw [h1, List.filter_cons_of_pos hP, List.take_succ_eq_append_getElem (by simp; omega), List.getElem_set_self, List.take_set_of_le (Nat.le_refl i)]
      simp
    | false =>
      obtain ⟨h1, h2, h3⟩ := delL_ok P xs S i (by omega)
      simp only [cond_false]
      refine ⟨?_, h2, h3⟩
      rw [h1, List.filter_cons_of_neg (by simp [hP])]
theorem filter_split {P : List TC → Bool} {A : LL} {i : Nat} (hi : i < A.length) (h1 : ∀ x, x ∈ A.take i → P x = true) (h2 : P (A.getD i []) = false) : A.filter P = A.take i ++ (A.drop (i + 1)).filter P := by
  have e : A = A.take i ++ A.getD i [] :: A.drop (i + 1) := by
    rw [List.getD_eq_getElem?_getD, List.getElem?_eq_getElem hi, Option.getD_some, ← List.drop_eq_getElem_cons hi, List.take_append_drop]
  have e2 : (A.take i).filter P = A.take i := List.filter_eq_self.2 h1
  conv => lhs; rw [e]
  rw [List.filter_append, e2, List.filter_cons_of_neg (by rw [h2]; exact Bool.false_ne_true)]
theorem find_split {P : List TC → Bool} {A : LL} (h : A.all P = false) : A.findIdx (fun x => !P x) < A.length ∧ (∀ x, x ∈ A.take (A.findIdx fun x => !P x) → P x = true) ∧ P (A.getD (A.findIdx fun x => !P x) []) = false := by
  have hlt : A.findIdx (fun x => !P x) < A.length := by
    rw [List.findIdx_lt_length]
    obtain ⟨x, hx, hp⟩ := List.all_eq_false.1 h
    exact ⟨x, hx, by simpa using hp⟩
  refine ⟨hlt, fun x hx => ?_, ?_⟩
  · obtain ⟨j, hj, rfl⟩ := List.getElem_of_mem hx
    rw [List.length_take] at hj
    have := List.not_of_lt_findIdx (p := fun x => !P x) (xs := A) (i := j) (by omega)
    rw [List.getElem_take]
    simpa using this
  · have := List.findIdx_getElem (p := fun x => !P x) (xs := A) (w := hlt)
    rw [getD_at hlt]
    simpa using this
theorem row_drop {A xs : LL} {x : List TC} {j : Nat} (h : A.drop j = x :: xs) : j < A.length ∧ row A (j : Int) = x ∧ A.drop (j + 1) = xs := by
  have hj : j < A.length := by
    rcases Nat.lt_or_ge j A.length with h' | h'
    · exact h'
    · rw [List.drop_eq_nil_of_le h'] at h; cases h
  rw [List.drop_eq_getElem_cons hj] at h
  injection h with h1 h2
  exact ⟨hj, by rw [row_nat, getD_at hj]; exact h1, h2⟩
def digT (k : Int) : BS := [[TC.i (IntKind.wrap .u8 (IntKind.wrap .i64 ((48 : Int) + (Int.tmod k (10 : Int)))))]].map byteOf
theorem digT_len (k : Int) : (digT k).length ≤ 1 := Nat.le_refl 1
noncomputable def qbe_t (a0 a1 : Int) (a2 : BS) (a3 : Bool) (a4 : Int) : Tr (Int) := (.ite ((decide ((IntKind.wrap .i64 (a4 - (a2.length : Int))) < (0 : Int))) = true) (.ok (-1 : Int))
  (.ok (IntKind.wrap .i64 (a4 - (a2.length : Int)))))
def qbe_mk (p : Int) : Res := [(false, [⟨.int .i64, .sh, TC.i p⟩])]
noncomputable def qbe_c (a0 a1 : Int) (a2 : BS) (a3 : Bool) (a4 : Int) : Bool := true
noncomputable def qbe_v (a0 a1 : Int) (a2 : BS) (a3 : Bool) (a4 : Int) : Int := (bif (decide ((IntKind.wrap .i64 (a4 - (a2.length : Int))) < (0 : Int))) then (-1 : Int) else (IntKind.wrap .i64 (a4 - (a2.length : Int))))
theorem qbe_l (a0 a1 : Int) (a2 : BS) (a3 : Bool) (a4 : Int) : (qbe_c a0 a1 a2 a3 a4) = true → (qbe_t a0 a1 a2 a3 a4).val = some (qbe_v a0 a1 a2 a3 a4) := by
  intro h
  skip
  unfold qbe_t qbe_v
  exact (Tr.s rfl rfl)
noncomputable def qbe_S : List Arg → Option (Bool × Res) := fun xs => match xs with
  | [(true, [(.int .i64, TC.i a0), (.int .i64, TC.i a1), (.str, TC.s a2), (.bool, TC.b a3)]), (false, [(.int .i64, TC.i a4)])] => some (true, qbe_mk (qbe_v a0 a1 a2 a3 a4))
  | _ => .none
theorem qbe_e (a0 a1 : Int) (a2 : BS) (a3 : Bool) (a4 : Int) : runF tab FT D0 live 38 noLoops [(true, [(.int .i64, TC.i a0), (.int .i64, TC.i a1), (.str, TC.s a2), (.bool, TC.b a3)]), (false, [(.int .i64, TC.i a4)])] = (qbe_t a0 a1 a2 a3 a4).run fun p => some (qbe_mk p) := by kernel_rfl
theorem qbe_s : ∀ xs r, qbe_S xs = some (true, r) → runF tab FT D0 live 38 noLoops xs = some r := by
  intro xs r h
  unfold qbe_S at h
  split at h
  · simp only [Option.some.injEq, Prod.mk.injEq] at h
    obtain ⟨h1, rfl⟩ := h
    exact fun_told (qbe_e _ _ _ _ _) (qbe_l _ _ _ _ _) rfl
  · cases h
noncomputable def D1 : Dt := also D0 38 qbe_S
theorem d1 : DOk Go.Proofs.Try.prog tab D1 := d0.also mixed_ok tab_ok names_ok noLoops_ok qbe_s
abbrev qp_5_σ := LL × Int × Int
abbrev qp_5_ω := (Int) ⊕ (Int)
noncomputable def qp_5_step (A : LL) (left i : Int) : Tr (qp_5_σ ⊕ qp_5_ω) := (.ite ((decide (i < (A.length : Int))) = true) (.ite ((0 : Int) ≤ i ∧ i < (A.length : Int)) (.ite ((decide ((qbe_v ((nth (row A i) 0).int) ((nth (row A i) 1).int) ((nth (row A i) 2).str) ((nth (row A i) 3).bool) left) < (0 : Int))) = true) (.ok (.inr (.inl (qbe_v ((nth (row A i) 0).int) ((nth (row A i) 1).int) ((nth (row A i) 2).str) ((nth (row A i) 3).bool) left))))
    (.ok (.inl (A, (qbe_v ((nth (row A i) 0).int) ((nth (row A i) 1).int) ((nth (row A i) 2).str) ((nth (row A i) 3).bool) left), (IntKind.wrap .i64 (i + (1 : Int)))))))
   .no)
  (.ok (.inr (.inr left))))
noncomputable def qp_5_st : qp_5_σ → Tr (qp_5_σ ⊕ qp_5_ω) := fun x => (qp_5_step (x.1) (x.2.1) (x.2.2))
noncomputable def qp_k5_1 (A : LL) (left i : Int) : Bool := isL (loopN qp_5_st (A.length + 1) (A, left, i))
noncomputable def qp_o5_2 (A : LL) (left i : Int) : Bool := is (i = 0 ∧ Typed tab (.slice 67) (.l A))
noncomputable def qp_u5_2 (A : LL) (left i : Int) : Int := getL (loopN qp_5_st (A.length + 1) (A, left, i))
noncomputable def qp_o5_3 (A : LL) (left i : Int) : Bool := is (i = 0 ∧ Typed tab (.slice 67) (.l A))
noncomputable def qp_u5_3 (A : LL) (left i : Int) : Int := getR (loopN qp_5_st (A.length + 1) (A, left, i))
noncomputable def qp_5_fin (A : LL) (left i : Int) : Told qp_5_ω := (.br (qp_k5_1 A left i) (.leaf (qp_o5_2 A left i) (.inl (qp_u5_2 A left i))) (.leaf (qp_o5_3 A left i) (.inr (qp_u5_3 A left i))))
def qp_5_sl (x : qp_5_σ) : List Slot := [⟨.val false [⟨.slice 67, .sh, TC.l (x.1)⟩], ⟨0, 0⟩⟩, ⟨.val false [⟨.int .i64, .sh, TC.i (x.2.1)⟩], ⟨0, 0⟩⟩, ⟨.val false [⟨.int .i64, .sh, TC.i (x.2.2)⟩], ⟨0, 0⟩⟩]
def qp_5_out : qp_5_ω → Ex × List Slot := (Sum.elim (fun x => (.ret, [⟨.val false [⟨.int .i64, .sh, TC.i x⟩], ⟨0, 0⟩⟩, ⟨.val false [⟨.int .i64, .sh, TC.i (-1 : Int)⟩], ⟨0, 0⟩⟩])) (fun x => (.exit 0, [⟨.val false [⟨.int .i64, .sh, TC.i x⟩], ⟨0, 0⟩⟩, Slot.none])))
noncomputable def qp_lo5 : List Slot → Option (Told (Ex × List Slot)) := fun s => match s with
  | [⟨.val false [⟨.slice 67, .sh, TC.l A⟩], ⟨0, 0⟩⟩, ⟨.val false [⟨.int .i64, .sh, TC.i left⟩], ⟨0, 0⟩⟩, ⟨.val false [⟨.int .i64, .sh, TC.i i⟩], ⟨0, 0⟩⟩] => some (((qp_5_fin A left i)).map qp_5_out)
  | _ => .none
noncomputable def qp_lo : LoopTeller := fun r s => bif Nat.beq r 5 then qp_lo5 s else .none
theorem qp_5_r (A : LL) (left i : Int) (fuel : Nat) : rounds (rnd tab FT D1 live 17 qp_lo 0 5) leave (fuel + 1) (qp_5_sl (A, left, i)) = ((qp_5_step A left i)).run (goOn (fun s => rounds (rnd tab FT D1 live 17 qp_lo 0 5) leave fuel (qp_5_sl s)) fun w => some (qp_5_out w)) := by kernel_rfl
theorem qp_5_h (A : LL) (left i : Int) (ow : qp_5_ω) : ((qp_5_fin A left i)).val = some ow → ∃ fuel, loopN qp_5_st fuel (A, left, i) = some ow := by
  refine auto_two (N := A.length + 1) rfl rfl rfl ?_
  intro ho
  have ho : is (i = 0 ∧ Typed tab (.slice 67) (.l A)) = true := ho.elim id id
  obtain ⟨rfl, ht⟩ := is_iff.1 ho
  have hlen : A.length ≤ 140737488351232 := by have := typed_room ht; simp only [show (tab 67).bytes = 40 from rfl] at this; omega
  refine loopN_ends (step := qp_5_st) (N := A.length) (fun i a => (A, a, (i : Int))) (fun i a hi => ?_) (fun a => ?_) A.length 0 left (by omega)
  · show (∃ a', (qp_5_step A a (i : Int)).val = _) ∨ ∃ w, (qp_5_step A a (i : Int)).val = _
    have c2 : Typed tab (.str) (.s (nth (A.getD i []) 2).str) := typed_s (typed_cell ht (A.getD i []) (mem_getD hi) 2 (by decide))
    cases hneg : ((decide ((qbe_v ((nth (row A i) 0).int) ((nth (row A i) 1).int) ((nth (row A i) 2).str) ((nth (row A i) 3).bool) a) < (0 : Int))))
    · apply Or.inl
      apply Exists.intro
      · unfold qp_5_step
        refine Tr.t (by simp; omega) ?_
        refine Tr.t (by first | omega | (constructor <;> omega)) ?_
        refine Tr.n (by rw [hneg]; simp) ?_
        rw [Tr.val_ok, wrap64 (i := (i : Int) + 1) (by omega) (by omega)]; rfl
    · apply Or.inr
      apply Exists.intro
      · unfold qp_5_step
        refine Tr.t (by simp; omega) ?_
        refine Tr.t (by first | omega | (constructor <;> omega)) ?_
        refine Tr.t hneg ?_
        rfl
  · apply Exists.intro
    · show (qp_5_step A a (A.length : Int)).val = _
      refine Tr.n (by simp) ?_
      rfl
theorem qp_is5 : LoopIs tab FT D1 live 17 qp_lo 0 5 := by
  refine loop_told (sl := qp_5_sl) (step := qp_5_st) (out := qp_5_out) (lor := qp_lo5) (fin := fun x => (qp_5_fin (x.1) (x.2.1) (x.2.2))) (fun _ => rfl) ?_ (fun x n => qp_5_r x.1 x.2.1 x.2.2 n) (fun x ow => qp_5_h x.1 x.2.1 x.2.2 ow)
  intro s t h
  unfold qp_lo5 at h
  split at h
  · cases h; exact ⟨(_, _, _), rfl, rfl⟩
  · cases h
noncomputable def qp_t (A : LL) (left : Int) : Tr (Int) := (.ite ((decide ((IntKind.wrap .i64 (left - (A.length : Int))) < (0 : Int))) = true) (.ok (-1 : Int))
  (.ite ((qp_k5_1 A (IntKind.wrap .i64 (left - (A.length : Int))) (0 : Int)) = true) (.ite ((qp_o5_2 A (IntKind.wrap .i64 (left - (A.length : Int))) (0 : Int)) = true) (.ok (-1 : Int))
    .no)
   (.ite ((qp_o5_3 A (IntKind.wrap .i64 (left - (A.length : Int))) (0 : Int)) = true) (.ok (qp_u5_3 A (IntKind.wrap .i64 (left - (A.length : Int))) (0 : Int)))
    .no)))
def qp_mk (p : Int) : Res := [(false, [⟨.int .i64, .sh, TC.i p⟩])]
noncomputable def qp_c (A : LL) (left : Int) : Bool := is (((qp_o5_2 A (IntKind.wrap .i64 (left - (A.length : Int))) (0 : Int)) = true) ∧ ((qp_o5_3 A (IntKind.wrap .i64 (left - (A.length : Int))) (0 : Int)) = true))
noncomputable def qp_v (A : LL) (left : Int) : Int := (bif (decide ((IntKind.wrap .i64 (left - (A.length : Int))) < (0 : Int))) then (-1 : Int) else (bif (qp_k5_1 A (IntKind.wrap .i64 (left - (A.length : Int))) (0 : Int)) then (-1 : Int) else (qp_u5_3 A (IntKind.wrap .i64 (left - (A.length : Int))) (0 : Int))))
theorem qp_l (A : LL) (left : Int) : (qp_c A left) = true → (qp_t A left).val = some (qp_v A left) := by
  intro h
  obtain ⟨g0, g1⟩ := is_iff.1 h
  unfold qp_t qp_v
  exact (Tr.s rfl (Tr.s (Tr.t g0 rfl) (Tr.t g1 rfl)))
noncomputable def qp_S : List Arg → Option (Bool × Res) := fun xs => match xs with
  | [(false, [(.slice 67, TC.l A)]), (false, [(.int .i64, TC.i left)])] => some ((qp_c A left), qp_mk (qp_v A left))
  | _ => .none
theorem qp_e (A : LL) (left : Int) : runF tab FT D1 live 17 qp_lo [(false, [(.slice 67, TC.l A)]), (false, [(.int .i64, TC.i left)])] = (qp_t A left).run fun p => some (qp_mk p) := by kernel_rfl
theorem qp_s : ∀ xs r, qp_S xs = some (true, r) → runF tab FT D1 live 17 qp_lo xs = some r := by
  intro xs r h
  unfold qp_S at h
  split at h
  · simp only [Option.some.injEq, Prod.mk.injEq] at h
    obtain ⟨h1, rfl⟩ := h
    exact fun_told (qp_e _ _) (qp_l _ _) h1
  · cases h
noncomputable def D2 : Dt := also D1 17 qp_S
theorem d2 : DOk Go.Proofs.Try.prog tab D2 := d1.also mixed_ok tab_ok names_ok (fnLoops_one (by kernel_rfl) qp_is5) qp_s
noncomputable def qbd_t (a0 : Int) (a1 : LL) (a2 a3 a4 a5 : Int) : Tr (Int) := (.ite ((qp_c a1 a5) = true) (.ite ((decide ((qp_v a1 a5) < (0 : Int))) = true) (.ok (-1 : Int))
   (.ok (qp_v a1 a5)))
  .no)
def qbd_mk (p : Int) : Res := [(false, [⟨.int .i64, .sh, TC.i p⟩])]
noncomputable def qbd_c (a0 : Int) (a1 : LL) (a2 a3 a4 a5 : Int) : Bool := (qp_c a1 a5)
noncomputable def qbd_v (a0 : Int) (a1 : LL) (a2 a3 a4 a5 : Int) : Int := (bif (decide ((qp_v a1 a5) < (0 : Int))) then (-1 : Int) else (qp_v a1 a5))
theorem qbd_l (a0 : Int) (a1 : LL) (a2 a3 a4 a5 : Int) : (qbd_c a0 a1 a2 a3 a4 a5) = true → (qbd_t a0 a1 a2 a3 a4 a5).val = some (qbd_v a0 a1 a2 a3 a4 a5) := by
  intro h
  have g0 : (qp_c a1 a5) = true := h
  unfold qbd_t qbd_v
  exact (Tr.t g0 (Tr.s rfl rfl))
noncomputable def qbd_S : List Arg → Option (Bool × Res) := fun xs => match xs with
  | [(true, [(.int .i64, TC.i a0), (.slice 67, TC.l a1), (.int .i64, TC.i a2), (.int .i64, TC.i a3), (.int .i64, TC.i a4)]), (false, [(.int .i64, TC.i a5)])] => some ((qbd_c a0 a1 a2 a3 a4 a5), qbd_mk (qbd_v a0 a1 a2 a3 a4 a5))
  | _ => .none
theorem qbd_e (a0 : Int) (a1 : LL) (a2 a3 a4 a5 : Int) : runF tab FT D2 live 5 noLoops [(true, [(.int .i64, TC.i a0), (.slice 67, TC.l a1), (.int .i64, TC.i a2), (.int .i64, TC.i a3), (.int .i64, TC.i a4)]), (false, [(.int .i64, TC.i a5)])] = (qbd_t a0 a1 a2 a3 a4 a5).run fun p => some (qbd_mk p) := by kernel_rfl
theorem qbd_s : ∀ xs r, qbd_S xs = some (true, r) → runF tab FT D2 live 5 noLoops xs = some r := by
  intro xs r h
  unfold qbd_S at h
  split at h
  · simp only [Option.some.injEq, Prod.mk.injEq] at h
    obtain ⟨h1, rfl⟩ := h
    exact fun_told (qbd_e _ _ _ _ _ _) (qbd_l _ _ _ _ _ _) h1
  · cases h
noncomputable def D3 : Dt := also D2 5 qbd_S
theorem d3 : DOk Go.Proofs.Try.prog tab D3 := d2.also mixed_ok tab_ok names_ok noLoops_ok qbd_s
noncomputable def qbg_t (a0 a1 : Int) (a2 : BS) (a3 : Bool) : Tr (Int × Int × BS × Bool) := .ok (a0, a1, a2, a3)
def qbg_mk (p : Int × Int × BS × Bool) : Res := [(true, [⟨.int .i64, .sh, TC.i (p.1)⟩, ⟨.int .i64, .sh, TC.i (p.2.1)⟩, ⟨.str, .sh, TC.s (p.2.2.1)⟩, ⟨.bool, .sh, TC.b (p.2.2.2)⟩])]
noncomputable def qbg_c (a0 a1 : Int) (a2 : BS) (a3 : Bool) : Bool := true
noncomputable def qbg_v (a0 a1 : Int) (a2 : BS) (a3 : Bool) : Int × Int × BS × Bool := (a0, a1, a2, a3)
theorem qbg_l (a0 a1 : Int) (a2 : BS) (a3 : Bool) : (qbg_c a0 a1 a2 a3) = true → (qbg_t a0 a1 a2 a3).val = some (qbg_v a0 a1 a2 a3) := by
  intro h
  skip
  unfold qbg_t qbg_v
  exact rfl
noncomputable def qbg_S : List Arg → Option (Bool × Res) := fun xs => match xs with
  | [(true, [(.int .i64, TC.i a0), (.int .i64, TC.i a1), (.str, TC.s a2), (.bool, TC.b a3)])] => some (true, qbg_mk (qbg_v a0 a1 a2 a3))
  | _ => .none
theorem qbg_e (a0 a1 : Int) (a2 : BS) (a3 : Bool) : runF tab FT D3 live 40 noLoops [(true, [(.int .i64, TC.i a0), (.int .i64, TC.i a1), (.str, TC.s a2), (.bool, TC.b a3)])] = (qbg_t a0 a1 a2 a3).run fun p => some (qbg_mk p) := by kernel_rfl
theorem qbg_s : ∀ xs r, qbg_S xs = some (true, r) → runF tab FT D3 live 40 noLoops xs = some r := by
  intro xs r h
  unfold qbg_S at h
  split at h
  · simp only [Option.some.injEq, Prod.mk.injEq] at h
    obtain ⟨h1, rfl⟩ := h
    exact fun_told (qbg_e _ _ _ _) (qbg_l _ _ _ _) rfl
  · cases h
noncomputable def D4 : Dt := also D3 40 qbg_S
theorem d4 : DOk Go.Proofs.Try.prog tab D4 := d3.also mixed_ok tab_ok names_ok noLoops_ok qbg_s
def qr_g (x : List TC) : List TC := [TC.i ((nth x 0).int), TC.i ((nth x 1).int), TC.s ((nth x 2).str), TC.b ((nth x 3).bool)]
def qr_z : List TC := [TC.i (0 : Int), TC.i (0 : Int), TC.s [], TC.b false]
abbrev qr_3_σ := LL × LL × Int
abbrev qr_3_ω := (LL)
noncomputable def qr_3_step (A X : LL) (i : Int) : Tr (qr_3_σ ⊕ qr_3_ω) := (.ite ((decide (i < (A.length : Int))) = true) (.ite ((0 : Int) ≤ i ∧ i < (A.length : Int)) (.ite ((0 : Int) ≤ i ∧ i < (X.length : Int)) (.ok (.inl (A, (X.set (i).toNat (splice (row X i) 0 [TC.i ((nth (row A i) 0).int), TC.i ((nth (row A i) 1).int), TC.s ((nth (row A i) 2).str), TC.b ((nth (row A i) 3).bool)])), (IntKind.wrap .i64 (i + (1 : Int))))))
    .no)
   .no)
  (.ok (.inr X)))
noncomputable def qr_3_st : qr_3_σ → Tr (qr_3_σ ⊕ qr_3_ω) := fun x => (qr_3_step (x.1) (x.2.1) (x.2.2))
noncomputable def qr_o3_1 (A X : LL) (i : Int) : Bool := is (Typed tab (.slice 67) (.l A) ∧ X = List.replicate A.length qr_z ∧ i = 0)
noncomputable def qr_u3_1 (A X : LL) (i : Int) : LL := A.map qr_g
noncomputable def qr_3_fin (A X : LL) (i : Int) : Told qr_3_ω := (.leaf (qr_o3_1 A X i) (qr_u3_1 A X i))
def qr_3_sl (x : qr_3_σ) : List Slot := [⟨.val false [⟨.slice 67, .sh, TC.l (x.1)⟩], ⟨0, 0⟩⟩, ⟨.val false [⟨.slice 48, .own true, TC.l (x.2.1)⟩], ⟨0, 0⟩⟩, ⟨.val false [⟨.int .i64, .sh, TC.i (x.2.2)⟩], ⟨0, 0⟩⟩]
def qr_3_out : qr_3_ω → Ex × List Slot := (fun x => (.exit 0, [Slot.none, ⟨.val false [⟨.slice 48, .own true, TC.l x⟩], ⟨0, 0⟩⟩]))
noncomputable def qr_lo3 : List Slot → Option (Told (Ex × List Slot)) := fun s => match s with
  | [⟨.val false [⟨.slice 67, .sh, TC.l A⟩], ⟨0, 0⟩⟩, ⟨.val false [⟨.slice 48, .own true, TC.l X⟩], ⟨0, 0⟩⟩, ⟨.val false [⟨.int .i64, .sh, TC.i i⟩], ⟨0, 0⟩⟩] => some (((qr_3_fin A X i)).map qr_3_out)
  | _ => .none
noncomputable def qr_lo : LoopTeller := fun r s => bif Nat.beq r 3 then qr_lo3 s else .none
theorem qr_3_r (A X : LL) (i : Int) (fuel : Nat) : rounds (rnd tab FT D4 live 19 qr_lo 0 3) leave (fuel + 1) (qr_3_sl (A, X, i)) = ((qr_3_step A X i)).run (goOn (fun s => rounds (rnd tab FT D4 live 19 qr_lo 0 3) leave fuel (qr_3_sl s)) fun w => some (qr_3_out w)) := by kernel_rfl
theorem qr_3_h (A X : LL) (i : Int) (ow : qr_3_ω) : ((qr_3_fin A X i)).val = some ow → ∃ fuel, loopN qr_3_st fuel (A, X, i) = some ow := by
  intro h
  simp only [qr_3_fin, Told.val] at h
  split at h
  · rename_i ho
    obtain ⟨ht, rfl, rfl⟩ := is_iff.1 ho
    cases h
    have hlen : A.length ≤ 140737488351232 := by have := typed_room ht; simp only [show (tab 67).bytes = 40 from rfl] at this; omega
    have key := loopN_copy (step := qr_3_st) A (List.replicate A.length qr_z) qr_g (fun Y i => (A, Y, (i : Int))) (A.map qr_g) (by simp) (fun x hx i _ => by rw [(List.mem_replicate.1 hx).2]; exact Nat.le_refl 4) (fun Y i hi hl => ?_) ?_ A.length 0 (by omega)
    · rw [copied_zero] at key
      exact ⟨_, key⟩
    · have c2 : Typed tab (.str) (.s (nth (A.getD i []) 2).str) := typed_s (typed_cell ht (A.getD i []) (mem_getD hi) 2 (by decide))
      show (qr_3_step A Y (i : Int)).val = _
      unfold qr_3_step
      refine Tr.t (by simp; omega) ?_
      refine Tr.t (by constructor <;> omega) ?_
      refine Tr.t (by constructor <;> omega) ?_
      repeat (refine Tr.t (by first | (apply is_true; and_intros <;> (first | rfl | assumption | (first | (apply is_true; and_intros <;> (first | rfl | assumption | (first | (apply is_true; and_intros <;> (first | rfl | assumption | (first | (apply is_true; and_intros <;> (first | rfl | assumption)))))))))))) ?_)
      rw [Tr.val_ok, wrap64 (i := (i : Int) + 1) (by omega) (by omega)]; rfl
    · show (qr_3_step A (A.map qr_g) (A.length : Int)).val = _
      refine Tr.n (by simp) ?_
      rfl
  · cases h
theorem qr_is3 : LoopIs tab FT D4 live 19 qr_lo 0 3 := by
  refine loop_told (sl := qr_3_sl) (step := qr_3_st) (out := qr_3_out) (lor := qr_lo3) (fin := fun x => (qr_3_fin (x.1) (x.2.1) (x.2.2))) (fun _ => rfl) ?_ (fun x n => qr_3_r x.1 x.2.1 x.2.2 n) (fun x ow => qr_3_h x.1 x.2.1 x.2.2 ow)
  intro s t h
  unfold qr_lo3 at h
  split at h
  · cases h; exact ⟨(_, _, _), rfl, rfl⟩
  · cases h
noncomputable def qr_t (A : LL) : Tr (LL) := (.ite (0 ≤ (A.length : Int) ∧ (A.length : Int) ≤ (A.length : Int) ∧ (A.length : Int) * 40 ≤ 140737488355328 ∧ (A.length : Int) ≤ 140737488355328) (.ite ((qr_o3_1 A (List.replicate ((A.length : Int)).toNat [TC.i (0 : Int), TC.i (0 : Int), TC.s [], TC.b false]) (0 : Int)) = true) (.ok (qr_u3_1 A (List.replicate ((A.length : Int)).toNat [TC.i (0 : Int), TC.i (0 : Int), TC.s [], TC.b false]) (0 : Int)))
   .no)
  .no)
def qr_mk (p : LL) : Res := [(false, [⟨.slice 48, .own true, TC.l p⟩])]
noncomputable def qr_c (A : LL) : Bool := is (Typed tab (.slice 67) (.l A))
noncomputable def qr_v (A : LL) : LL := A.map qr_g
theorem qr_l (A : LL) : (qr_c A) = true → (qr_t A).val = some (qr_v A) := by
  intro h
  have ht := is_iff.1 h
  have hb := typed_room ht
  simp only [show (tab 67).bytes = 40 from rfl] at hb
  unfold qr_t
  refine Tr.t (by omega) ?_
  refine Tr.t (is_true ⟨ht, by rfl, rfl⟩) ?_
  rfl
noncomputable def qr_S : List Arg → Option (Bool × Res) := fun xs => match xs with
  | [(false, [(.slice 67, TC.l A)])] => some ((qr_c A), qr_mk (qr_v A))
  | _ => .none
theorem qr_e (A : LL) : runF tab FT D4 live 19 qr_lo [(false, [(.slice 67, TC.l A)])] = (qr_t A).run fun p => some (qr_mk p) := by kernel_rfl
theorem qr_s : ∀ xs r, qr_S xs = some (true, r) → runF tab FT D4 live 19 qr_lo xs = some r := by
  intro xs r h
  unfold qr_S at h
  split at h
  · simp only [Option.some.injEq, Prod.mk.injEq] at h
    obtain ⟨h1, rfl⟩ := h
    exact fun_told (qr_e _) (qr_l _) h1
  · cases h
noncomputable def D5 : Dt := also D4 19 qr_S
theorem d5 : DOk Go.Proofs.Try.prog tab D5 := d4.also mixed_ok tab_ok names_ok (fnLoops_one (by kernel_rfl) qr_is3) qr_s
theorem qr_ty {A : LL} (h : Typed tab (.slice 67) (.l A)) : Typed tab (.slice 48) (.l (A.map qr_g)) := by
  refine typed_map h (by decide) fun x _ _ hx => ⟨rfl, fun k hk => ?_⟩
  match k, hk with
    | 0, _ => exact typed_i (hx 0 (by decide))
    | 1, _ => exact typed_i (hx 1 (by decide))
    | 2, _ => exact typed_s (hx 2 (by decide))
    | 3, _ => exact typed_b (hx 3 (by decide))
noncomputable def qa_t (x0 : Int) (x1 : LL) (x2 x3 x4 : Int) : Tr (Int × LL × Int × Int × Int) := (.ite ((qr_c x1) = true) (.ok (x0, (qr_v x1), x2, x3, x4))
  .no)
def qa_mk (p : Int × LL × Int × Int × Int) : Res := [(true, [⟨.int .i64, .sh, TC.i (p.1)⟩, ⟨.slice 48, .own true, TC.l (p.2.1)⟩, ⟨.int .i64, .sh, TC.i (p.2.2.1)⟩, ⟨.int .i64, .sh, TC.i (p.2.2.2.1)⟩, ⟨.int .i64, .sh, TC.i (p.2.2.2.2)⟩])]
noncomputable def qa_c (x0 : Int) (x1 : LL) (x2 x3 x4 : Int) : Bool := is (Typed tab (.slice 67) (.l x1))
noncomputable def qa_v (x0 : Int) (x1 : LL) (x2 x3 x4 : Int) : Int × LL × Int × Int × Int := (x0, (qr_v x1), x2, x3, x4)
theorem qa_l (x0 : Int) (x1 : LL) (x2 x3 x4 : Int) : (qa_c x0 x1 x2 x3 x4) = true → (qa_t x0 x1 x2 x3 x4).val = some (qa_v x0 x1 x2 x3 x4) := by
  intro h
  have t0 := is_iff.1 h
  unfold qa_t
  repeat (refine Tr.t (by first | (apply is_true; and_intros <;> (first | rfl | assumption | (first | (apply is_true; and_intros <;> (first | rfl | assumption | (first | (apply is_true; and_intros <;> (first | rfl | assumption | (first | (apply is_true; and_intros <;> (first | rfl | assumption)))))))))))) ?_)
  rfl
noncomputable def qa_S : List Arg → Option (Bool × Res) := fun xs => match xs with
  | [(true, [(.int .i64, TC.i x0), (.slice 67, TC.l x1), (.int .i64, TC.i x2), (.int .i64, TC.i x3), (.int .i64, TC.i x4)])] => some ((qa_c x0 x1 x2 x3 x4), qa_mk (qa_v x0 x1 x2 x3 x4))
  | _ => .none
theorem qa_e (x0 : Int) (x1 : LL) (x2 x3 x4 : Int) : runF tab FT D5 live 7 noLoops [(true, [(.int .i64, TC.i x0), (.slice 67, TC.l x1), (.int .i64, TC.i x2), (.int .i64, TC.i x3), (.int .i64, TC.i x4)])] = (qa_t x0 x1 x2 x3 x4).run fun p => some (qa_mk p) := by kernel_rfl
theorem qa_s : ∀ xs r, qa_S xs = some (true, r) → runF tab FT D5 live 7 noLoops xs = some r := by
  intro xs r h
  unfold qa_S at h
  split at h
  · simp only [Option.some.injEq, Prod.mk.injEq] at h
    obtain ⟨h1, rfl⟩ := h
    exact fun_told (qa_e _ _ _ _ _) (qa_l _ _ _ _ _) h1
  · cases h
noncomputable def D6 : Dt := also D5 7 qa_S
theorem d6 : DOk Go.Proofs.Try.prog tab D6 := d5.also mixed_ok tab_ok names_ok noLoops_ok qa_s
noncomputable def qz_t (a0 a1 a2 : Int) : Tr (Bool) := (.ite ((decide (a0 ≥ a1)) = true) (.ok (decide (a0 ≤ a2)))
  (.ok false))
def qz_mk (p : Bool) : Res := [(false, [⟨.bool, .sh, TC.b p⟩])]
noncomputable def qz_c (a0 a1 a2 : Int) : Bool := true
noncomputable def qz_v (a0 a1 a2 : Int) : Bool := (bif (decide (a0 ≥ a1)) then (decide (a0 ≤ a2)) else false)
theorem qz_l (a0 a1 a2 : Int) : (qz_c a0 a1 a2) = true → (qz_t a0 a1 a2).val = some (qz_v a0 a1 a2) := by
  intro h
  skip
  unfold qz_t qz_v
  exact (Tr.s rfl rfl)
noncomputable def qz_S : List Arg → Option (Bool × Res) := fun xs => match xs with
  | [(false, [(.int .i64, TC.i a0)]), (false, [(.int .i64, TC.i a1)]), (false, [(.int .i64, TC.i a2)])] => some (true, qz_mk (qz_v a0 a1 a2))
  | _ => .none
theorem qz_e (a0 a1 a2 : Int) : runF tab FT D6 live 39 noLoops [(false, [(.int .i64, TC.i a0)]), (false, [(.int .i64, TC.i a1)]), (false, [(.int .i64, TC.i a2)])] = (qz_t a0 a1 a2).run fun p => some (qz_mk p) := by kernel_rfl
theorem qz_s : ∀ xs r, qz_S xs = some (true, r) → runF tab FT D6 live 39 noLoops xs = some r := by
  intro xs r h
  unfold qz_S at h
  split at h
  · simp only [Option.some.injEq, Prod.mk.injEq] at h
    obtain ⟨h1, rfl⟩ := h
    exact fun_told (qz_e _ _ _) (qz_l _ _ _) rfl
  · cases h
noncomputable def D7 : Dt := also D6 39 qz_S
theorem d7 : DOk Go.Proofs.Try.prog tab D7 := d6.also mixed_ok tab_ok names_ok noLoops_ok qz_s
noncomputable def qh_f10 (p : List TC) (ix ka kk : Int) (data : BS) (dirty : Bool) (k : Int) : (Unit) ⊕ ((List TC × Int) ⊕ (List TC × Int)) := (bif ((nth (row ((nth p 1).list) k) 0).int == ka) then (bif ((nth (row ((nth p 1).list) k) 1).int == kk) then (.inr (.inl (p, ix))) else (.inl ())) else (.inl ()))
noncomputable def qh_e10 (p : List TC) (ix ka kk : Int) (data : BS) (dirty : Bool) : (List TC × Int) ⊕ (List TC × Int) := .inr (p, ix)
noncomputable def qh_R10 (p : List TC) (ix ka kk : Int) (data : BS) (dirty : Bool) (k : Int) : (List TC × Int) ⊕ (List TC × Int) := iter (fun i a => (qh_f10 p ix ka kk data dirty (i : Int))) (fun a => (qh_e10 p ix ka kk data dirty)) (ix.toNat) 0 ()
abbrev qh_10_σ := List TC × Int × Int × Int × BS × Bool × Int
abbrev qh_10_ω := (List TC × Int) ⊕ (List TC × Int)
noncomputable def qh_10_step (p : List TC) (ix ka kk : Int) (data : BS) (dirty : Bool) (k : Int) : Tr (qh_10_σ ⊕ qh_10_ω) := (.ite ((decide (k < ix)) = true) (.ite ((0 : Int) ≤ k ∧ k < (((nth p 1).list).length : Int)) (.ite (((nth (row ((nth p 1).list) k) 0).int == ka) = true) (.ite ((0 : Int) ≤ k ∧ k < (((nth p 1).list).length : Int)) (.ite (((nth (row ((nth p 1).list) k) 1).int == kk) = true) (.ok (.inr (.inl (p, ix))))
      (.ok (.inl (p, ix, ka, kk, data, dirty, (IntKind.wrap .i64 (k + (1 : Int)))))))
     .no)
    (.ok (.inl (p, ix, ka, kk, data, dirty, (IntKind.wrap .i64 (k + (1 : Int)))))))
   .no)
  (.ok (.inr (.inr (p, ix)))))
noncomputable def qh_10_st : qh_10_σ → Tr (qh_10_σ ⊕ qh_10_ω) := fun x => (qh_10_step (x.1) (x.2.1) (x.2.2.1) (x.2.2.2.1) (x.2.2.2.2.1) (x.2.2.2.2.2.1) (x.2.2.2.2.2.2))
noncomputable def qh_k10_1 (p : List TC) (ix ka kk : Int) (data : BS) (dirty : Bool) (k : Int) : Bool := sumIs (qh_R10 p ix ka kk data dirty k)
noncomputable def qh_o10_2 (p : List TC) (ix ka kk : Int) (data : BS) (dirty : Bool) (k : Int) : Bool := is (k = 0 ∧ 0 ≤ ix ∧ ix ≤ ((nth p 1).list.length : Int) ∧ (nth p 1).list.length ≤ 140737488355328)
noncomputable def qh_o10_3 (p : List TC) (ix ka kk : Int) (data : BS) (dirty : Bool) (k : Int) : Bool := is (k = 0 ∧ 0 ≤ ix ∧ ix ≤ ((nth p 1).list.length : Int) ∧ (nth p 1).list.length ≤ 140737488355328)
noncomputable def qh_10_fin (p : List TC) (ix ka kk : Int) (data : BS) (dirty : Bool) (k : Int) : Told qh_10_ω := (.br (qh_k10_1 p ix ka kk data dirty k) (.leaf (qh_o10_2 p ix ka kk data dirty k) (.inl (p, ix))) (.leaf (qh_o10_3 p ix ka kk data dirty k) (.inr (p, ix))))
def qh_10_sl (x : qh_10_σ) : List Slot := [⟨.val false [⟨.ptr 28, .sh, TC.p (x.1)⟩], ⟨0, 0⟩⟩, ⟨.val false [⟨.int .i64, .sh, TC.i (x.2.1)⟩], ⟨0, 0⟩⟩, ⟨.bx 48 [⟨.int .i64, .sh, TC.i (x.2.2.1)⟩, ⟨.int .i64, .sh, TC.i (x.2.2.2.1)⟩, ⟨.str, .sh, TC.s (x.2.2.2.2.1)⟩, ⟨.bool, .sh, TC.b (x.2.2.2.2.2.1)⟩], ⟨0, 0⟩⟩, ⟨.val false [⟨.int .i64, .sh, TC.i (x.2.2.2.2.2.2)⟩], ⟨0, 0⟩⟩]
def qh_10_out : qh_10_ω → Ex × List Slot := (Sum.elim (fun x => (.ret, [⟨.val false [⟨.ptr 28, .sh, TC.p (x.1)⟩], ⟨0, 0⟩⟩, ⟨.val false [⟨.bool, .sh, TC.b false⟩], ⟨0, 0⟩⟩, ⟨.val false [⟨.int .i64, .sh, TC.i (x.2)⟩], ⟨0, 0⟩⟩])) (fun x => (.exit 2, [⟨.val false [⟨.ptr 28, .sh, TC.p (x.1)⟩], ⟨0, 0⟩⟩, Slot.none, ⟨.val false [⟨.int .i64, .sh, TC.i (x.2)⟩], ⟨0, 0⟩⟩])))
noncomputable def qh_lo10 : List Slot → Option (Told (Ex × List Slot)) := fun s => match s with
  | [⟨.val false [⟨.ptr 28, .sh, TC.p p⟩], ⟨0, 0⟩⟩, ⟨.val false [⟨.int .i64, .sh, TC.i ix⟩], ⟨0, 0⟩⟩, ⟨.bx 48 [⟨.int .i64, .sh, TC.i ka⟩, ⟨.int .i64, .sh, TC.i kk⟩, ⟨.str, .sh, TC.s data⟩, ⟨.bool, .sh, TC.b dirty⟩], ⟨0, 0⟩⟩, ⟨.val false [⟨.int .i64, .sh, TC.i k⟩], ⟨0, 0⟩⟩] => some (((qh_10_fin p ix ka kk data dirty k)).map qh_10_out)
  | _ => .none
noncomputable def qh_f4 (p : List TC) (i : Int) : (Unit) ⊕ ((Unit) ⊕ (Unit)) := (bif (!(qz_v ((nth (row ((nth p 1).list) i) 0).int) (1 : Int) (255 : Int))) then (.inr (.inl ())) else (bif (!(qz_v ((nth (row ((nth p 1).list) i) 1).int) (0 : Int) (4095 : Int))) then (.inr (.inl ())) else (bif (!(qz_v (((nth (row ((nth p 1).list) i) 2).str).length : Int) (1 : Int) (512 : Int))) then (.inr (.inl ())) else (bif (qh_k10_1 p i ((nth (row ((nth p 1).list) i) 0).int) ((nth (row ((nth p 1).list) i) 1).int) ((nth (row ((nth p 1).list) i) 2).str) ((nth (row ((nth p 1).list) i) 3).bool) (0 : Int)) then (.inr (.inl ())) else (.inl ())))))
noncomputable def qh_e4 (p : List TC) : (Unit) ⊕ (Unit) := .inr ()
noncomputable def qh_R4 (p : List TC) (i : Int) : (Unit) ⊕ (Unit) := iter (fun i a => (qh_f4 p (i : Int))) (fun a => (qh_e4 p)) ((nth p 1).list.length) 0 ()
abbrev qh_4_σ := List TC × Int
abbrev qh_4_ω := (Unit) ⊕ (Unit)
noncomputable def qh_4_step (p : List TC) (i : Int) : Tr (qh_4_σ ⊕ qh_4_ω) := (.ite ((decide (i < (((nth p 1).list).length : Int))) = true) (.ite ((0 : Int) ≤ i ∧ i < (((nth p 1).list).length : Int)) (.ite ((!(qz_v ((nth (row ((nth p 1).list) i) 0).int) (1 : Int) (255 : Int))) = true) (.ok (.inr (.inl ())))
    (.ite ((!(qz_v ((nth (row ((nth p 1).list) i) 1).int) (0 : Int) (4095 : Int))) = true) (.ok (.inr (.inl ())))
     (.ite ((!(qz_v (((nth (row ((nth p 1).list) i) 2).str).length : Int) (1 : Int) (512 : Int))) = true) (.ok (.inr (.inl ())))
      (.ite ((qh_k10_1 p i ((nth (row ((nth p 1).list) i) 0).int) ((nth (row ((nth p 1).list) i) 1).int) ((nth (row ((nth p 1).list) i) 2).str) ((nth (row ((nth p 1).list) i) 3).bool) (0 : Int)) = true) (.ite ((qh_o10_2 p i ((nth (row ((nth p 1).list) i) 0).int) ((nth (row ((nth p 1).list) i) 1).int) ((nth (row ((nth p 1).list) i) 2).str) ((nth (row ((nth p 1).list) i) 3).bool) (0 : Int)) = true) (.ok (.inr (.inl ())))
        .no)
       (.ite ((qh_o10_3 p i ((nth (row ((nth p 1).list) i) 0).int) ((nth (row ((nth p 1).list) i) 1).int) ((nth (row ((nth p 1).list) i) 2).str) ((nth (row ((nth p 1).list) i) 3).bool) (0 : Int)) = true) (.ok (.inl (p, (IntKind.wrap .i64 (i + (1 : Int))))))
        .no)))))
   .no)
  (.ok (.inr (.inr ()))))
noncomputable def qh_4_st : qh_4_σ → Tr (qh_4_σ ⊕ qh_4_ω) := fun x => (qh_4_step (x.1) (x.2))
noncomputable def qh_k4_1 (p : List TC) (i : Int) : Bool := sumIs (qh_R4 p i)
noncomputable def qh_o4_2 (p : List TC) (i : Int) : Bool := is (i = 0 ∧ Typed tab (.slice 48) (.l (nth p 1).list))
noncomputable def qh_o4_3 (p : List TC) (i : Int) : Bool := is (i = 0 ∧ Typed tab (.slice 48) (.l (nth p 1).list))
noncomputable def qh_4_fin (p : List TC) (i : Int) : Told qh_4_ω := (.br (qh_k4_1 p i) (.leaf (qh_o4_2 p i) (.inl ())) (.leaf (qh_o4_3 p i) (.inr ())))
def qh_4_sl (x : qh_4_σ) : List Slot := [⟨.val false [⟨.ptr 28, .sh, TC.p (x.1)⟩], ⟨0, 0⟩⟩, ⟨.val false [⟨.int .i64, .sh, TC.i (x.2)⟩], ⟨0, 0⟩⟩]
def qh_4_out : qh_4_ω → Ex × List Slot := (Sum.elim (fun x => (.ret, [⟨.val false [⟨.bool, .sh, TC.b false⟩], ⟨0, 0⟩⟩])) (fun x => (.exit 0, [Slot.none])))
noncomputable def qh_lo4 : List Slot → Option (Told (Ex × List Slot)) := fun s => match s with
  | [⟨.val false [⟨.ptr 28, .sh, TC.p p⟩], ⟨0, 0⟩⟩, ⟨.val false [⟨.int .i64, .sh, TC.i i⟩], ⟨0, 0⟩⟩] => some (((qh_4_fin p i)).map qh_4_out)
  | _ => .none
noncomputable def qh_lo : LoopTeller := fun r s => bif Nat.beq r 4 then qh_lo4 s else bif Nat.beq r 10 then qh_lo10 s else .none
theorem qh_10_r (p : List TC) (ix ka kk : Int) (data : BS) (dirty : Bool) (k : Int) (fuel : Nat) : rounds (rnd tab FT D7 live 18 qh_lo 1 10) leave (fuel + 1) (qh_10_sl (p, ix, ka, kk, data, dirty, k)) = ((qh_10_step p ix ka kk data dirty k)).run (goOn (fun s => rounds (rnd tab FT D7 live 18 qh_lo 1 10) leave fuel (qh_10_sl s)) fun w => some (qh_10_out w)) := by kernel_rfl
theorem qh_f10_eq (p : List TC) (ix ka kk : Int) (data : BS) (dirty : Bool) (i : Int) : qh_f10 p ix ka kk data dirty i = bif dupB (nth p 1).list ka kk i then Sum.inl () else Sum.inr (Sum.inl (p, ix)) := by
  unfold qh_f10 dupB
  skip
  generalize ((nth (row (nth p 1).list i) 0).int == ka) = p0, ((nth (row (nth p 1).list i) 1).int == kk) = p1
  cases p0 <;> cases p1 <;> rfl
theorem qh_R10_eq (p : List TC) (ix ka kk : Int) (data : BS) (dirty : Bool)  : qh_R10 p ix ka kk data dirty 0 = bif allI (fun i : Nat => dupB (nth p 1).list ka kk (i : Int)) (ix.toNat) then Sum.inr (p, ix) else (Sum.inl (p, ix)) := by
  unfold qh_R10
  exact (iter_all (P := (fun i : Nat => dupB (nth p 1).list ka kk (i : Int))) (g := fun _ a => a) (w := Sum.inl (p, ix)) fun j a _ => qh_f10_eq p ix ka kk data dirty _)
theorem qh_10_h (p : List TC) (ix ka kk : Int) (data : BS) (dirty : Bool) (k : Int) (ow : qh_10_ω) : ((qh_10_fin p ix ka kk data dirty k)).val = some ow → ∃ fuel, loopN qh_10_st fuel (p, ix, ka, kk, data, dirty, k) = some ow := by
  refine auto_const (R := (qh_R10 p ix ka kk data dirty k)) rfl (iter_onR (f := (fun i a => (qh_f10 p ix ka kk data dirty (i : Int)))) (fin := (fun a => (qh_e10 p ix ka kk data dirty))) (Q := endsAs (p, ix) (p, ix)) (fun i a => by unfold qh_f10; exact (onR_bif (onR_bif rfl trivial) trivial)) (fun _ => rfl) _ _ _) ?_
  intro ho
  have ho : is (k = 0 ∧ 0 ≤ ix ∧ ix ≤ ((nth p 1).list.length : Int) ∧ (nth p 1).list.length ≤ 140737488355328) = true := ho.elim id id
  obtain ⟨rfl, h0, h1, h2⟩ := is_iff.1 ho
  skip
  refine ⟨(ix.toNat) + 1, ?_⟩
  refine iter_loop (step := qh_10_st) (ix.toNat) (fun i a => (qh_f10 p ix ka kk data dirty (i : Int))) (fun a => (qh_e10 p ix ka kk data dirty)) (fun i a => (p, ix, ka, kk, data, dirty, (i : Int))) (fun _ _ => True) trivial (fun i a hi hI => ⟨?_, fun _ _ => trivial⟩) (fun a hI => ?_)
  · show (qh_10_step p ix ka kk data dirty (i : Int)).val = _
    unfold qh_10_step qh_f10
    skip
    refine Tr.t (by simp; omega) ?_
    exact (Tr.t (by first | omega | (constructor <;> omega)) (Tr.bf (Tr.t (by first | omega | (constructor <;> omega)) (Tr.bf rfl (by rw [Tr.val_ok, wrap64 (i := (i : Int) + 1) (by omega) (by omega)]; rfl))) (by rw [Tr.val_ok, wrap64 (i := (i : Int) + 1) (by omega) (by omega)]; rfl)))
  · show (qh_10_step p ix ka kk data dirty (ix.toNat : Int)).val = _
    refine Tr.n (by first | (simp; done) | (simp; omega) | omega) ?_
    rfl
theorem qh_is10 : LoopIs tab FT D7 live 18 qh_lo 1 10 := by
  refine loop_told (sl := qh_10_sl) (step := qh_10_st) (out := qh_10_out) (lor := qh_lo10) (fin := fun x => (qh_10_fin (x.1) (x.2.1) (x.2.2.1) (x.2.2.2.1) (x.2.2.2.2.1) (x.2.2.2.2.2.1) (x.2.2.2.2.2.2))) (fun _ => rfl) ?_ (fun x n => qh_10_r x.1 x.2.1 x.2.2.1 x.2.2.2.1 x.2.2.2.2.1 x.2.2.2.2.2.1 x.2.2.2.2.2.2 n) (fun x ow => qh_10_h x.1 x.2.1 x.2.2.1 x.2.2.2.1 x.2.2.2.2.1 x.2.2.2.2.2.1 x.2.2.2.2.2.2 ow)
  intro s t h
  unfold qh_lo10 at h
  split at h
  · cases h; exact ⟨(_, _, _, _, _, _, _), rfl, rfl⟩
  · cases h
theorem qh_4_r (p : List TC) (i : Int) (fuel : Nat) : rounds (rnd tab FT D7 live 18 qh_lo 0 4) leave (fuel + 1) (qh_4_sl (p, i)) = ((qh_4_step p i)).run (goOn (fun s => rounds (rnd tab FT D7 live 18 qh_lo 0 4) leave fuel (qh_4_sl s)) fun w => some (qh_4_out w)) := by kernel_rfl
theorem qh_f4_eq (p : List TC) (i : Int) : qh_f4 p i = bif vslot (nth p 1).list i then Sum.inl () else Sum.inr (Sum.inl ()) := by
  unfold qh_f4 vslot slotOkR
  rw [show qh_k10_1 p i ((nth (row (nth p 1).list i) 0).int) ((nth (row (nth p 1).list i) 1).int) ((nth (row (nth p 1).list i) 2).str) ((nth (row (nth p 1).list i) 3).bool) 0 = !(noDup (nth p 1).list i) from by unfold qh_k10_1 noDup; rw [qh_R10_eq]; generalize allI _ _ = q; cases q <;> rfl]
  rw [show qz_v (nth (row (nth p 1).list i) 0).int 1 255 = inB (nth (row (nth p 1).list i) 0).int 1 255 from rfl, show qz_v (nth (row (nth p 1).list i) 1).int 0 4095 = inB (nth (row (nth p 1).list i) 1).int 0 4095 from rfl, show qz_v ((nth (row (nth p 1).list i) 2).str.length : Int) 1 512 = inB ((nth (row (nth p 1).list i) 2).str.length : Int) 1 512 from rfl]
  generalize inB (nth (row (nth p 1).list i) 0).int 1 255 = p0, inB (nth (row (nth p 1).list i) 1).int 0 4095 = p1, inB ((nth (row (nth p 1).list i) 2).str.length : Int) 1 512 = p2, noDup (nth p 1).list i = p3
  cases p0 <;> cases p1 <;> cases p2 <;> cases p3 <;> rfl
theorem qh_R4_eq (p : List TC)  : qh_R4 p 0 = bif allI (fun i : Nat => vslot (nth p 1).list (i : Int)) ((nth p 1).list.length) then .inr () else (Sum.inl ()) := by
  unfold qh_R4
  exact (iter_all (P := (fun i : Nat => vslot (nth p 1).list (i : Int))) (g := fun _ a => a) (w := Sum.inl ()) fun j a _ => qh_f4_eq p _)
theorem qh_4_h (p : List TC) (i : Int) (ow : qh_4_ω) : ((qh_4_fin p i)).val = some ow → ∃ fuel, loopN qh_4_st fuel (p, i) = some ow := by
  refine auto_const (R := (qh_R4 p i)) rfl (iter_onR (f := (fun i a => (qh_f4 p (i : Int)))) (fin := (fun a => (qh_e4 p))) (Q := endsAs () ()) (fun i a => by unfold qh_f4; exact (onR_bif rfl (onR_bif rfl (onR_bif rfl (onR_bif rfl trivial))))) (fun _ => rfl) _ _ _) ?_
  intro ho
  have ho : is (i = 0 ∧ Typed tab (.slice 48) (.l (nth p 1).list)) = true := ho.elim id id
  obtain ⟨rfl, ht⟩ := is_iff.1 ho
  have hlen : (nth p 1).list.length ≤ 140737488351232 := by have := typed_room ht; simp only [show (tab 48).bytes = 40 from rfl] at this; omega
  refine ⟨((nth p 1).list.length) + 1, ?_⟩
  refine iter_loop (step := qh_4_st) ((nth p 1).list.length) (fun i a => (qh_f4 p (i : Int))) (fun a => (qh_e4 p)) (fun i a => (p, (i : Int))) (fun _ _ => True) trivial (fun i a hi hI => ⟨?_, fun _ _ => trivial⟩) (fun a hI => ?_)
  · show (qh_4_step p (i : Int)).val = _
    unfold qh_4_step qh_f4
    skip
    refine Tr.t (by simp; omega) ?_
    exact (Tr.t (by first | omega | (constructor <;> omega) | (exact is_true ⟨rfl, by omega, by omega, by omega⟩)) (Tr.bf rfl (Tr.bf rfl (Tr.bf rfl (Tr.bf (Tr.t (by first | (exact is_true ⟨rfl, by omega, by omega, by omega⟩) | (first | (apply is_true; and_intros <;> (first | rfl | assumption | (first | (apply is_true; and_intros <;> (first | rfl | assumption | (first | (apply is_true; and_intros <;> (first | rfl | assumption)))))))))) rfl) (Tr.t (by first | (exact is_true ⟨rfl, by omega, by omega, by omega⟩) | (first | (apply is_true; and_intros <;> (first | rfl | assumption | (first | (apply is_true; and_intros <;> (first | rfl | assumption | (first | (apply is_true; and_intros <;> (first | rfl | assumption)))))))))) (by rw [Tr.val_ok, wrap64 (i := (i : Int) + 1) (by omega) (by omega)]; rfl)))))))
  · show (qh_4_step p ((nth p 1).list.length : Int)).val = _
    refine Tr.n (by first | (simp; done) | (simp; omega) | omega) ?_
    rfl
theorem qh_is4 : LoopIs tab FT D7 live 18 qh_lo 0 4 := by
  refine loop_told (sl := qh_4_sl) (step := qh_4_st) (out := qh_4_out) (lor := qh_lo4) (fin := fun x => (qh_4_fin (x.1) (x.2))) (fun _ => rfl) ?_ (fun x n => qh_4_r x.1 x.2 n) (fun x ow => qh_4_h x.1 x.2 ow)
  intro s t h
  unfold qh_lo4 at h
  split at h
  · cases h; exact ⟨(_, _), rfl, rfl⟩
  · cases h
noncomputable def qh_t (p : List TC) : Tr (Bool) := (.ite ((!(qz_v ((nth p 0).int) (1 : Int) (16 : Int))) = true) (.ok false)
  (.ite ((decide ((((nth p 1).list).length : Int) > (nth p 0).int)) = true) (.ok false)
   (.ite ((!(qz_v ((nth p 2).int) (0 : Int) (1000000 : Int))) = true) (.ok false)
    (.ite ((!(qz_v ((nth p 3).int) (0 : Int) (1000000 : Int))) = true) (.ok false)
     (.ite ((!(qz_v ((nth p 4).int) (0 : Int) (1000000 : Int))) = true) (.ok false)
      (.ite ((qh_k4_1 p (0 : Int)) = true) (.ite ((qh_o4_2 p (0 : Int)) = true) (.ok false)
        .no)
       (.ite ((qh_o4_3 p (0 : Int)) = true) (.ok true)
        .no)))))))
def qh_mk (p : Bool) : Res := [(false, [⟨.bool, .sh, TC.b p⟩])]
noncomputable def qh_c (p : List TC) : Bool := (bif (!(qz_v ((nth p 0).int) (1 : Int) (16 : Int))) then true else (bif (decide ((((nth p 1).list).length : Int) > (nth p 0).int)) then true else (bif (!(qz_v ((nth p 2).int) (0 : Int) (1000000 : Int))) then true else (bif (!(qz_v ((nth p 3).int) (0 : Int) (1000000 : Int))) then true else (bif (!(qz_v ((nth p 4).int) (0 : Int) (1000000 : Int))) then true else (bif (qh_k4_1 p (0 : Int)) then ((qh_o4_2 p (0 : Int)) && true) else ((qh_o4_3 p (0 : Int)) && true)))))))
noncomputable def qh_v (p : List TC) : Bool := (bif (!(qz_v ((nth p 0).int) (1 : Int) (16 : Int))) then false else (bif (decide ((((nth p 1).list).length : Int) > (nth p 0).int)) then false else (bif (!(qz_v ((nth p 2).int) (0 : Int) (1000000 : Int))) then false else (bif (!(qz_v ((nth p 3).int) (0 : Int) (1000000 : Int))) then false else (bif (!(qz_v ((nth p 4).int) (0 : Int) (1000000 : Int))) then false else (bif (qh_k4_1 p (0 : Int)) then false else true))))))
theorem qh_l (p : List TC) : (qh_c p) = true → (qh_t p).val = some (qh_v p) := by
  unfold qh_t qh_v qh_c
  exact fun h => (Tr.ss h (fun h => rfl) (fun h => (Tr.ss h (fun h => rfl) (fun h => (Tr.ss h (fun h => rfl) (fun h => (Tr.ss h (fun h => rfl) (fun h => (Tr.ss h (fun h => rfl) (fun h => (Tr.ss h (fun h => (Tr.gb h fun h => rfl)) (fun h => (Tr.gb h fun h => rfl)))))))))))))
noncomputable def qh_S : List Arg → Option (Bool × Res) := fun xs => match xs with
  | [(false, [(.ptr 28, TC.p p)])] => some ((qh_c p), qh_mk (qh_v p))
  | _ => .none
theorem qh_e (p : List TC) : runF tab FT D7 live 18 qh_lo [(false, [(.ptr 28, TC.p p)])] = (qh_t p).run fun p => some (qh_mk p) := by kernel_rfl
theorem qh_s : ∀ xs r, qh_S xs = some (true, r) → runF tab FT D7 live 18 qh_lo xs = some r := by
  intro xs r h
  unfold qh_S at h
  split at h
  · simp only [Option.some.injEq, Prod.mk.injEq] at h
    obtain ⟨h1, rfl⟩ := h
    exact fun_told (qh_e _) (qh_l _) h1
  · cases h
noncomputable def D8 : Dt := also D7 18 qh_S
theorem d8 : DOk Go.Proofs.Try.prog tab D8 := d7.also mixed_ok tab_ok names_ok (fnLoops_two (by kernel_rfl) qh_is4 qh_is10) qh_s
theorem qh_cc {p : List TC} (hA : Typed tab (.slice 48) (.l (nth p 1).list)) : (qh_c p) = true := by
  unfold qh_c
  refine bifT (fun b1 => ?_) (fun b1 => ?_)
  · skip
    rfl
  · skip
    refine bifT (fun b2 => ?_) (fun b2 => ?_)
    · skip
      rfl
    · skip
      refine bifT (fun b3 => ?_) (fun b3 => ?_)
      · skip
        rfl
      · skip
        refine bifT (fun b4 => ?_) (fun b4 => ?_)
        · skip
          rfl
        · skip
          refine bifT (fun b5 => ?_) (fun b5 => ?_)
          · skip
            rfl
          · skip
            refine bifT (fun b6 => ?_) (fun b6 => ?_)
            · skip
              refine andT (by exact is_true ⟨rfl, hA⟩) ?_
              rfl
            · skip
              refine andT (by exact is_true ⟨rfl, hA⟩) ?_
              rfl
theorem qh_vv (p : List TC) : qh_v p = cacheOk (nth p 0).int (nth p 1).list (nth p 2).int (nth p 3).int (nth p 4).int := by
  unfold qh_v qh_k4_1 cacheOk
  rw [qh_R4_eq, dgt]
  rw [show qz_v (nth p 0).int 1 16 = inB (nth p 0).int 1 16 from rfl, show qz_v (nth p 2).int 0 1000000 = inB (nth p 2).int 0 1000000 from rfl, show qz_v (nth p 3).int 0 1000000 = inB (nth p 3).int 0 1000000 from rfl, show qz_v (nth p 4).int 0 1000000 = inB (nth p 4).int 0 1000000 from rfl]
  generalize inB (nth p 0).int 1 16 = q0, inB (nth p 2).int 0 1000000 = q1, inB (nth p 3).int 0 1000000 = q2, inB (nth p 4).int 0 1000000 = q3, decide (((nth p 1).list.length : Int) ≤ (nth p 0).int) = q4, allI (fun i : Nat => vslot (nth p 1).list (i : Int)) (nth p 1).list.length = q5
  cases q0 <;> cases q1 <;> cases q2 <;> cases q3 <;> cases q4 <;> cases q5 <;> rfl
noncomputable def qd_f6 (p sz : Int) (A : LL) (nh mi wr z0 : Int) (Z : LL) (z2 z3 z4 q0 q2 q3 q4 i : Int) (Y : LL) : (LL) ⊕ ((Int × LL × Int × Int × Int × Int × LL × Int × Int × Int)) := (bif (!((nth (row A i) 0).int == p)) then (.inl (Y ++ [[TC.i ((nth (row A i) 0).int), TC.i ((nth (row A i) 1).int), TC.s ((nth (row A i) 2).str), TC.b ((nth (row A i) 3).bool)]])) else (.inl Y))
noncomputable def qd_e6 (p sz : Int) (A : LL) (nh mi wr z0 : Int) (Z : LL) (z2 z3 z4 q0 q2 q3 q4 : Int) (Y : LL) : (Int × LL × Int × Int × Int × Int × LL × Int × Int × Int) := (z0, Z, z2, z3, z4, q0, Y, q2, q3, q4)
noncomputable def qd_R6 (p sz : Int) (A : LL) (nh mi wr z0 : Int) (Z : LL) (z2 z3 z4 q0 : Int) (Y : LL) (q2 q3 q4 i : Int) : (Int × LL × Int × Int × Int × Int × LL × Int × Int × Int) := iter (fun i a => (qd_f6 p sz A nh mi wr z0 Z z2 z3 z4 q0 q2 q3 q4 (i : Int) a)) (fun a => (qd_e6 p sz A nh mi wr z0 Z z2 z3 z4 q0 q2 q3 q4 a)) (A.length) 0 Y
abbrev qd_6_σ := Int × Int × LL × Int × Int × Int × Int × LL × Int × Int × Int × Int × LL × Int × Int × Int × Int
abbrev qd_6_ω := (Int × LL × Int × Int × Int × Int × LL × Int × Int × Int)
noncomputable def qd_6_step (p sz : Int) (A : LL) (nh mi wr z0 : Int) (Z : LL) (z2 z3 z4 q0 : Int) (Y : LL) (q2 q3 q4 i : Int) : Tr (qd_6_σ ⊕ qd_6_ω) := (.ite ((decide (i < (A.length : Int))) = true) (.ite ((0 : Int) ≤ i ∧ i < (A.length : Int)) (.ite ((!((nth (row A i) 0).int == p)) = true) (.ite ((0 : Int) ≤ i ∧ i < (A.length : Int)) (.ite (roomFor (tab 48) (Y ++ [[TC.i ((nth (row A i) 0).int), TC.i ((nth (row A i) 1).int), TC.s ((nth (row A i) 2).str), TC.b ((nth (row A i) 3).bool)]]).length) (.ok (.inl (p, sz, A, nh, mi, wr, z0, Z, z2, z3, z4, q0, (Y ++ [[TC.i ((nth (row A i) 0).int), TC.i ((nth (row A i) 1).int), TC.s ((nth (row A i) 2).str), TC.b ((nth (row A i) 3).bool)]]), q2, q3, q4, (IntKind.wrap .i64 (i + (1 : Int))))))
      .no)
     .no)
    (.ok (.inl (p, sz, A, nh, mi, wr, z0, Z, z2, z3, z4, q0, Y, q2, q3, q4, (IntKind.wrap .i64 (i + (1 : Int)))))))
   .no)
  (.ok (.inr (z0, Z, z2, z3, z4, q0, Y, q2, q3, q4))))
noncomputable def qd_6_st : qd_6_σ → Tr (qd_6_σ ⊕ qd_6_ω) := fun x => (qd_6_step (x.1) (x.2.1) (x.2.2.1) (x.2.2.2.1) (x.2.2.2.2.1) (x.2.2.2.2.2.1) (x.2.2.2.2.2.2.1) (x.2.2.2.2.2.2.2.1) (x.2.2.2.2.2.2.2.2.1) (x.2.2.2.2.2.2.2.2.2.1) (x.2.2.2.2.2.2.2.2.2.2.1) (x.2.2.2.2.2.2.2.2.2.2.2.1) (x.2.2.2.2.2.2.2.2.2.2.2.2.1) (x.2.2.2.2.2.2.2.2.2.2.2.2.2.1) (x.2.2.2.2.2.2.2.2.2.2.2.2.2.2.1) (x.2.2.2.2.2.2.2.2.2.2.2.2.2.2.2.1) (x.2.2.2.2.2.2.2.2.2.2.2.2.2.2.2.2))
noncomputable def qd_o6_1 (p sz : Int) (A : LL) (nh mi wr z0 : Int) (Z : LL) (z2 z3 z4 q0 : Int) (Y : LL) (q2 q3 q4 i : Int) : Bool := is (i = 0 ∧ Typed tab (.slice 48) (.l A) ∧ Y = [])
noncomputable def qd_u6_1_0 (p sz : Int) (A : LL) (nh mi wr z0 : Int) (Z : LL) (z2 z3 z4 q0 : Int) (Y : LL) (q2 q3 q4 i : Int) : Int := (qd_R6 p sz A nh mi wr z0 Z z2 z3 z4 q0 Y q2 q3 q4 i).1
noncomputable def qd_u6_1_1 (p sz : Int) (A : LL) (nh mi wr z0 : Int) (Z : LL) (z2 z3 z4 q0 : Int) (Y : LL) (q2 q3 q4 i : Int) : LL := (qd_R6 p sz A nh mi wr z0 Z z2 z3 z4 q0 Y q2 q3 q4 i).2.1
noncomputable def qd_u6_1_2 (p sz : Int) (A : LL) (nh mi wr z0 : Int) (Z : LL) (z2 z3 z4 q0 : Int) (Y : LL) (q2 q3 q4 i : Int) : Int := (qd_R6 p sz A nh mi wr z0 Z z2 z3 z4 q0 Y q2 q3 q4 i).2.2.1
noncomputable def qd_u6_1_3 (p sz : Int) (A : LL) (nh mi wr z0 : Int) (Z : LL) (z2 z3 z4 q0 : Int) (Y : LL) (q2 q3 q4 i : Int) : Int := (qd_R6 p sz A nh mi wr z0 Z z2 z3 z4 q0 Y q2 q3 q4 i).2.2.2.1
noncomputable def qd_u6_1_4 (p sz : Int) (A : LL) (nh mi wr z0 : Int) (Z : LL) (z2 z3 z4 q0 : Int) (Y : LL) (q2 q3 q4 i : Int) : Int := (qd_R6 p sz A nh mi wr z0 Z z2 z3 z4 q0 Y q2 q3 q4 i).2.2.2.2.1
noncomputable def qd_u6_1_5 (p sz : Int) (A : LL) (nh mi wr z0 : Int) (Z : LL) (z2 z3 z4 q0 : Int) (Y : LL) (q2 q3 q4 i : Int) : Int := (qd_R6 p sz A nh mi wr z0 Z z2 z3 z4 q0 Y q2 q3 q4 i).2.2.2.2.2.1
noncomputable def qd_u6_1_6 (p sz : Int) (A : LL) (nh mi wr z0 : Int) (Z : LL) (z2 z3 z4 q0 : Int) (Y : LL) (q2 q3 q4 i : Int) : LL := (qd_R6 p sz A nh mi wr z0 Z z2 z3 z4 q0 Y q2 q3 q4 i).2.2.2.2.2.2.1
noncomputable def qd_u6_1_7 (p sz : Int) (A : LL) (nh mi wr z0 : Int) (Z : LL) (z2 z3 z4 q0 : Int) (Y : LL) (q2 q3 q4 i : Int) : Int := (qd_R6 p sz A nh mi wr z0 Z z2 z3 z4 q0 Y q2 q3 q4 i).2.2.2.2.2.2.2.1
noncomputable def qd_u6_1_8 (p sz : Int) (A : LL) (nh mi wr z0 : Int) (Z : LL) (z2 z3 z4 q0 : Int) (Y : LL) (q2 q3 q4 i : Int) : Int := (qd_R6 p sz A nh mi wr z0 Z z2 z3 z4 q0 Y q2 q3 q4 i).2.2.2.2.2.2.2.2.1
noncomputable def qd_u6_1_9 (p sz : Int) (A : LL) (nh mi wr z0 : Int) (Z : LL) (z2 z3 z4 q0 : Int) (Y : LL) (q2 q3 q4 i : Int) : Int := (qd_R6 p sz A nh mi wr z0 Z z2 z3 z4 q0 Y q2 q3 q4 i).2.2.2.2.2.2.2.2.2
noncomputable def qd_6_fin (p sz : Int) (A : LL) (nh mi wr z0 : Int) (Z : LL) (z2 z3 z4 q0 : Int) (Y : LL) (q2 q3 q4 i : Int) : Told qd_6_ω := (.leaf (qd_o6_1 p sz A nh mi wr z0 Z z2 z3 z4 q0 Y q2 q3 q4 i) ((qd_u6_1_0 p sz A nh mi wr z0 Z z2 z3 z4 q0 Y q2 q3 q4 i), (qd_u6_1_1 p sz A nh mi wr z0 Z z2 z3 z4 q0 Y q2 q3 q4 i), (qd_u6_1_2 p sz A nh mi wr z0 Z z2 z3 z4 q0 Y q2 q3 q4 i), (qd_u6_1_3 p sz A nh mi wr z0 Z z2 z3 z4 q0 Y q2 q3 q4 i), (qd_u6_1_4 p sz A nh mi wr z0 Z z2 z3 z4 q0 Y q2 q3 q4 i), (qd_u6_1_5 p sz A nh mi wr z0 Z z2 z3 z4 q0 Y q2 q3 q4 i), (qd_u6_1_6 p sz A nh mi wr z0 Z z2 z3 z4 q0 Y q2 q3 q4 i), (qd_u6_1_7 p sz A nh mi wr z0 Z z2 z3 z4 q0 Y q2 q3 q4 i), (qd_u6_1_8 p sz A nh mi wr z0 Z z2 z3 z4 q0 Y q2 q3 q4 i), (qd_u6_1_9 p sz A nh mi wr z0 Z z2 z3 z4 q0 Y q2 q3 q4 i)))
def qd_6_sl (x : qd_6_σ) : List Slot := [⟨.val false [⟨.int .i64, .sh, TC.i (x.1)⟩], ⟨0, 0⟩⟩, ⟨.bx 28 [⟨.int .i64, .sh, TC.i (x.2.1)⟩, ⟨.slice 48, .sh, TC.l (x.2.2.1)⟩, ⟨.int .i64, .sh, TC.i (x.2.2.2.1)⟩, ⟨.int .i64, .sh, TC.i (x.2.2.2.2.1)⟩, ⟨.int .i64, .sh, TC.i (x.2.2.2.2.2.1)⟩], ⟨0, 0⟩⟩, ⟨.bx 28 [⟨.int .i64, .own true, TC.i (x.2.2.2.2.2.2.1)⟩, ⟨.slice 48, .own true, TC.l (x.2.2.2.2.2.2.2.1)⟩, ⟨.int .i64, .own true, TC.i (x.2.2.2.2.2.2.2.2.1)⟩, ⟨.int .i64, .own true, TC.i (x.2.2.2.2.2.2.2.2.2.1)⟩, ⟨.int .i64, .own true, TC.i (x.2.2.2.2.2.2.2.2.2.2.1)⟩], ⟨0, 0⟩⟩, ⟨.bx 28 [⟨.int .i64, .sh, TC.i (x.2.2.2.2.2.2.2.2.2.2.2.1)⟩, ⟨.slice 48, .own true, TC.l (x.2.2.2.2.2.2.2.2.2.2.2.2.1)⟩, ⟨.int .i64, .sh, TC.i (x.2.2.2.2.2.2.2.2.2.2.2.2.2.1)⟩, ⟨.int .i64, .sh, TC.i (x.2.2.2.2.2.2.2.2.2.2.2.2.2.2.1)⟩, ⟨.int .i64, .sh, TC.i (x.2.2.2.2.2.2.2.2.2.2.2.2.2.2.2.1)⟩], ⟨0, 0⟩⟩, ⟨.val false [⟨.int .i64, .sh, TC.i (x.2.2.2.2.2.2.2.2.2.2.2.2.2.2.2.2)⟩], ⟨0, 0⟩⟩]
def qd_6_out : qd_6_ω → Ex × List Slot := (fun x => (.exit 0, [⟨.bx 28 [⟨.int .i64, .own true, TC.i (x.1)⟩, ⟨.slice 48, .own true, TC.l (x.2.1)⟩, ⟨.int .i64, .own true, TC.i (x.2.2.1)⟩, ⟨.int .i64, .own true, TC.i (x.2.2.2.1)⟩, ⟨.int .i64, .own true, TC.i (x.2.2.2.2.1)⟩], ⟨0, 0⟩⟩, Slot.none, ⟨.bx 28 [⟨.int .i64, .sh, TC.i (x.2.2.2.2.2.1)⟩, ⟨.slice 48, .own true, TC.l (x.2.2.2.2.2.2.1)⟩, ⟨.int .i64, .sh, TC.i (x.2.2.2.2.2.2.2.1)⟩, ⟨.int .i64, .sh, TC.i (x.2.2.2.2.2.2.2.2.1)⟩, ⟨.int .i64, .sh, TC.i (x.2.2.2.2.2.2.2.2.2)⟩], ⟨0, 0⟩⟩]))
noncomputable def qd_lo6 : List Slot → Option (Told (Ex × List Slot)) := fun s => match s with
  | [⟨.val false [⟨.int .i64, .sh, TC.i p⟩], ⟨0, 0⟩⟩, ⟨.bx 28 [⟨.int .i64, .sh, TC.i sz⟩, ⟨.slice 48, .sh, TC.l A⟩, ⟨.int .i64, .sh, TC.i nh⟩, ⟨.int .i64, .sh, TC.i mi⟩, ⟨.int .i64, .sh, TC.i wr⟩], ⟨0, 0⟩⟩, ⟨.bx 28 [⟨.int .i64, .own true, TC.i z0⟩, ⟨.slice 48, .own true, TC.l Z⟩, ⟨.int .i64, .own true, TC.i z2⟩, ⟨.int .i64, .own true, TC.i z3⟩, ⟨.int .i64, .own true, TC.i z4⟩], ⟨0, 0⟩⟩, ⟨.bx 28 [⟨.int .i64, .sh, TC.i q0⟩, ⟨.slice 48, .own true, TC.l Y⟩, ⟨.int .i64, .sh, TC.i q2⟩, ⟨.int .i64, .sh, TC.i q3⟩, ⟨.int .i64, .sh, TC.i q4⟩], ⟨0, 0⟩⟩, ⟨.val false [⟨.int .i64, .sh, TC.i i⟩], ⟨0, 0⟩⟩] => some (((qd_6_fin p sz A nh mi wr z0 Z z2 z3 z4 q0 Y q2 q3 q4 i)).map qd_6_out)
  | _ => .none
noncomputable def qd_lo : LoopTeller := fun r s => bif Nat.beq r 6 then qd_lo6 s else .none
theorem qd_6_r (p sz : Int) (A : LL) (nh mi wr z0 : Int) (Z : LL) (z2 z3 z4 q0 : Int) (Y : LL) (q2 q3 q4 i : Int) (fuel : Nat) : rounds (rnd tab FT D8 live 6 qd_lo 0 6) leave (fuel + 1) (qd_6_sl (p, sz, A, nh, mi, wr, z0, Z, z2, z3, z4, q0, Y, q2, q3, q4, i)) = ((qd_6_step p sz A nh mi wr z0 Z z2 z3 z4 q0 Y q2 q3 q4 i)).run (goOn (fun s => rounds (rnd tab FT D8 live 6 qd_lo 0 6) leave fuel (qd_6_sl s)) fun w => some (qd_6_out w)) := by kernel_rfl
theorem qd_row {A : LL} {x : List TC} (h : Typed tab (.slice 48) (.l A)) (hx : x ∈ A) : x.length = 4 ∧ [TC.i ((nth x 0).int), TC.i ((nth x 1).int), TC.s ((nth x 2).str), TC.b ((nth x 3).bool)] = x := by
  obtain ⟨hl, hk⟩ := typed_elem h hx
  have e0 : TC.i ((nth x 0).int) = nth x 0 := typed_int_eq (hk 0 (by decide))
  have e1 : TC.i ((nth x 1).int) = nth x 1 := typed_int_eq (hk 1 (by decide))
  have e2 : TC.s ((nth x 2).str) = nth x 2 := typed_str_eq (hk 2 (by decide))
  have e3 : TC.b ((nth x 3).bool) = nth x 3 := typed_bool_eq (hk 3 (by decide))
  refine ⟨hl, ?_⟩
  rw [e0, e1, e2, e3]
  exact (row_eta hl).symm
theorem qd_R6_eq {p sz nh mi wr z0 z2 z3 z4 q0 q2 q3 q4 : Int} {A Z : LL} (ht : Typed tab (.slice 48) (.l A)) : qd_R6 p sz A nh mi wr z0 Z z2 z3 z4 q0 [] q2 q3 q4 0 = (z0, Z, z2, z3, z4, q0, A.filter (keepP p), q2, q3, q4) := by
  unfold qd_R6
  rw [← foldI_filter (P := keepP p)]
  refine iter_each (g := fun j (a : LL) => bif keepP p (row A (j : Int)) then a ++ [row A (j : Int)] else a) (fin := fun a => qd_e6 p sz A nh mi wr z0 Z z2 z3 z4 q0 q2 q3 q4 a) fun j a hj => ?_
  unfold qd_f6
  rw [(qd_row (x := row A (j : Int)) ht (by rw [row_nat]; exact mem_getD hj)).2]
  unfold keepP
  cases (!((nth (row A (j : Int)) 0).int == p)) <;> rfl
theorem qd_6_h (p sz : Int) (A : LL) (nh mi wr z0 : Int) (Z : LL) (z2 z3 z4 q0 : Int) (Y : LL) (q2 q3 q4 i : Int) (ow : qd_6_ω) : ((qd_6_fin p sz A nh mi wr z0 Z z2 z3 z4 q0 Y q2 q3 q4 i)).val = some ow → ∃ fuel, loopN qd_6_st fuel (p, sz, A, nh, mi, wr, z0, Z, z2, z3, z4, q0, Y, q2, q3, q4, i) = some ow := by
  refine auto_leaf (R := (qd_R6 p sz A nh mi wr z0 Z z2 z3 z4 q0 Y q2 q3 q4 i)) ?_
  intro ho
  have ho : is (i = 0 ∧ Typed tab (.slice 48) (.l A) ∧ Y = []) = true := ho
  obtain ⟨rfl, ht, rfl⟩ := is_iff.1 ho
  have hlen : A.length ≤ 140737488351232 := by have := typed_room ht; simp only [show (tab 48).bytes = 40 from rfl] at this; omega
  refine ⟨(A.length) + 1, ?_⟩
  refine iter_loop (step := qd_6_st) (a := ([] : LL)) (A.length) (fun i a => (qd_f6 p sz A nh mi wr z0 Z z2 z3 z4 q0 q2 q3 q4 (i : Int) a)) (fun a => (qd_e6 p sz A nh mi wr z0 Z z2 z3 z4 q0 q2 q3 q4 a)) (fun i a => (p, sz, A, nh, mi, wr, z0, Z, z2, z3, z4, q0, a, q2, q3, q4, (i : Int))) (fun i (a : LL) => a.length ≤ i) (Nat.le_refl _) (fun i a hi hI => ⟨?_, fun a' h => by
    unfold qd_f6 at h
    revert h
    cases (!((nth (row A (i : Int)) 0).int == p)) <;> (intro h; cases h; first | omega | (simp only [List.length_append, List.length_singleton]; omega))⟩) (fun a hI => ?_)
  · show (qd_6_step p sz A nh mi wr z0 Z z2 z3 z4 q0 a q2 q3 q4 (i : Int)).val = _
    unfold qd_6_step qd_f6
    have c2 : Typed tab (.str) (.s (nth (A.getD i []) 2).str) := typed_s (typed_cell ht (A.getD i []) (mem_getD hi) 2 (by decide))
    refine Tr.t (by simp; omega) ?_
    exact (Tr.t (by first | omega | (constructor <;> omega) | (have hI := hI; have hlen8 := typed_room ht; simp only [show (tab 48).bytes = 40 from rfl] at hlen8; unfold roomFor; simp only [show (tab 48).bytes = 40 from rfl, List.length_append, List.length_singleton]; omega)) (Tr.bf (Tr.t (by first | omega | (constructor <;> omega) | (have hI := hI; have hlen8 := typed_room ht; simp only [show (tab 48).bytes = 40 from rfl] at hlen8; unfold roomFor; simp only [show (tab 48).bytes = 40 from rfl, List.length_append, List.length_singleton]; omega)) (Tr.t (by first | omega | (constructor <;> omega) | (have hI := hI; have hlen8 := typed_room ht; simp only [show (tab 48).bytes = 40 from rfl] at hlen8; unfold roomFor; simp only [show (tab 48).bytes = 40 from rfl, List.length_append, List.length_singleton]; omega)) (by rw [Tr.val_ok, wrap64 (i := (i : Int) + 1) (by omega) (by omega)]; rfl))) (by rw [Tr.val_ok, wrap64 (i := (i : Int) + 1) (by omega) (by omega)]; rfl)))
  · show (qd_6_step p sz A nh mi wr z0 Z z2 z3 z4 q0 a q2 q3 q4 (A.length : Int)).val = _
    refine Tr.n (by first | (simp; done) | (simp; omega) | omega) ?_
    rfl
theorem qd_is6 : LoopIs tab FT D8 live 6 qd_lo 0 6 := by
  refine loop_told (sl := qd_6_sl) (step := qd_6_st) (out := qd_6_out) (lor := qd_lo6) (fin := fun x => (qd_6_fin (x.1) (x.2.1) (x.2.2.1) (x.2.2.2.1) (x.2.2.2.2.1) (x.2.2.2.2.2.1) (x.2.2.2.2.2.2.1) (x.2.2.2.2.2.2.2.1) (x.2.2.2.2.2.2.2.2.1) (x.2.2.2.2.2.2.2.2.2.1) (x.2.2.2.2.2.2.2.2.2.2.1) (x.2.2.2.2.2.2.2.2.2.2.2.1) (x.2.2.2.2.2.2.2.2.2.2.2.2.1) (x.2.2.2.2.2.2.2.2.2.2.2.2.2.1) (x.2.2.2.2.2.2.2.2.2.2.2.2.2.2.1) (x.2.2.2.2.2.2.2.2.2.2.2.2.2.2.2.1) (x.2.2.2.2.2.2.2.2.2.2.2.2.2.2.2.2))) (fun _ => rfl) ?_ (fun x n => qd_6_r x.1 x.2.1 x.2.2.1 x.2.2.2.1 x.2.2.2.2.1 x.2.2.2.2.2.1 x.2.2.2.2.2.2.1 x.2.2.2.2.2.2.2.1 x.2.2.2.2.2.2.2.2.1 x.2.2.2.2.2.2.2.2.2.1 x.2.2.2.2.2.2.2.2.2.2.1 x.2.2.2.2.2.2.2.2.2.2.2.1 x.2.2.2.2.2.2.2.2.2.2.2.2.1 x.2.2.2.2.2.2.2.2.2.2.2.2.2.1 x.2.2.2.2.2.2.2.2.2.2.2.2.2.2.1 x.2.2.2.2.2.2.2.2.2.2.2.2.2.2.2.1 x.2.2.2.2.2.2.2.2.2.2.2.2.2.2.2.2 n) (fun x ow => qd_6_h x.1 x.2.1 x.2.2.1 x.2.2.2.1 x.2.2.2.2.1 x.2.2.2.2.2.1 x.2.2.2.2.2.2.1 x.2.2.2.2.2.2.2.1 x.2.2.2.2.2.2.2.2.1 x.2.2.2.2.2.2.2.2.2.1 x.2.2.2.2.2.2.2.2.2.2.1 x.2.2.2.2.2.2.2.2.2.2.2.1 x.2.2.2.2.2.2.2.2.2.2.2.2.1 x.2.2.2.2.2.2.2.2.2.2.2.2.2.1 x.2.2.2.2.2.2.2.2.2.2.2.2.2.2.1 x.2.2.2.2.2.2.2.2.2.2.2.2.2.2.2.1 x.2.2.2.2.2.2.2.2.2.2.2.2.2.2.2.2 ow)
  intro s t h
  unfold qd_lo6 at h
  split at h
  · cases h; exact ⟨(_, _, _, _, _, _, _, _, _, _, _, _, _, _, _, _, _), rfl, rfl⟩
  · cases h
noncomputable def qd_t (sz : Int) (A : LL) (nh mi wr p : Int) : Tr (Int × LL × Int × Int × Int × Int) := (.ite ((qh_c [TC.i sz, TC.l A, TC.i nh, TC.i mi, TC.i wr]) = true) (.ite ((!(qh_v [TC.i sz, TC.l A, TC.i nh, TC.i mi, TC.i wr])) = true) (.ok ((0 : Int), [], (0 : Int), (0 : Int), (0 : Int), (1 : Int)))
   (.ite ((qd_o6_1 p sz A nh mi wr (0 : Int) [] (0 : Int) (0 : Int) (0 : Int) sz [] nh mi wr (0 : Int)) = true) (.ok ((qd_u6_1_5 p sz A nh mi wr (0 : Int) [] (0 : Int) (0 : Int) (0 : Int) sz [] nh mi wr (0 : Int)), (qd_u6_1_6 p sz A nh mi wr (0 : Int) [] (0 : Int) (0 : Int) (0 : Int) sz [] nh mi wr (0 : Int)), (qd_u6_1_7 p sz A nh mi wr (0 : Int) [] (0 : Int) (0 : Int) (0 : Int) sz [] nh mi wr (0 : Int)), (qd_u6_1_8 p sz A nh mi wr (0 : Int) [] (0 : Int) (0 : Int) (0 : Int) sz [] nh mi wr (0 : Int)), (qd_u6_1_9 p sz A nh mi wr (0 : Int) [] (0 : Int) (0 : Int) (0 : Int) sz [] nh mi wr (0 : Int)), (0 : Int)))
    .no))
  .no)
def qd_mk (p : Int × LL × Int × Int × Int × Int) : Res := [(true, [⟨.int .i64, .sh, TC.i (p.1)⟩, ⟨.slice 48, .own true, TC.l (p.2.1)⟩, ⟨.int .i64, .sh, TC.i (p.2.2.1)⟩, ⟨.int .i64, .sh, TC.i (p.2.2.2.1)⟩, ⟨.int .i64, .sh, TC.i (p.2.2.2.2.1)⟩]), (false, [⟨.int .i64, .sh, TC.i (p.2.2.2.2.2)⟩])]
noncomputable def qd_c (sz : Int) (A : LL) (nh mi wr p : Int) : Bool := ((qh_c [TC.i sz, TC.l A, TC.i nh, TC.i mi, TC.i wr]) && (bif (!(qh_v [TC.i sz, TC.l A, TC.i nh, TC.i mi, TC.i wr])) then true else ((qd_o6_1 p sz A nh mi wr (0 : Int) [] (0 : Int) (0 : Int) (0 : Int) sz [] nh mi wr (0 : Int)) && true)))
noncomputable def qd_v (sz : Int) (A : LL) (nh mi wr p : Int) : Int × LL × Int × Int × Int × Int := (bif (!(qh_v [TC.i sz, TC.l A, TC.i nh, TC.i mi, TC.i wr])) then ((0 : Int), [], (0 : Int), (0 : Int), (0 : Int), (1 : Int)) else ((qd_u6_1_5 p sz A nh mi wr (0 : Int) [] (0 : Int) (0 : Int) (0 : Int) sz [] nh mi wr (0 : Int)), (qd_u6_1_6 p sz A nh mi wr (0 : Int) [] (0 : Int) (0 : Int) (0 : Int) sz [] nh mi wr (0 : Int)), (qd_u6_1_7 p sz A nh mi wr (0 : Int) [] (0 : Int) (0 : Int) (0 : Int) sz [] nh mi wr (0 : Int)), (qd_u6_1_8 p sz A nh mi wr (0 : Int) [] (0 : Int) (0 : Int) (0 : Int) sz [] nh mi wr (0 : Int)), (qd_u6_1_9 p sz A nh mi wr (0 : Int) [] (0 : Int) (0 : Int) (0 : Int) sz [] nh mi wr (0 : Int)), (0 : Int)))
theorem qd_l (sz : Int) (A : LL) (nh mi wr p : Int) : (qd_c sz A nh mi wr p) = true → (qd_t sz A nh mi wr p).val = some (qd_v sz A nh mi wr p) := by
  unfold qd_t qd_v qd_c
  exact fun h => (Tr.gb h fun h => (Tr.ss h (fun h => rfl) (fun h => (Tr.gb h fun h => rfl))))
noncomputable def qd_S : List Arg → Option (Bool × Res) := fun xs => match xs with
  | [(true, [(.int .i64, TC.i sz), (.slice 48, TC.l A), (.int .i64, TC.i nh), (.int .i64, TC.i mi), (.int .i64, TC.i wr)]), (false, [(.int .i64, TC.i p)])] => some ((qd_c sz A nh mi wr p), qd_mk (qd_v sz A nh mi wr p))
  | _ => .none
theorem qd_e (sz : Int) (A : LL) (nh mi wr p : Int) : runF tab FT D8 live 6 qd_lo [(true, [(.int .i64, TC.i sz), (.slice 48, TC.l A), (.int .i64, TC.i nh), (.int .i64, TC.i mi), (.int .i64, TC.i wr)]), (false, [(.int .i64, TC.i p)])] = (qd_t sz A nh mi wr p).run fun p => some (qd_mk p) := by kernel_rfl
theorem qd_s : ∀ xs r, qd_S xs = some (true, r) → runF tab FT D8 live 6 qd_lo xs = some r := by
  intro xs r h
  unfold qd_S at h
  split at h
  · simp only [Option.some.injEq, Prod.mk.injEq] at h
    obtain ⟨h1, rfl⟩ := h
    exact fun_told (qd_e _ _ _ _ _ _) (qd_l _ _ _ _ _ _) h1
  · cases h
noncomputable def D9 : Dt := also D8 6 qd_S
theorem d9 : DOk Go.Proofs.Try.prog tab D9 := d8.also mixed_ok tab_ok names_ok (fnLoops_one (by kernel_rfl) qd_is6) qd_s
theorem qd_cc {sz : Int} {A : LL} {nh : Int} {mi : Int} {wr : Int} {p : Int} (ht : Typed tab (.slice 48) (.l A)) : (qd_c sz A nh mi wr p) = true := by
  unfold qd_c
  refine andT (by first | (apply qh_cc <;> assumption) | (first | (apply is_true; and_intros <;> (first | rfl | assumption | (apply qh_cc <;> assumption) | (first | (apply is_true; and_intros <;> (first | rfl | assumption | (apply qh_cc <;> assumption))) | (apply qh_cc <;> assumption)))) | (apply qh_cc <;> assumption))) ?_
  refine bifT (fun b1 => ?_) (fun b1 => ?_)
  · skip
    rfl
  · skip
    refine andT (by exact is_true ⟨rfl, ht, rfl⟩) ?_
    rfl
theorem qd_vv {sz : Int} {A : LL} {nh mi wr p : Int} (ht : Typed tab (.slice 48) (.l A)) : qd_v sz A nh mi wr p = forgetV sz A nh mi wr p := by
  unfold qd_v forgetV
  rw [qh_vv]
  show (bif !(cacheOk sz A nh mi wr) then _ else _) = _
  cases cacheOk sz A nh mi wr with
  | false => rfl
  | true =>
    show (_, _, _, _, _, _) = (_, _, _, _, _, _)
    unfold qd_u6_1_5 qd_u6_1_6 qd_u6_1_7 qd_u6_1_8 qd_u6_1_9
    rw [qd_R6_eq ht]
noncomputable def qba_t (a0 a1 a2 : Int) : Tr (Bool) := (.ite ((decide (a0 ≥ a1)) = true) (.ok (decide (a0 ≤ a2)))
  (.ok false))
def qba_mk (p : Bool) : Res := [(false, [⟨.bool, .sh, TC.b p⟩])]
noncomputable def qba_c (a0 a1 a2 : Int) : Bool := true
noncomputable def qba_v (a0 a1 a2 : Int) : Bool := (bif (decide (a0 ≥ a1)) then (decide (a0 ≤ a2)) else false)
theorem qba_l (a0 a1 a2 : Int) : (qba_c a0 a1 a2) = true → (qba_t a0 a1 a2).val = some (qba_v a0 a1 a2) := by
  intro h
  skip
  unfold qba_t qba_v
  exact (Tr.s rfl rfl)
noncomputable def qba_S : List Arg → Option (Bool × Res) := fun xs => match xs with
  | [(false, [(.int .i64, TC.i a0)]), (false, [(.int .i64, TC.i a1)]), (false, [(.int .i64, TC.i a2)])] => some (true, qba_mk (qba_v a0 a1 a2))
  | _ => .none
theorem qba_e (a0 a1 a2 : Int) : runF tab FT D9 live 41 noLoops [(false, [(.int .i64, TC.i a0)]), (false, [(.int .i64, TC.i a1)]), (false, [(.int .i64, TC.i a2)])] = (qba_t a0 a1 a2).run fun p => some (qba_mk p) := by kernel_rfl
theorem qba_s : ∀ xs r, qba_S xs = some (true, r) → runF tab FT D9 live 41 noLoops xs = some r := by
  intro xs r h
  unfold qba_S at h
  split at h
  · simp only [Option.some.injEq, Prod.mk.injEq] at h
    obtain ⟨h1, rfl⟩ := h
    exact fun_told (qba_e _ _ _) (qba_l _ _ _) rfl
  · cases h
noncomputable def D10 : Dt := also D9 41 qba_S
theorem d10 : DOk Go.Proofs.Try.prog tab D10 := d9.also mixed_ok tab_ok names_ok noLoops_ok qba_s
noncomputable def qbc_t (a0 : Int) (a1 a2 : List TC) : Tr (Bool) := .ok (!(qba_v a0 ((nth a1 0).int) ((nth a2 0).int)))
def qbc_mk (p : Bool) : Res := [(false, [⟨.bool, .sh, TC.b p⟩])]
noncomputable def qbc_c (a0 : Int) (a1 a2 : List TC) : Bool := true
noncomputable def qbc_v (a0 : Int) (a1 a2 : List TC) : Bool := (!(qba_v a0 ((nth a1 0).int) ((nth a2 0).int)))
theorem qbc_l (a0 : Int) (a1 a2 : List TC) : (qbc_c a0 a1 a2) = true → (qbc_t a0 a1 a2).val = some (qbc_v a0 a1 a2) := by
  intro h
  skip
  unfold qbc_t qbc_v
  exact rfl
noncomputable def qbc_S : List Arg → Option (Bool × Res) := fun xs => match xs with
  | [(false, [(.int .i64, TC.i a0)]), (false, [(.ptr 2, TC.p a1)]), (false, [(.ptr 2, TC.p a2)])] => some (true, qbc_mk (qbc_v a0 a1 a2))
  | _ => .none
theorem qbc_e (a0 : Int) (a1 a2 : List TC) : runF tab FT D10 live 58 noLoops [(false, [(.int .i64, TC.i a0)]), (false, [(.ptr 2, TC.p a1)]), (false, [(.ptr 2, TC.p a2)])] = (qbc_t a0 a1 a2).run fun p => some (qbc_mk p) := by kernel_rfl
theorem qbc_s : ∀ xs r, qbc_S xs = some (true, r) → runF tab FT D10 live 58 noLoops xs = some r := by
  intro xs r h
  unfold qbc_S at h
  split at h
  · simp only [Option.some.injEq, Prod.mk.injEq] at h
    obtain ⟨h1, rfl⟩ := h
    exact fun_told (qbc_e _ _ _) (qbc_l _ _ _) rfl
  · cases h
noncomputable def D11 : Dt := also D10 58 qbc_S
theorem d11 : DOk Go.Proofs.Try.prog tab D11 := d10.also mixed_ok tab_ok names_ok noLoops_ok qbc_s
abbrev qj_2_σ := LL × List TC × List TC × Int × Int
abbrev qj_2_ω := (Int) ⊕ (Unit)
noncomputable def qj_2_step (A : LL) (lw hg : List TC) (m i : Int) : Tr (qj_2_σ ⊕ qj_2_ω) := (.ite ((decide (i < m)) = true) (.ite ((0 : Int) ≤ i ∧ i < (A.length : Int)) (.ite ((!(qba_v ((nth (row A i) 0).int) ((nth lw 0).int) ((nth hg 0).int))) = true) (.ok (.inr (.inl i)))
    (.ok (.inl (A, lw, hg, m, (IntKind.wrap .i64 (i + (1 : Int)))))))
   .no)
  (.ok (.inr (.inr ()))))
noncomputable def qj_2_st : qj_2_σ → Tr (qj_2_σ ⊕ qj_2_ω) := fun x => (qj_2_step (x.1) (x.2.1) (x.2.2.1) (x.2.2.2.1) (x.2.2.2.2))
noncomputable def qj_k2_1 (A : LL) (lw hg : List TC) (m i : Int) : Bool := A.all (inR (nth lw 0).int (nth hg 0).int)
noncomputable def qj_o2_2 (A : LL) (lw hg : List TC) (m i : Int) : Bool := is (i = 0 ∧ Typed tab (.slice 2) (.l A) ∧ m = (A.length : Int))
noncomputable def qj_o2_3 (A : LL) (lw hg : List TC) (m i : Int) : Bool := is (i = 0 ∧ Typed tab (.slice 2) (.l A) ∧ m = (A.length : Int))
noncomputable def qj_u2_3 (A : LL) (lw hg : List TC) (m i : Int) : Int := (Int.ofNat (A.findIdx fun x => !(inR (nth lw 0).int (nth hg 0).int) x))
noncomputable def qj_2_fin (A : LL) (lw hg : List TC) (m i : Int) : Told qj_2_ω := (.br (qj_k2_1 A lw hg m i) (.leaf (qj_o2_2 A lw hg m i) (.inr ())) (.leaf (qj_o2_3 A lw hg m i) (.inl (qj_u2_3 A lw hg m i))))
def qj_2_sl (x : qj_2_σ) : List Slot := [⟨.val false [⟨.slice 2, .sh, TC.l (x.1)⟩], ⟨0, 0⟩⟩, ⟨.val false [⟨.func, .sh, TC.f 58 [(2, x.2.1), (2, x.2.2.1)]⟩], ⟨0, 0⟩⟩, ⟨.val false [⟨.int .i64, .sh, TC.i (x.2.2.2.1)⟩], ⟨0, 0⟩⟩, ⟨.val false [⟨.int .i64, .sh, TC.i (x.2.2.2.2)⟩], ⟨0, 0⟩⟩]
def qj_2_out : qj_2_ω → Ex × List Slot := (Sum.elim (fun x => (.ret, [⟨.val false [⟨.int .i64, .sh, TC.i x⟩], ⟨0, 0⟩⟩])) (fun x => (.exit 0, [Slot.none])))
noncomputable def qj_lo2 : List Slot → Option (Told (Ex × List Slot)) := fun s => match s with
  | [⟨.val false [⟨.slice 2, .sh, TC.l A⟩], ⟨0, 0⟩⟩, ⟨.val false [⟨.func, .sh, TC.f 58 [(2, lw), (2, hg)]⟩], ⟨0, 0⟩⟩, ⟨.val false [⟨.int .i64, .sh, TC.i m⟩], ⟨0, 0⟩⟩, ⟨.val false [⟨.int .i64, .sh, TC.i i⟩], ⟨0, 0⟩⟩] => some (((qj_2_fin A lw hg m i)).map qj_2_out)
  | _ => .none
noncomputable def qj_lo : LoopTeller := fun r s => bif Nat.beq r 2 then qj_lo2 s else .none
theorem qj_2_r (A : LL) (lw hg : List TC) (m i : Int) (fuel : Nat) : rounds (rnd tab FT D11 live 64 qj_lo 0 2) leave (fuel + 1) (qj_2_sl (A, lw, hg, m, i)) = ((qj_2_step A lw hg m i)).run (goOn (fun s => rounds (rnd tab FT D11 live 64 qj_lo 0 2) leave fuel (qj_2_sl s)) fun w => some (qj_2_out w)) := by kernel_rfl
theorem qj_2_h (A : LL) (lw hg : List TC) (m i : Int) (ow : qj_2_ω) : ((qj_2_fin A lw hg m i)).val = some ow → ∃ fuel, loopN qj_2_st fuel (A, lw, hg, m, i) = some ow := by
  intro h
  have key : Typed tab (.slice 2) (.l A) → loopN qj_2_st (A.length + 1) (A, lw, hg, (A.length : Int), (0 : Int)) = some (if A.all (inR (nth lw 0).int (nth hg 0).int) = true then (.inr ()) else (.inl (Int.ofNat (A.findIdx fun x => !(inR (nth lw 0).int (nth hg 0).int) x)))) := by
    intro ht
    have hlen : A.length ≤ 140737488351232 := by have := typed_room ht; simp only [show (tab 2).bytes = 8 from rfl] at this; omega
    have key := loopN_scan (step := qj_2_st) A [] (inR (nth lw 0).int (nth hg 0).int) (fun a _ => a) (fun i a => (A, lw, hg, (A.length : Int), (i : Int))) (fun a => (.inr ())) (fun i a => (.inl (i : Int))) (fun i a hi => ?_) (fun a => ?_) A.length 0 () (by omega)
    · first | (rw [Nat.zero_add] at key; exact key) | exact key
    · skip
      show (qj_2_step A lw hg (A.length : Int) (i : Int)).val = _
      unfold qj_2_step
      refine Tr.t (by simp; omega) ?_
      skip
      refine Tr.t (by first | omega | (constructor <;> omega)) ?_
      refine Tr.b (P := (inR (nth lw 0).int (nth hg 0).int) (A.getD i [])) (fun hP => ?_) (fun _ => rfl)
      rw [Tr.val_ok, wrap64 (i := (i : Int) + 1) (by omega) (by omega)]; rfl
    · show (qj_2_step A lw hg (A.length : Int) (A.length : Int)).val = _
      refine Tr.n (by simp) ?_
      rfl
  simp only [qj_2_fin, Told.val] at h
  cases hk : A.all (inR (nth lw 0).int (nth hg 0).int) with
  | true =>
    rw [if_pos (show qj_k2_1 A lw hg m i = true from hk)] at h
    split at h
    · rename_i ho
      obtain ⟨rfl, ht, rfl⟩ := is_iff.1 ho
      cases h
      refine ⟨_, (key ht).trans ?_⟩
      rw [hk]; rfl
    · cases h
  | false =>
    rw [if_neg (show ¬qj_k2_1 A lw hg m i = true from by rw [show qj_k2_1 A lw hg m i = (A.all (inR (nth lw 0).int (nth hg 0).int)) from rfl, hk]; simp)] at h
    split at h
    · rename_i ho
      obtain ⟨rfl, ht, rfl⟩ := is_iff.1 ho
      cases h
      refine ⟨_, (key ht).trans ?_⟩
      rw [hk]; rfl
    · cases h
theorem qj_is2 : LoopIs tab FT D11 live 64 qj_lo 0 2 := by
  refine loop_told (sl := qj_2_sl) (step := qj_2_st) (out := qj_2_out) (lor := qj_lo2) (fin := fun x => (qj_2_fin (x.1) (x.2.1) (x.2.2.1) (x.2.2.2.1) (x.2.2.2.2))) (fun _ => rfl) ?_ (fun x n => qj_2_r x.1 x.2.1 x.2.2.1 x.2.2.2.1 x.2.2.2.2 n) (fun x ow => qj_2_h x.1 x.2.1 x.2.2.1 x.2.2.2.1 x.2.2.2.2 ow)
  intro s t h
  unfold qj_lo2 at h
  split at h
  · cases h; exact ⟨(_, _, _, _, _), rfl, rfl⟩
  · cases h
noncomputable def qj_t (A : LL) (lw hg : List TC) : Tr (Int) := (.ite ((qj_k2_1 A lw hg (A.length : Int) (0 : Int)) = true) (.ite ((qj_o2_2 A lw hg (A.length : Int) (0 : Int)) = true) (.ok (-1 : Int))
   .no)
  (.ite ((qj_o2_3 A lw hg (A.length : Int) (0 : Int)) = true) (.ok (qj_u2_3 A lw hg (A.length : Int) (0 : Int)))
   .no))
def qj_mk (p : Int) : Res := [(false, [⟨.int .i64, .sh, TC.i p⟩])]
noncomputable def qj_c (A : LL) (lw hg : List TC) : Bool := is (Typed tab (.slice 2) (.l A))
noncomputable def qj_v (A : LL) (lw hg : List TC) : Int := if (A.all (inR (nth lw 0).int (nth hg 0).int)) = true then -1 else (Int.ofNat (A.findIdx fun x => !(inR (nth lw 0).int (nth hg 0).int) x))
theorem qj_l (A : LL) (lw hg : List TC) : (qj_c A lw hg) = true → (qj_t A lw hg).val = some (qj_v A lw hg) := by
  intro h
  have ht := is_iff.1 h
  unfold qj_t
  cases hk : A.all (inR (nth lw 0).int (nth hg 0).int) with
  | true =>
    refine Tr.t (show A.all (inR (nth lw 0).int (nth hg 0).int) = true from hk) ?_
    refine Tr.t (by first | (apply is_true; and_intros <;> (first | rfl | assumption | (apply qh_cc <;> assumption) | (apply qd_cc <;> assumption) | (first | (apply is_true; and_intros <;> (first | rfl | assumption | (apply qh_cc <;> assumption) | (apply qd_cc <;> assumption) | (first | (apply is_true; and_intros <;> (first | rfl | assumption | (apply qh_cc <;> assumption) | (apply qd_cc <;> assumption) | (first | (apply is_true; and_intros <;> (first | rfl | assumption | (apply qh_cc <;> assumption) | (apply qd_cc <;> assumption))) | (apply qh_cc <;> assumption) | (apply qd_cc <;> assumption)))) | (apply qh_cc <;> assumption) | (apply qd_cc <;> assumption)))) | (apply qh_cc <;> assumption) | (apply qd_cc <;> assumption)))) | (apply qh_cc <;> assumption) | (apply qd_cc <;> assumption)) ?_
    show _ = some (qj_v A lw hg); unfold qj_v; rw [if_pos hk]; rfl
  | false =>
    refine Tr.n (show ¬A.all (inR (nth lw 0).int (nth hg 0).int) = true from by rw [hk]; simp) ?_
    refine Tr.t (by first | (apply is_true; and_intros <;> (first | rfl | assumption | (apply qh_cc <;> assumption) | (apply qd_cc <;> assumption) | (first | (apply is_true; and_intros <;> (first | rfl | assumption | (apply qh_cc <;> assumption) | (apply qd_cc <;> assumption) | (first | (apply is_true; and_intros <;> (first | rfl | assumption | (apply qh_cc <;> assumption) | (apply qd_cc <;> assumption) | (first | (apply is_true; and_intros <;> (first | rfl | assumption | (apply qh_cc <;> assumption) | (apply qd_cc <;> assumption))) | (apply qh_cc <;> assumption) | (apply qd_cc <;> assumption)))) | (apply qh_cc <;> assumption) | (apply qd_cc <;> assumption)))) | (apply qh_cc <;> assumption) | (apply qd_cc <;> assumption)))) | (apply qh_cc <;> assumption) | (apply qd_cc <;> assumption)) ?_
    show _ = some (qj_v A lw hg); unfold qj_v; rw [if_neg (by rw [hk]; simp)]; rfl
noncomputable def qj_S : List Arg → Option (Bool × Res) := fun xs => match xs with
  | [(false, [(.slice 2, TC.l A)]), (false, [(.func, TC.f 58 [(2, lw), (2, hg)])])] => some ((qj_c A lw hg), qj_mk (qj_v A lw hg))
  | _ => .none
theorem qj_e (A : LL) (lw hg : List TC) : runF tab FT D11 live 64 qj_lo [(false, [(.slice 2, TC.l A)]), (false, [(.func, TC.f 58 [(2, lw), (2, hg)])])] = (qj_t A lw hg).run fun p => some (qj_mk p) := by kernel_rfl
theorem qj_s : ∀ xs r, qj_S xs = some (true, r) → runF tab FT D11 live 64 qj_lo xs = some r := by
  intro xs r h
  unfold qj_S at h
  split at h
  · simp only [Option.some.injEq, Prod.mk.injEq] at h
    obtain ⟨h1, rfl⟩ := h
    exact fun_told (qj_e _ _ _) (qj_l _ _ _) h1
  · cases h
noncomputable def D12 : Dt := also D11 64 qj_S
theorem d12 : DOk Go.Proofs.Try.prog tab D12 := d11.also mixed_ok tab_ok names_ok (fnLoops_one (by kernel_rfl) qj_is2) qj_s
noncomputable def qv_t (A : LL) (lw hg : List TC) : Tr (Bool) := (.ite ((qj_c A lw hg) = true) (.ok (decide ((qj_v A lw hg) ≥ (0 : Int))))
  .no)
def qv_mk (p : Bool) : Res := [(false, [⟨.bool, .sh, TC.b p⟩])]
noncomputable def qv_c (A : LL) (lw hg : List TC) : Bool := is (Typed tab (.slice 2) (.l A))
noncomputable def qv_v (A : LL) (lw hg : List TC) : Bool := !(A.all (inR (nth lw 0).int (nth hg 0).int))
theorem qv_l (A : LL) (lw hg : List TC) : (qv_c A lw hg) = true → (qv_t A lw hg).val = some (qv_v A lw hg) := by
  intro h
  have ht := is_iff.1 h
  unfold qv_t
  refine Tr.t (by first | (apply is_true; and_intros <;> (first | rfl | assumption | (apply qh_cc <;> assumption) | (apply qd_cc <;> assumption) | (first | (apply is_true; and_intros <;> (first | rfl | assumption | (apply qh_cc <;> assumption) | (apply qd_cc <;> assumption) | (first | (apply is_true; and_intros <;> (first | rfl | assumption | (apply qh_cc <;> assumption) | (apply qd_cc <;> assumption) | (first | (apply is_true; and_intros <;> (first | rfl | assumption | (apply qh_cc <;> assumption) | (apply qd_cc <;> assumption))) | (apply qh_cc <;> assumption) | (apply qd_cc <;> assumption)))) | (apply qh_cc <;> assumption) | (apply qd_cc <;> assumption)))) | (apply qh_cc <;> assumption) | (apply qd_cc <;> assumption)))) | (apply qh_cc <;> assumption) | (apply qd_cc <;> assumption)) ?_
  show some (decide (qj_v A lw hg ≥ 0)) = some (!(A.all (inR (nth lw 0).int (nth hg 0).int)))
  unfold qj_v
  cases hk : A.all (inR (nth lw 0).int (nth hg 0).int) <;> simp
noncomputable def qv_S : List Arg → Option (Bool × Res) := fun xs => match xs with
  | [(false, [(.slice 2, TC.l A)]), (false, [(.func, TC.f 58 [(2, lw), (2, hg)])])] => some ((qv_c A lw hg), qv_mk (qv_v A lw hg))
  | _ => .none
theorem qv_e (A : LL) (lw hg : List TC) : runF tab FT D12 live 57 noLoops [(false, [(.slice 2, TC.l A)]), (false, [(.func, TC.f 58 [(2, lw), (2, hg)])])] = (qv_t A lw hg).run fun p => some (qv_mk p) := by kernel_rfl
theorem qv_s : ∀ xs r, qv_S xs = some (true, r) → runF tab FT D12 live 57 noLoops xs = some r := by
  intro xs r h
  unfold qv_S at h
  split at h
  · simp only [Option.some.injEq, Prod.mk.injEq] at h
    obtain ⟨h1, rfl⟩ := h
    exact fun_told (qv_e _ _ _) (qv_l _ _ _) h1
  · cases h
noncomputable def D13 : Dt := also D12 57 qv_S
theorem d13 : DOk Go.Proofs.Try.prog tab D13 := d12.also mixed_ok tab_ok names_ok noLoops_ok qv_s
noncomputable def qw_t (a0 : LL) (a1 a2 : Int) : Tr (Bool) := (.ite ((qv_c a0 [TC.i a1] [TC.i a2]) = true) (.ok (!(qv_v a0 [TC.i a1] [TC.i a2])))
  .no)
def qw_mk (p : Bool) : Res := [(false, [⟨.bool, .sh, TC.b p⟩])]
noncomputable def qw_c (a0 : LL) (a1 a2 : Int) : Bool := (qv_c a0 [TC.i a1] [TC.i a2])
noncomputable def qw_v (a0 : LL) (a1 a2 : Int) : Bool := (!(qv_v a0 [TC.i a1] [TC.i a2]))
theorem qw_l (a0 : LL) (a1 a2 : Int) : (qw_c a0 a1 a2) = true → (qw_t a0 a1 a2).val = some (qw_v a0 a1 a2) := by
  intro h
  have hc0 : (qv_c a0 [TC.i a1] [TC.i a2]) = true := h
  unfold qw_t
  exact (Tr.t hc0 rfl)
noncomputable def qw_S : List Arg → Option (Bool × Res) := fun xs => match xs with
  | [(false, [(.slice 2, TC.l a0)]), (false, [(.int .i64, TC.i a1)]), (false, [(.int .i64, TC.i a2)])] => some ((qw_c a0 a1 a2), qw_mk (qw_v a0 a1 a2))
  | _ => .none
theorem qw_e (a0 : LL) (a1 a2 : Int) : runF tab FT D13 live 42 noLoops [(false, [(.slice 2, TC.l a0)]), (false, [(.int .i64, TC.i a1)]), (false, [(.int .i64, TC.i a2)])] = (qw_t a0 a1 a2).run fun p => some (qw_mk p) := by kernel_rfl
theorem qw_s : ∀ xs r, qw_S xs = some (true, r) → runF tab FT D13 live 42 noLoops xs = some r := by
  intro xs r h
  unfold qw_S at h
  split at h
  · simp only [Option.some.injEq, Prod.mk.injEq] at h
    obtain ⟨h1, rfl⟩ := h
    exact fun_told (qw_e _ _ _) (qw_l _ _ _) h1
  · cases h
noncomputable def D14 : Dt := also D13 42 qw_S
theorem d14 : DOk Go.Proofs.Try.prog tab D14 := d13.also mixed_ok tab_ok names_ok noLoops_ok qw_s
noncomputable def qbf_t (a0 a1 : Int) (a2 : BS) (a3 : Bool) : Tr (Bool) := (.ite ((qba_v a0 (1 : Int) (255 : Int)) = true) (.ite ((qba_v a1 (0 : Int) (4095 : Int)) = true) (.ok (qba_v (a2.length : Int) (1 : Int) (512 : Int)))
   (.ok false))
  (.ok false))
def qbf_mk (p : Bool) : Res := [(false, [⟨.bool, .sh, TC.b p⟩])]
noncomputable def qbf_c (a0 a1 : Int) (a2 : BS) (a3 : Bool) : Bool := true
noncomputable def qbf_v (a0 a1 : Int) (a2 : BS) (a3 : Bool) : Bool := (bif (qba_v a0 (1 : Int) (255 : Int)) then (bif (qba_v a1 (0 : Int) (4095 : Int)) then (qba_v (a2.length : Int) (1 : Int) (512 : Int)) else false) else false)
theorem qbf_l (a0 a1 : Int) (a2 : BS) (a3 : Bool) : (qbf_c a0 a1 a2 a3) = true → (qbf_t a0 a1 a2 a3).val = some (qbf_v a0 a1 a2 a3) := by
  intro h
  skip
  unfold qbf_t qbf_v
  exact (Tr.s (Tr.s rfl rfl) rfl)
noncomputable def qbf_S : List Arg → Option (Bool × Res) := fun xs => match xs with
  | [(true, [(.int .i64, TC.i a0), (.int .i64, TC.i a1), (.str, TC.s a2), (.bool, TC.b a3)])] => some (true, qbf_mk (qbf_v a0 a1 a2 a3))
  | _ => .none
theorem qbf_e (a0 a1 : Int) (a2 : BS) (a3 : Bool) : runF tab FT D14 live 43 noLoops [(true, [(.int .i64, TC.i a0), (.int .i64, TC.i a1), (.str, TC.s a2), (.bool, TC.b a3)])] = (qbf_t a0 a1 a2 a3).run fun p => some (qbf_mk p) := by kernel_rfl
theorem qbf_s : ∀ xs r, qbf_S xs = some (true, r) → runF tab FT D14 live 43 noLoops xs = some r := by
  intro xs r h
  unfold qbf_S at h
  split at h
  · simp only [Option.some.injEq, Prod.mk.injEq] at h
    obtain ⟨h1, rfl⟩ := h
    exact fun_told (qbf_e _ _ _ _) (qbf_l _ _ _ _) rfl
  · cases h
noncomputable def D15 : Dt := also D14 43 qbf_S
theorem d15 : DOk Go.Proofs.Try.prog tab D15 := d14.also mixed_ok tab_ok names_ok noLoops_ok qbf_s
noncomputable def qbb_t (a0 a1 : Int) (a2 : BS) (a3 : Bool) (a4 a5 : Int) : Tr (Bool) := (.ite ((a0 == a4) = true) (.ok (a1 == a5))
  (.ok false))
def qbb_mk (p : Bool) : Res := [(false, [⟨.bool, .sh, TC.b p⟩])]
noncomputable def qbb_c (a0 a1 : Int) (a2 : BS) (a3 : Bool) (a4 a5 : Int) : Bool := true
noncomputable def qbb_v (a0 a1 : Int) (a2 : BS) (a3 : Bool) (a4 a5 : Int) : Bool := (bif (a0 == a4) then (a1 == a5) else false)
theorem qbb_l (a0 a1 : Int) (a2 : BS) (a3 : Bool) (a4 a5 : Int) : (qbb_c a0 a1 a2 a3 a4 a5) = true → (qbb_t a0 a1 a2 a3 a4 a5).val = some (qbb_v a0 a1 a2 a3 a4 a5) := by
  intro h
  skip
  unfold qbb_t qbb_v
  exact (Tr.s rfl rfl)
noncomputable def qbb_S : List Arg → Option (Bool × Res) := fun xs => match xs with
  | [(true, [(.int .i64, TC.i a0), (.int .i64, TC.i a1), (.str, TC.s a2), (.bool, TC.b a3)]), (false, [(.int .i64, TC.i a4)]), (false, [(.int .i64, TC.i a5)])] => some (true, qbb_mk (qbb_v a0 a1 a2 a3 a4 a5))
  | _ => .none
theorem qbb_e (a0 a1 : Int) (a2 : BS) (a3 : Bool) (a4 a5 : Int) : runF tab FT D15 live 46 noLoops [(true, [(.int .i64, TC.i a0), (.int .i64, TC.i a1), (.str, TC.s a2), (.bool, TC.b a3)]), (false, [(.int .i64, TC.i a4)]), (false, [(.int .i64, TC.i a5)])] = (qbb_t a0 a1 a2 a3 a4 a5).run fun p => some (qbb_mk p) := by kernel_rfl
theorem qbb_s : ∀ xs r, qbb_S xs = some (true, r) → runF tab FT D15 live 46 noLoops xs = some r := by
  intro xs r h
  unfold qbb_S at h
  split at h
  · simp only [Option.some.injEq, Prod.mk.injEq] at h
    obtain ⟨h1, rfl⟩ := h
    exact fun_told (qbb_e _ _ _ _ _ _) (qbb_l _ _ _ _ _ _) rfl
  · cases h
noncomputable def D16 : Dt := also D15 46 qbb_S
theorem d16 : DOk Go.Proofs.Try.prog tab D16 := d15.also mixed_ok tab_ok names_ok noLoops_ok qbb_s
noncomputable def qx_t (a0 a1 : Int) (a2 : BS) (a3 : Bool) (a4 : List TC) : Tr (Bool) := .ok (qbb_v a0 a1 a2 a3 ((nth a4 0).int) ((nth a4 1).int))
def qx_mk (p : Bool) : Res := [(false, [⟨.bool, .sh, TC.b p⟩])]
noncomputable def qx_c (a0 a1 : Int) (a2 : BS) (a3 : Bool) (a4 : List TC) : Bool := true
noncomputable def qx_v (a0 a1 : Int) (a2 : BS) (a3 : Bool) (a4 : List TC) : Bool := (qbb_v a0 a1 a2 a3 ((nth a4 0).int) ((nth a4 1).int))
theorem qx_l (a0 a1 : Int) (a2 : BS) (a3 : Bool) (a4 : List TC) : (qx_c a0 a1 a2 a3 a4) = true → (qx_t a0 a1 a2 a3 a4).val = some (qx_v a0 a1 a2 a3 a4) := by
  intro h
  skip
  unfold qx_t qx_v
  exact rfl
noncomputable def qx_S : List Arg → Option (Bool × Res) := fun xs => match xs with
  | [(true, [(.int .i64, TC.i a0), (.int .i64, TC.i a1), (.str, TC.s a2), (.bool, TC.b a3)]), (false, [(.ptr 48, TC.p a4)])] => some (true, qx_mk (qx_v a0 a1 a2 a3 a4))
  | _ => .none
theorem qx_e (a0 a1 : Int) (a2 : BS) (a3 : Bool) (a4 : List TC) : runF tab FT D16 live 45 noLoops [(true, [(.int .i64, TC.i a0), (.int .i64, TC.i a1), (.str, TC.s a2), (.bool, TC.b a3)]), (false, [(.ptr 48, TC.p a4)])] = (qx_t a0 a1 a2 a3 a4).run fun p => some (qx_mk p) := by kernel_rfl
theorem qx_s : ∀ xs r, qx_S xs = some (true, r) → runF tab FT D16 live 45 noLoops xs = some r := by
  intro xs r h
  unfold qx_S at h
  split at h
  · simp only [Option.some.injEq, Prod.mk.injEq] at h
    obtain ⟨h1, rfl⟩ := h
    exact fun_told (qx_e _ _ _ _ _) (qx_l _ _ _ _ _) rfl
  · cases h
noncomputable def D17 : Dt := also D16 45 qx_S
theorem d17 : DOk Go.Proofs.Try.prog tab D17 := d16.also mixed_ok tab_ok names_ok noLoops_ok qx_s
abbrev qb_2_σ := LL × List TC × Int × Int
abbrev qb_2_ω := (Int) ⊕ (Unit)
noncomputable def qb_2_step (A : LL) (cap0 : List TC) (m i : Int) : Tr (qb_2_σ ⊕ qb_2_ω) := (.ite ((decide (i < m)) = true) (.ite ((0 : Int) ≤ i ∧ i < (A.length : Int)) (.ite ((qx_v ((nth (row A i) 0).int) ((nth (row A i) 1).int) ((nth (row A i) 2).str) ((nth (row A i) 3).bool) cap0) = true) (.ok (.inr (.inl i)))
    (.ok (.inl (A, cap0, m, (IntKind.wrap .i64 (i + (1 : Int)))))))
   .no)
  (.ok (.inr (.inr ()))))
noncomputable def qb_2_st : qb_2_σ → Tr (qb_2_σ ⊕ qb_2_ω) := fun x => (qb_2_step (x.1) (x.2.1) (x.2.2.1) (x.2.2.2))
noncomputable def qb_k2_1 (A : LL) (cap0 : List TC) (m i : Int) : Bool := A.all (fun x => !(qx_v ((nth x 0).int) ((nth x 1).int) ((nth x 2).str) ((nth x 3).bool) cap0))
noncomputable def qb_o2_2 (A : LL) (cap0 : List TC) (m i : Int) : Bool := is (i = 0 ∧ Typed tab (.slice 48) (.l A) ∧ m = (A.length : Int))
noncomputable def qb_o2_3 (A : LL) (cap0 : List TC) (m i : Int) : Bool := is (i = 0 ∧ Typed tab (.slice 48) (.l A) ∧ m = (A.length : Int))
noncomputable def qb_u2_3 (A : LL) (cap0 : List TC) (m i : Int) : Int := (Int.ofNat (A.findIdx fun x => !(fun x => !(qx_v ((nth x 0).int) ((nth x 1).int) ((nth x 2).str) ((nth x 3).bool) cap0)) x))
noncomputable def qb_2_fin (A : LL) (cap0 : List TC) (m i : Int) : Told qb_2_ω := (.br (qb_k2_1 A cap0 m i) (.leaf (qb_o2_2 A cap0 m i) (.inr ())) (.leaf (qb_o2_3 A cap0 m i) (.inl (qb_u2_3 A cap0 m i))))
def qb_2_sl (x : qb_2_σ) : List Slot := [⟨.val false [⟨.slice 48, .sh, TC.l (x.1)⟩], ⟨0, 0⟩⟩, ⟨.val false [⟨.func, .sh, TC.f 45 [(48, x.2.1)]⟩], ⟨0, 0⟩⟩, ⟨.val false [⟨.int .i64, .sh, TC.i (x.2.2.1)⟩], ⟨0, 0⟩⟩, ⟨.val false [⟨.int .i64, .sh, TC.i (x.2.2.2)⟩], ⟨0, 0⟩⟩]
def qb_2_out : qb_2_ω → Ex × List Slot := (Sum.elim (fun x => (.ret, [⟨.val false [⟨.int .i64, .sh, TC.i x⟩], ⟨0, 0⟩⟩])) (fun x => (.exit 0, [Slot.none])))
noncomputable def qb_lo2 : List Slot → Option (Told (Ex × List Slot)) := fun s => match s with
  | [⟨.val false [⟨.slice 48, .sh, TC.l A⟩], ⟨0, 0⟩⟩, ⟨.val false [⟨.func, .sh, TC.f 45 [(48, cap0)]⟩], ⟨0, 0⟩⟩, ⟨.val false [⟨.int .i64, .sh, TC.i m⟩], ⟨0, 0⟩⟩, ⟨.val false [⟨.int .i64, .sh, TC.i i⟩], ⟨0, 0⟩⟩] => some (((qb_2_fin A cap0 m i)).map qb_2_out)
  | _ => .none
noncomputable def qb_lo : LoopTeller := fun r s => bif Nat.beq r 2 then qb_lo2 s else .none
theorem qb_2_r (A : LL) (cap0 : List TC) (m i : Int) (fuel : Nat) : rounds (rnd tab FT D17 live 47 qb_lo 0 2) leave (fuel + 1) (qb_2_sl (A, cap0, m, i)) = ((qb_2_step A cap0 m i)).run (goOn (fun s => rounds (rnd tab FT D17 live 47 qb_lo 0 2) leave fuel (qb_2_sl s)) fun w => some (qb_2_out w)) := by kernel_rfl
theorem qb_2_h (A : LL) (cap0 : List TC) (m i : Int) (ow : qb_2_ω) : ((qb_2_fin A cap0 m i)).val = some ow → ∃ fuel, loopN qb_2_st fuel (A, cap0, m, i) = some ow := by
  intro h
  have key : Typed tab (.slice 48) (.l A) → loopN qb_2_st (A.length + 1) (A, cap0, (A.length : Int), (0 : Int)) = some (if A.all (fun x => !(qx_v ((nth x 0).int) ((nth x 1).int) ((nth x 2).str) ((nth x 3).bool) cap0)) = true then (.inr ()) else (.inl (Int.ofNat (A.findIdx fun x => !(fun x => !(qx_v ((nth x 0).int) ((nth x 1).int) ((nth x 2).str) ((nth x 3).bool) cap0)) x)))) := by
    intro ht
    have hlen : A.length ≤ 140737488351232 := by have := typed_room ht; simp only [show (tab 48).bytes = 40 from rfl] at this; omega
    have key := loopN_scan (step := qb_2_st) A [] (fun x => !(qx_v ((nth x 0).int) ((nth x 1).int) ((nth x 2).str) ((nth x 3).bool) cap0)) (fun a _ => a) (fun i a => (A, cap0, (A.length : Int), (i : Int))) (fun a => (.inr ())) (fun i a => (.inl (i : Int))) (fun i a hi => ?_) (fun a => ?_) A.length 0 () (by omega)
    · first | (rw [Nat.zero_add] at key; exact key) | exact key
    · have c2 : Typed tab (.str) (.s (nth (A.getD i []) 2).str) := typed_s (typed_cell ht (A.getD i []) (mem_getD hi) 2 (by decide))
      show (qb_2_step A cap0 (A.length : Int) (i : Int)).val = _
      unfold qb_2_step
      refine Tr.t (by simp; omega) ?_
      skip
      refine Tr.t (by first | omega | (constructor <;> omega)) ?_
      refine Tr.b2 (fun hP => ?_) (fun _ => rfl)
      rw [Tr.val_ok, wrap64 (i := (i : Int) + 1) (by omega) (by omega)]; rfl
    · show (qb_2_step A cap0 (A.length : Int) (A.length : Int)).val = _
      refine Tr.n (by simp) ?_
      rfl
  simp only [qb_2_fin, Told.val] at h
  cases hk : A.all (fun x => !(qx_v ((nth x 0).int) ((nth x 1).int) ((nth x 2).str) ((nth x 3).bool) cap0)) with
  | true =>
    rw [if_pos (show qb_k2_1 A cap0 m i = true from hk)] at h
    split at h
    · rename_i ho
      obtain ⟨rfl, ht, rfl⟩ := is_iff.1 ho
      cases h
      refine ⟨_, (key ht).trans ?_⟩
      rw [hk]; rfl
    · cases h
  | false =>
    rw [if_neg (show ¬qb_k2_1 A cap0 m i = true from by rw [show qb_k2_1 A cap0 m i = (A.all (fun x => !(qx_v ((nth x 0).int) ((nth x 1).int) ((nth x 2).str) ((nth x 3).bool) cap0))) from rfl, hk]; simp)] at h
    split at h
    · rename_i ho
      obtain ⟨rfl, ht, rfl⟩ := is_iff.1 ho
      cases h
      refine ⟨_, (key ht).trans ?_⟩
      rw [hk]; rfl
    · cases h
theorem qb_is2 : LoopIs tab FT D17 live 47 qb_lo 0 2 := by
  refine loop_told (sl := qb_2_sl) (step := qb_2_st) (out := qb_2_out) (lor := qb_lo2) (fin := fun x => (qb_2_fin (x.1) (x.2.1) (x.2.2.1) (x.2.2.2))) (fun _ => rfl) ?_ (fun x n => qb_2_r x.1 x.2.1 x.2.2.1 x.2.2.2 n) (fun x ow => qb_2_h x.1 x.2.1 x.2.2.1 x.2.2.2 ow)
  intro s t h
  unfold qb_lo2 at h
  split at h
  · cases h; exact ⟨(_, _, _, _), rfl, rfl⟩
  · cases h
noncomputable def qb_t (A : LL) (cap0 : List TC) : Tr (Int) := (.ite ((qb_k2_1 A cap0 (A.length : Int) (0 : Int)) = true) (.ite ((qb_o2_2 A cap0 (A.length : Int) (0 : Int)) = true) (.ok (-1 : Int))
   .no)
  (.ite ((qb_o2_3 A cap0 (A.length : Int) (0 : Int)) = true) (.ok (qb_u2_3 A cap0 (A.length : Int) (0 : Int)))
   .no))
def qb_mk (p : Int) : Res := [(false, [⟨.int .i64, .sh, TC.i p⟩])]
noncomputable def qb_c (A : LL) (cap0 : List TC) : Bool := is (Typed tab (.slice 48) (.l A))
noncomputable def qb_v (A : LL) (cap0 : List TC) : Int := if (A.all (fun x => !(qx_v ((nth x 0).int) ((nth x 1).int) ((nth x 2).str) ((nth x 3).bool) cap0))) = true then -1 else (Int.ofNat (A.findIdx fun x => !(fun x => !(qx_v ((nth x 0).int) ((nth x 1).int) ((nth x 2).str) ((nth x 3).bool) cap0)) x))
theorem qb_l (A : LL) (cap0 : List TC) : (qb_c A cap0) = true → (qb_t A cap0).val = some (qb_v A cap0) := by
  intro h
  have ht := is_iff.1 h
  unfold qb_t
  cases hk : A.all (fun x => !(qx_v ((nth x 0).int) ((nth x 1).int) ((nth x 2).str) ((nth x 3).bool) cap0)) with
  | true =>
    refine Tr.t (show A.all (fun x => !(qx_v ((nth x 0).int) ((nth x 1).int) ((nth x 2).str) ((nth x 3).bool) cap0)) = true from hk) ?_
    refine Tr.t (by first | (apply is_true; and_intros <;> (first | rfl | assumption | (apply qh_cc <;> assumption) | (apply qd_cc <;> assumption) | (first | (apply is_true; and_intros <;> (first | rfl | assumption | (apply qh_cc <;> assumption) | (apply qd_cc <;> assumption) | (first | (apply is_true; and_intros <;> (first | rfl | assumption | (apply qh_cc <;> assumption) | (apply qd_cc <;> assumption) | (first | (apply is_true; and_intros <;> (first | rfl | assumption | (apply qh_cc <;> assumption) | (apply qd_cc <;> assumption))) | (apply qh_cc <;> assumption) | (apply qd_cc <;> assumption)))) | (apply qh_cc <;> assumption) | (apply qd_cc <;> assumption)))) | (apply qh_cc <;> assumption) | (apply qd_cc <;> assumption)))) | (apply qh_cc <;> assumption) | (apply qd_cc <;> assumption)) ?_
    show _ = some (qb_v A cap0); unfold qb_v; rw [if_pos hk]; rfl
  | false =>
    refine Tr.n (show ¬A.all (fun x => !(qx_v ((nth x 0).int) ((nth x 1).int) ((nth x 2).str) ((nth x 3).bool) cap0)) = true from by rw [hk]; simp) ?_
    refine Tr.t (by first | (apply is_true; and_intros <;> (first | rfl | assumption | (apply qh_cc <;> assumption) | (apply qd_cc <;> assumption) | (first | (apply is_true; and_intros <;> (first | rfl | assumption | (apply qh_cc <;> assumption) | (apply qd_cc <;> assumption) | (first | (apply is_true; and_intros <;> (first | rfl | assumption | (apply qh_cc <;> assumption) | (apply qd_cc <;> assumption) | (first | (apply is_true; and_intros <;> (first | rfl | assumption | (apply qh_cc <;> assumption) | (apply qd_cc <;> assumption))) | (apply qh_cc <;> assumption) | (apply qd_cc <;> assumption)))) | (apply qh_cc <;> assumption) | (apply qd_cc <;> assumption)))) | (apply qh_cc <;> assumption) | (apply qd_cc <;> assumption)))) | (apply qh_cc <;> assumption) | (apply qd_cc <;> assumption)) ?_
    show _ = some (qb_v A cap0); unfold qb_v; rw [if_neg (by rw [hk]; simp)]; rfl
noncomputable def qb_S : List Arg → Option (Bool × Res) := fun xs => match xs with
  | [(false, [(.slice 48, TC.l A)]), (false, [(.func, TC.f 45 [(48, cap0)])])] => some ((qb_c A cap0), qb_mk (qb_v A cap0))
  | _ => .none
theorem qb_e (A : LL) (cap0 : List TC) : runF tab FT D17 live 47 qb_lo [(false, [(.slice 48, TC.l A)]), (false, [(.func, TC.f 45 [(48, cap0)])])] = (qb_t A cap0).run fun p => some (qb_mk p) := by kernel_rfl
theorem qb_s : ∀ xs r, qb_S xs = some (true, r) → runF tab FT D17 live 47 qb_lo xs = some r := by
  intro xs r h
  unfold qb_S at h
  split at h
  · simp only [Option.some.injEq, Prod.mk.injEq] at h
    obtain ⟨h1, rfl⟩ := h
    exact fun_told (qb_e _ _) (qb_l _ _) h1
  · cases h
noncomputable def D18 : Dt := also D17 47 qb_S
theorem d18 : DOk Go.Proofs.Try.prog tab D18 := d17.also mixed_ok tab_ok names_ok (fnLoops_one (by kernel_rfl) qb_is2) qb_s
noncomputable def qq_t (A : LL) (cap0 : List TC) : Tr (Bool) := (.ite ((qb_c A cap0) = true) (.ok (decide ((qb_v A cap0) ≥ (0 : Int))))
  .no)
def qq_mk (p : Bool) : Res := [(false, [⟨.bool, .sh, TC.b p⟩])]
noncomputable def qq_c (A : LL) (cap0 : List TC) : Bool := is (Typed tab (.slice 48) (.l A))
noncomputable def qq_v (A : LL) (cap0 : List TC) : Bool := !(A.all (fun x => !(qx_v ((nth x 0).int) ((nth x 1).int) ((nth x 2).str) ((nth x 3).bool) cap0)))
theorem qq_l (A : LL) (cap0 : List TC) : (qq_c A cap0) = true → (qq_t A cap0).val = some (qq_v A cap0) := by
  intro h
  have ht := is_iff.1 h
  unfold qq_t
  refine Tr.t (by first | (apply is_true; and_intros <;> (first | rfl | assumption | (apply qh_cc <;> assumption) | (apply qd_cc <;> assumption) | (first | (apply is_true; and_intros <;> (first | rfl | assumption | (apply qh_cc <;> assumption) | (apply qd_cc <;> assumption) | (first | (apply is_true; and_intros <;> (first | rfl | assumption | (apply qh_cc <;> assumption) | (apply qd_cc <;> assumption) | (first | (apply is_true; and_intros <;> (first | rfl | assumption | (apply qh_cc <;> assumption) | (apply qd_cc <;> assumption))) | (apply qh_cc <;> assumption) | (apply qd_cc <;> assumption)))) | (apply qh_cc <;> assumption) | (apply qd_cc <;> assumption)))) | (apply qh_cc <;> assumption) | (apply qd_cc <;> assumption)))) | (apply qh_cc <;> assumption) | (apply qd_cc <;> assumption)) ?_
  show some (decide (qb_v A cap0 ≥ 0)) = some (!(A.all (fun x => !(qx_v ((nth x 0).int) ((nth x 1).int) ((nth x 2).str) ((nth x 3).bool) cap0))))
  unfold qb_v
  cases hk : A.all (fun x => !(qx_v ((nth x 0).int) ((nth x 1).int) ((nth x 2).str) ((nth x 3).bool) cap0)) <;> simp
noncomputable def qq_S : List Arg → Option (Bool × Res) := fun xs => match xs with
  | [(false, [(.slice 48, TC.l A)]), (false, [(.func, TC.f 45 [(48, cap0)])])] => some ((qq_c A cap0), qq_mk (qq_v A cap0))
  | _ => .none
theorem qq_e (A : LL) (cap0 : List TC) : runF tab FT D18 live 44 noLoops [(false, [(.slice 48, TC.l A)]), (false, [(.func, TC.f 45 [(48, cap0)])])] = (qq_t A cap0).run fun p => some (qq_mk p) := by kernel_rfl
theorem qq_s : ∀ xs r, qq_S xs = some (true, r) → runF tab FT D18 live 44 noLoops xs = some r := by
  intro xs r h
  unfold qq_S at h
  split at h
  · simp only [Option.some.injEq, Prod.mk.injEq] at h
    obtain ⟨h1, rfl⟩ := h
    exact fun_told (qq_e _ _) (qq_l _ _) h1
  · cases h
noncomputable def D19 : Dt := also D18 44 qq_S
theorem d19 : DOk Go.Proofs.Try.prog tab D19 := d18.also mixed_ok tab_ok names_ok noLoops_ok qq_s
noncomputable def qf_f4 (s : Int) (Q : LL) (h mi w : Int) (A : LL) (m i : Int) : (Unit) ⊕ ((Unit) ⊕ (Unit)) := (bif (!(qbf_v ((nth (row A i) 0).int) ((nth (row A i) 1).int) ((nth (row A i) 2).str) ((nth (row A i) 3).bool))) then (.inr (.inl ())) else (bif (qq_v ((Q.take (i).toNat).drop ((0 : Int)).toNat) [TC.i ((nth (row A i) 0).int), TC.i ((nth (row A i) 1).int), TC.s ((nth (row A i) 2).str), TC.b ((nth (row A i) 3).bool)]) then (.inr (.inl ())) else (.inl ())))
noncomputable def qf_e4 (s : Int) (Q : LL) (h mi w : Int) (A : LL) (m : Int) : (Unit) ⊕ (Unit) := .inr ()
noncomputable def qf_R4 (s : Int) (Q : LL) (h mi w : Int) (A : LL) (m i : Int) : (Unit) ⊕ (Unit) := iter (fun i a => (qf_f4 s Q h mi w A m (i : Int))) (fun a => (qf_e4 s Q h mi w A m)) (A.length) 0 ()
abbrev qf_4_σ := Int × LL × Int × Int × Int × LL × Int × Int
abbrev qf_4_ω := (Unit) ⊕ (Unit)
noncomputable def qf_4_step (s : Int) (Q : LL) (h mi w : Int) (A : LL) (m i : Int) : Tr (qf_4_σ ⊕ qf_4_ω) := (.ite ((decide (i < m)) = true) (.ite ((0 : Int) ≤ i ∧ i < (A.length : Int)) (.ite ((!(qbf_v ((nth (row A i) 0).int) ((nth (row A i) 1).int) ((nth (row A i) 2).str) ((nth (row A i) 3).bool))) = true) (.ok (.inr (.inl ())))
    (.ite ((0 : Int) ≤ (0 : Int) ∧ (0 : Int) ≤ i ∧ i ≤ (Q.length : Int)) (.ite ((qq_c ((Q.take (i).toNat).drop ((0 : Int)).toNat) [TC.i ((nth (row A i) 0).int), TC.i ((nth (row A i) 1).int), TC.s ((nth (row A i) 2).str), TC.b ((nth (row A i) 3).bool)]) = true) (.ite ((qq_v ((Q.take (i).toNat).drop ((0 : Int)).toNat) [TC.i ((nth (row A i) 0).int), TC.i ((nth (row A i) 1).int), TC.s ((nth (row A i) 2).str), TC.b ((nth (row A i) 3).bool)]) = true) (.ok (.inr (.inl ())))
       (.ok (.inl (s, Q, h, mi, w, A, m, (IntKind.wrap .i64 (i + (1 : Int)))))))
      .no)
     .no))
   .no)
  (.ok (.inr (.inr ()))))
noncomputable def qf_4_st : qf_4_σ → Tr (qf_4_σ ⊕ qf_4_ω) := fun x => (qf_4_step (x.1) (x.2.1) (x.2.2.1) (x.2.2.2.1) (x.2.2.2.2.1) (x.2.2.2.2.2.1) (x.2.2.2.2.2.2.1) (x.2.2.2.2.2.2.2))
noncomputable def qf_k4_1 (s : Int) (Q : LL) (h mi w : Int) (A : LL) (m i : Int) : Bool := sumIs (qf_R4 s Q h mi w A m i)
noncomputable def qf_o4_2 (s : Int) (Q : LL) (h mi w : Int) (A : LL) (m i : Int) : Bool := is (i = 0 ∧ Typed tab (.slice 48) (.l A) ∧ m = (A.length : Int) ∧ A = Q)
noncomputable def qf_o4_3 (s : Int) (Q : LL) (h mi w : Int) (A : LL) (m i : Int) : Bool := is (i = 0 ∧ Typed tab (.slice 48) (.l A) ∧ m = (A.length : Int) ∧ A = Q)
noncomputable def qf_4_fin (s : Int) (Q : LL) (h mi w : Int) (A : LL) (m i : Int) : Told qf_4_ω := (.br (qf_k4_1 s Q h mi w A m i) (.leaf (qf_o4_2 s Q h mi w A m i) (.inl ())) (.leaf (qf_o4_3 s Q h mi w A m i) (.inr ())))
def qf_4_sl (x : qf_4_σ) : List Slot := [⟨.bx 28 [⟨.int .i64, .sh, TC.i (x.1)⟩, ⟨.slice 48, .sh, TC.l (x.2.1)⟩, ⟨.int .i64, .sh, TC.i (x.2.2.1)⟩, ⟨.int .i64, .sh, TC.i (x.2.2.2.1)⟩, ⟨.int .i64, .sh, TC.i (x.2.2.2.2.1)⟩], ⟨0, 0⟩⟩, ⟨.val false [⟨.slice 48, .sh, TC.l (x.2.2.2.2.2.1)⟩], ⟨0, 0⟩⟩, ⟨.val false [⟨.int .i64, .sh, TC.i (x.2.2.2.2.2.2.1)⟩], ⟨0, 0⟩⟩, ⟨.val false [⟨.int .i64, .sh, TC.i (x.2.2.2.2.2.2.2)⟩], ⟨0, 0⟩⟩]
def qf_4_out : qf_4_ω → Ex × List Slot := (Sum.elim (fun x => (.ret, [⟨.val false [⟨.bool, .sh, TC.b false⟩], ⟨0, 0⟩⟩])) (fun x => (.exit 0, [Slot.none])))
noncomputable def qf_lo4 : List Slot → Option (Told (Ex × List Slot)) := fun s => match s with
  | [⟨.bx 28 [⟨.int .i64, .sh, TC.i s⟩, ⟨.slice 48, .sh, TC.l Q⟩, ⟨.int .i64, .sh, TC.i h⟩, ⟨.int .i64, .sh, TC.i mi⟩, ⟨.int .i64, .sh, TC.i w⟩], ⟨0, 0⟩⟩, ⟨.val false [⟨.slice 48, .sh, TC.l A⟩], ⟨0, 0⟩⟩, ⟨.val false [⟨.int .i64, .sh, TC.i m⟩], ⟨0, 0⟩⟩, ⟨.val false [⟨.int .i64, .sh, TC.i i⟩], ⟨0, 0⟩⟩] => some (((qf_4_fin s Q h mi w A m i)).map qf_4_out)
  | _ => .none
noncomputable def qf_lo : LoopTeller := fun r s => bif Nat.beq r 4 then qf_lo4 s else .none
theorem qf_4_r (s : Int) (Q : LL) (h mi w : Int) (A : LL) (m i : Int) (fuel : Nat) : rounds (rnd tab FT D19 live 20 qf_lo 0 4) leave (fuel + 1) (qf_4_sl (s, Q, h, mi, w, A, m, i)) = ((qf_4_step s Q h mi w A m i)).run (goOn (fun s => rounds (rnd tab FT D19 live 20 qf_lo 0 4) leave fuel (qf_4_sl s)) fun w => some (qf_4_out w)) := by kernel_rfl
theorem qf_f4_eq (s h mi w : Int) (A : LL) (m : Int) (i : Nat) (hi : i < A.length) : qf_f4 s A h mi w A m (i : Int) = bif vslot A (i : Int) then Sum.inl () else Sum.inr (Sum.inl ()) := by
  unfold qf_f4
  have e1 : qbf_v ((nth (row A (i : Int)) 0).int) ((nth (row A (i : Int)) 1).int) ((nth (row A (i : Int)) 2).str) ((nth (row A (i : Int)) 3).bool) = slotOkR (row A (i : Int)) := by
    unfold qbf_v slotOkR
    rw [show qba_v (nth (row A (i : Int)) 0).int 1 255 = inB (nth (row A (i : Int)) 0).int 1 255 from rfl, show qba_v (nth (row A (i : Int)) 1).int 0 4095 = inB (nth (row A (i : Int)) 1).int 0 4095 from rfl, show qba_v ((nth (row A (i : Int)) 2).str.length : Int) 1 512 = inB ((nth (row A (i : Int)) 2).str.length : Int) 1 512 from rfl]
    cases inB (nth (row A (i : Int)) 0).int 1 255 <;> cases inB (nth (row A (i : Int)) 1).int 0 4095 <;> cases inB ((nth (row A (i : Int)) 2).str.length : Int) 1 512 <;> rfl
  have e2 : qq_v ((A.take ((i : Int)).toNat).drop ((0 : Int)).toNat) [TC.i ((nth (row A (i : Int)) 0).int), TC.i ((nth (row A (i : Int)) 1).int), TC.s ((nth (row A (i : Int)) 2).str), TC.b ((nth (row A (i : Int)) 3).bool)] = !(noDup A (i : Int)) := by
    unfold qq_v noDup
    rw [Int.toNat_natCast, show ((0 : Int)).toNat = 0 from rfl, List.drop_zero, allI_take (by omega)]
    refine congrArg (fun b => !b) (allI_congr fun k _ => ?_)
    unfold dupB
    show (!(qx_v _ _ _ _ _)) = _
    unfold qx_v qbb_v
    show (!(bif ((nth (row A (k : Int)) 0).int == (nth (row A (i : Int)) 0).int) then ((nth (row A (k : Int)) 1).int == (nth (row A (i : Int)) 1).int) else false)) = _
    cases ((nth (row A (k : Int)) 0).int == (nth (row A (i : Int)) 0).int) <;> rfl
  rw [e1, e2]
  unfold vslot
  cases slotOkR (row A (i : Int)) <;> cases noDup A (i : Int) <;> rfl
theorem qf_R4_eq (s h mi w : Int) (A : LL) (m : Int) : qf_R4 s A h mi w A m 0 = bif allI (fun i : Nat => vslot A (i : Int)) A.length then Sum.inr () else Sum.inl () := by
  unfold qf_R4
  exact (iter_all (P := fun i : Nat => vslot A (i : Int)) (g := fun _ a => a) (w := Sum.inl ()) fun j a hj => qf_f4_eq s h mi w A m j hj)
theorem qf_4_h (s : Int) (Q : LL) (h mi w : Int) (A : LL) (m i : Int) (ow : qf_4_ω) : ((qf_4_fin s Q h mi w A m i)).val = some ow → ∃ fuel, loopN qf_4_st fuel (s, Q, h, mi, w, A, m, i) = some ow := by
  refine auto_const (R := (qf_R4 s Q h mi w A m i)) rfl (iter_onR (f := (fun i a => (qf_f4 s Q h mi w A m (i : Int)))) (fin := (fun a => (qf_e4 s Q h mi w A m))) (Q := endsAs () ()) (fun i a => by unfold qf_f4; exact (onR_bif rfl (onR_bif rfl trivial))) (fun _ => rfl) _ _ _) ?_
  intro ho
  have ho : is (i = 0 ∧ Typed tab (.slice 48) (.l A) ∧ m = (A.length : Int) ∧ A = Q) = true := ho.elim id id
  obtain ⟨rfl, ht, rfl, rfl⟩ := is_iff.1 ho
  have hlen : A.length ≤ 140737488351232 := by have := typed_room ht; simp only [show (tab 48).bytes = 40 from rfl] at this; omega
  refine ⟨(A.length) + 1, ?_⟩
  refine iter_loop (step := qf_4_st) (A.length) (fun i a => (qf_f4 s A h mi w A (A.length : Int) (i : Int))) (fun a => (qf_e4 s A h mi w A (A.length : Int))) (fun i a => (s, A, h, mi, w, A, (A.length : Int), (i : Int))) (fun _ _ => True) trivial (fun i a hi hI => ⟨?_, fun _ _ => trivial⟩) (fun a hI => ?_)
  · show (qf_4_step s A h mi w A (A.length : Int) (i : Int)).val = _
    unfold qf_4_step qf_f4
    skip
    refine Tr.t (by simp; omega) ?_
    exact (Tr.t (by first | omega | (constructor <;> omega) | (exact is_true (typed_take ht)) | (exact qq_cc (typed_take ht))) (Tr.bf rfl (Tr.t (by first | omega | (constructor <;> omega) | (exact is_true (typed_take ht)) | (exact qq_cc (typed_take ht))) (Tr.t (by first | (exact is_true (typed_take ht)) | (exact qq_cc (typed_take ht)) | (first | (apply is_true; and_intros <;> (first | rfl | assumption | (apply qh_cc <;> assumption) | (apply qd_cc <;> assumption) | (first | (apply is_true; and_intros <;> (first | rfl | assumption | (apply qh_cc <;> assumption) | (apply qd_cc <;> assumption) | (first | (apply is_true; and_intros <;> (first | rfl | assumption | (apply qh_cc <;> assumption) | (apply qd_cc <;> assumption))) | (apply qh_cc <;> assumption) | (apply qd_cc <;> assumption)))) | (apply qh_cc <;> assumption) | (apply qd_cc <;> assumption)))) | (apply qh_cc <;> assumption) | (apply qd_cc <;> assumption))) (Tr.bf rfl (by rw [Tr.val_ok, wrap64 (i := (i : Int) + 1) (by omega) (by omega)]; rfl))))))
  · show (qf_4_step s A h mi w A (A.length : Int) (A.length : Int)).val = _
    refine Tr.n (by first | (simp; done) | (simp; omega) | omega) ?_
    rfl
theorem qf_is4 : LoopIs tab FT D19 live 20 qf_lo 0 4 := by
  refine loop_told (sl := qf_4_sl) (step := qf_4_st) (out := qf_4_out) (lor := qf_lo4) (fin := fun x => (qf_4_fin (x.1) (x.2.1) (x.2.2.1) (x.2.2.2.1) (x.2.2.2.2.1) (x.2.2.2.2.2.1) (x.2.2.2.2.2.2.1) (x.2.2.2.2.2.2.2))) (fun _ => rfl) ?_ (fun x n => qf_4_r x.1 x.2.1 x.2.2.1 x.2.2.2.1 x.2.2.2.2.1 x.2.2.2.2.2.1 x.2.2.2.2.2.2.1 x.2.2.2.2.2.2.2 n) (fun x ow => qf_4_h x.1 x.2.1 x.2.2.1 x.2.2.2.1 x.2.2.2.2.1 x.2.2.2.2.2.1 x.2.2.2.2.2.2.1 x.2.2.2.2.2.2.2 ow)
  intro s t h
  unfold qf_lo4 at h
  split at h
  · cases h; exact ⟨(_, _, _, _, _, _, _, _), rfl, rfl⟩
  · cases h
noncomputable def qf_t (s : Int) (A : LL) (h mi w : Int) : Tr (Bool) := (.ite ((!(qba_v s (1 : Int) (16 : Int))) = true) (.ok false)
  (.ite ((decide ((A.length : Int) > s)) = true) (.ok false)
   (.ite ((qw_c [[TC.i h], [TC.i mi], [TC.i w]] (0 : Int) (1000000 : Int)) = true) (.ite ((!(qw_v [[TC.i h], [TC.i mi], [TC.i w]] (0 : Int) (1000000 : Int))) = true) (.ok false)
     (.ite ((qf_k4_1 s A h mi w A (A.length : Int) (0 : Int)) = true) (.ite ((qf_o4_2 s A h mi w A (A.length : Int) (0 : Int)) = true) (.ok false)
       .no)
      (.ite ((qf_o4_3 s A h mi w A (A.length : Int) (0 : Int)) = true) (.ok true)
       .no)))
    .no)))
def qf_mk (p : Bool) : Res := [(false, [⟨.bool, .sh, TC.b p⟩])]
noncomputable def qf_c (s : Int) (A : LL) (h mi w : Int) : Bool := (bif (!(qba_v s (1 : Int) (16 : Int))) then true else (bif (decide ((A.length : Int) > s)) then true else ((qw_c [[TC.i h], [TC.i mi], [TC.i w]] (0 : Int) (1000000 : Int)) && (bif (!(qw_v [[TC.i h], [TC.i mi], [TC.i w]] (0 : Int) (1000000 : Int))) then true else (bif (qf_k4_1 s A h mi w A (A.length : Int) (0 : Int)) then ((qf_o4_2 s A h mi w A (A.length : Int) (0 : Int)) && true) else ((qf_o4_3 s A h mi w A (A.length : Int) (0 : Int)) && true))))))
noncomputable def qf_v (s : Int) (A : LL) (h mi w : Int) : Bool := (bif (!(qba_v s (1 : Int) (16 : Int))) then false else (bif (decide ((A.length : Int) > s)) then false else (bif (!(qw_v [[TC.i h], [TC.i mi], [TC.i w]] (0 : Int) (1000000 : Int))) then false else (bif (qf_k4_1 s A h mi w A (A.length : Int) (0 : Int)) then false else true))))
theorem qf_l (s : Int) (A : LL) (h mi w : Int) : (qf_c s A h mi w) = true → (qf_t s A h mi w).val = some (qf_v s A h mi w) := by
  unfold qf_t qf_v qf_c
  exact fun h => (Tr.ss h (fun h => rfl) (fun h => (Tr.ss h (fun h => rfl) (fun h => (Tr.gb h fun h => (Tr.ss h (fun h => rfl) (fun h => (Tr.ss h (fun h => (Tr.gb h fun h => rfl)) (fun h => (Tr.gb h fun h => rfl))))))))))
noncomputable def qf_S : List Arg → Option (Bool × Res) := fun xs => match xs with
  | [(true, [(.int .i64, TC.i s), (.slice 48, TC.l A), (.int .i64, TC.i h), (.int .i64, TC.i mi), (.int .i64, TC.i w)])] => some ((qf_c s A h mi w), qf_mk (qf_v s A h mi w))
  | _ => .none
theorem qf_e (s : Int) (A : LL) (h mi w : Int) : runF tab FT D19 live 20 qf_lo [(true, [(.int .i64, TC.i s), (.slice 48, TC.l A), (.int .i64, TC.i h), (.int .i64, TC.i mi), (.int .i64, TC.i w)])] = (qf_t s A h mi w).run fun p => some (qf_mk p) := by kernel_rfl
theorem qf_s : ∀ xs r, qf_S xs = some (true, r) → runF tab FT D19 live 20 qf_lo xs = some r := by
  intro xs r h
  unfold qf_S at h
  split at h
  · simp only [Option.some.injEq, Prod.mk.injEq] at h
    obtain ⟨h1, rfl⟩ := h
    exact fun_told (qf_e _ _ _ _ _) (qf_l _ _ _ _ _) h1
  · cases h
noncomputable def D20 : Dt := also D19 20 qf_S
theorem d20 : DOk Go.Proofs.Try.prog tab D20 := d19.also mixed_ok tab_ok names_ok (fnLoops_one (by kernel_rfl) qf_is4) qf_s
theorem qf_cc {s : Int} {A : LL} {h : Int} {mi : Int} {w : Int} (hA : Typed tab (.slice 48) (.l A)) (h1 : Typed tab (.int .i64) (.i h)) (h2 : Typed tab (.int .i64) (.i mi)) (h3 : Typed tab (.int .i64) (.i w)) : (qf_c s A h mi w) = true := by
  unfold qf_c
  refine bifT (fun b1 => ?_) (fun b1 => ?_)
  · skip
    rfl
  · skip
    refine bifT (fun b2 => ?_) (fun b2 => ?_)
    · skip
      rfl
    · skip
      refine andT (by exact is_true (typed_ints (l := [h, mi, w]) rfl rfl (fun n hn => by simp at hn; rcases hn with rfl | rfl | rfl <;> assumption) (by simp))) ?_
      refine bifT (fun b3 => ?_) (fun b3 => ?_)
      · skip
        rfl
      · skip
        refine bifT (fun b4 => ?_) (fun b4 => ?_)
        · skip
          refine andT (by exact is_true ⟨rfl, hA, rfl, rfl⟩) ?_
          rfl
        · skip
          refine andT (by exact is_true ⟨rfl, hA, rfl, rfl⟩) ?_
          rfl
theorem qf_vv (s : Int) (A : LL) (h mi w : Int) : qf_v s A h mi w = cacheOk s A h mi w := by
  unfold qf_v qf_k4_1 cacheOk
  rw [qf_R4_eq, dgt]
  rw [show qba_v s 1 16 = inB s 1 16 from rfl, show qw_v [[TC.i h], [TC.i mi], [TC.i w]] 0 1000000 = (!(!(inB h 0 1000000 && (inB mi 0 1000000 && (inB w 0 1000000 && true))))) from rfl]
  cases inB s 1 16 <;> cases inB h 0 1000000 <;> cases inB mi 0 1000000 <;> cases inB w 0 1000000 <;> cases decide ((A.length : Int) ≤ s) <;> cases allI (fun i : Nat => vslot A (i : Int)) A.length <;> rfl
def qy_ren : Go.Shelf.Ren := ⟨fun _ => 22, fun n => bif Nat.beq n 4 then 4 else bif Nat.beq n 22 then 26 else 48, fun _ => 0⟩
theorem qy_lays : SlLaysE0.n41 Go.Proofs.Try.prog qy_ren := {
  mixed := by kernel_rfl
  f41 := ⟨Go.Proofs.Try.f22.name, by decide, Go.Proofs.Try.func22.trans (congrArg some (by kernel_rfl))⟩
  t4 := Go.Proofs.Try.underlying4
  a4 := Go.Proofs.Try.isAgg4
  z4 := Go.Proofs.Try.sizeOf4
  v4 := Go.Proofs.Try.zeroValue4
  t22 := Go.Proofs.Try.underlying26
  a22 := Go.Proofs.Try.isAgg26
  z22 := Go.Proofs.Try.sizeOf26
  v22 := Go.Proofs.Try.zeroValue26 }
noncomputable def qy_c (A : LL) : Bool := is (Typed tab (.slice 48) (.l A))
noncomputable def qy_v (A : LL) : LL := A
def qy_mk (p : LL) : Res := [(false, [⟨.slice 48, .own true, TC.l p⟩])]
noncomputable def qy_S : List Arg → Option (Bool × Res) := fun xs => match xs with
  | [(false, [(.slice 48, TC.l A)])] => some ((qy_c A), qy_mk (qy_v A))
  | _ => .none
noncomputable def D21 : Dt := also D20 22 qy_S
theorem d21 : DOk Go.Proofs.Try.prog tab D21 := d20.alsoC names_ok (c := _) Go.Proofs.Try.func22 rfl (by
  intro xs r h w S hargs0 hS hargs
  unfold qy_S at h
  split at h
  · rename_i A
    simp only [Option.some.injEq, Prod.mk.injEq] at h
    obtain ⟨h1, rfl⟩ := h
    obtain ⟨u, us, rfl, ha, hr⟩ := args_cons hargs
    cases args_nil hr
    have ht := is_iff.1 h1
    have hroom := typed_room ht
    simp only [show (tab 48).bytes = 40 from rfl] at hroom
    exact clone_told qy_lays tab_ok rfl (zs := _) rfl (by decide) (deep := true) (fun _ => rfl) hS (arg_rep ha) (show roomFor (tab 48) A.length from by unfold roomFor; simp only [show (tab 48).bytes = 40 from rfl]; omega)
  · cases h)
theorem qy_cc {A : LL} (h : Typed tab (.slice 48) (.l A)) : qy_c A = true := is_true h
noncomputable def qt_t (a0 a1 : Int) (a2 : BS) (a3 : Bool) (a4 : List TC) : Tr (Bool) := .ok (a0 == (nth a4 0).int)
def qt_mk (p : Bool) : Res := [(false, [⟨.bool, .sh, TC.b p⟩])]
noncomputable def qt_c (a0 a1 : Int) (a2 : BS) (a3 : Bool) (a4 : List TC) : Bool := true
noncomputable def qt_v (a0 a1 : Int) (a2 : BS) (a3 : Bool) (a4 : List TC) : Bool := (a0 == (nth a4 0).int)
theorem qt_l (a0 a1 : Int) (a2 : BS) (a3 : Bool) (a4 : List TC) : (qt_c a0 a1 a2 a3 a4) = true → (qt_t a0 a1 a2 a3 a4).val = some (qt_v a0 a1 a2 a3 a4) := by
  intro h
  skip
  unfold qt_t qt_v
  exact rfl
noncomputable def qt_S : List Arg → Option (Bool × Res) := fun xs => match xs with
  | [(true, [(.int .i64, TC.i a0), (.int .i64, TC.i a1), (.str, TC.s a2), (.bool, TC.b a3)]), (false, [(.ptr 2, TC.p a4)])] => some (true, qt_mk (qt_v a0 a1 a2 a3 a4))
  | _ => .none
theorem qt_e (a0 a1 : Int) (a2 : BS) (a3 : Bool) (a4 : List TC) : runF tab FT D21 live 23 noLoops [(true, [(.int .i64, TC.i a0), (.int .i64, TC.i a1), (.str, TC.s a2), (.bool, TC.b a3)]), (false, [(.ptr 2, TC.p a4)])] = (qt_t a0 a1 a2 a3 a4).run fun p => some (qt_mk p) := by kernel_rfl
theorem qt_s : ∀ xs r, qt_S xs = some (true, r) → runF tab FT D21 live 23 noLoops xs = some r := by
  intro xs r h
  unfold qt_S at h
  split at h
  · simp only [Option.some.injEq, Prod.mk.injEq] at h
    obtain ⟨h1, rfl⟩ := h
    exact fun_told (qt_e _ _ _ _ _) (qt_l _ _ _ _ _) rfl
  · cases h
noncomputable def D22 : Dt := also D21 23 qt_S
theorem d22 : DOk Go.Proofs.Try.prog tab D22 := d21.also mixed_ok tab_ok names_ok noLoops_ok qt_s
abbrev qe_2_σ := LL × List TC × Int × Int
abbrev qe_2_ω := (Int) ⊕ (Unit)
noncomputable def qe_2_step (A : LL) (cap0 : List TC) (m i : Int) : Tr (qe_2_σ ⊕ qe_2_ω) := (.ite ((decide (i < m)) = true) (.ite ((0 : Int) ≤ i ∧ i < (A.length : Int)) (.ite ((qt_v ((nth (row A i) 0).int) ((nth (row A i) 1).int) ((nth (row A i) 2).str) ((nth (row A i) 3).bool) cap0) = true) (.ok (.inr (.inl i)))
    (.ok (.inl (A, cap0, m, (IntKind.wrap .i64 (i + (1 : Int)))))))
   .no)
  (.ok (.inr (.inr ()))))
noncomputable def qe_2_st : qe_2_σ → Tr (qe_2_σ ⊕ qe_2_ω) := fun x => (qe_2_step (x.1) (x.2.1) (x.2.2.1) (x.2.2.2))
noncomputable def qe_k2_1 (A : LL) (cap0 : List TC) (m i : Int) : Bool := A.all (fun x => !(qt_v ((nth x 0).int) ((nth x 1).int) ((nth x 2).str) ((nth x 3).bool) cap0))
noncomputable def qe_o2_2 (A : LL) (cap0 : List TC) (m i : Int) : Bool := is (i = 0 ∧ Typed tab (.slice 48) (.l A) ∧ m = (A.length : Int))
noncomputable def qe_o2_3 (A : LL) (cap0 : List TC) (m i : Int) : Bool := is (i = 0 ∧ Typed tab (.slice 48) (.l A) ∧ m = (A.length : Int))
noncomputable def qe_u2_3 (A : LL) (cap0 : List TC) (m i : Int) : Int := (Int.ofNat (A.findIdx fun x => !(fun x => !(qt_v ((nth x 0).int) ((nth x 1).int) ((nth x 2).str) ((nth x 3).bool) cap0)) x))
noncomputable def qe_2_fin (A : LL) (cap0 : List TC) (m i : Int) : Told qe_2_ω := (.br (qe_k2_1 A cap0 m i) (.leaf (qe_o2_2 A cap0 m i) (.inr ())) (.leaf (qe_o2_3 A cap0 m i) (.inl (qe_u2_3 A cap0 m i))))
def qe_2_sl (x : qe_2_σ) : List Slot := [⟨.val false [⟨.slice 48, .sh, TC.l (x.1)⟩], ⟨0, 0⟩⟩, ⟨.val false [⟨.func, .sh, TC.f 23 [(2, x.2.1)]⟩], ⟨0, 0⟩⟩, ⟨.val false [⟨.int .i64, .sh, TC.i (x.2.2.1)⟩], ⟨0, 0⟩⟩, ⟨.val false [⟨.int .i64, .sh, TC.i (x.2.2.2)⟩], ⟨0, 0⟩⟩]
def qe_2_out : qe_2_ω → Ex × List Slot := (Sum.elim (fun x => (.ret, [⟨.val false [⟨.int .i64, .sh, TC.i x⟩], ⟨0, 0⟩⟩])) (fun x => (.exit 0, [Slot.none])))
noncomputable def qe_lo2 : List Slot → Option (Told (Ex × List Slot)) := fun s => match s with
  | [⟨.val false [⟨.slice 48, .sh, TC.l A⟩], ⟨0, 0⟩⟩, ⟨.val false [⟨.func, .sh, TC.f 23 [(2, cap0)]⟩], ⟨0, 0⟩⟩, ⟨.val false [⟨.int .i64, .sh, TC.i m⟩], ⟨0, 0⟩⟩, ⟨.val false [⟨.int .i64, .sh, TC.i i⟩], ⟨0, 0⟩⟩] => some (((qe_2_fin A cap0 m i)).map qe_2_out)
  | _ => .none
noncomputable def qe_lo : LoopTeller := fun r s => bif Nat.beq r 2 then qe_lo2 s else .none
theorem qe_2_r (A : LL) (cap0 : List TC) (m i : Int) (fuel : Nat) : rounds (rnd tab FT D22 live 47 qe_lo 0 2) leave (fuel + 1) (qe_2_sl (A, cap0, m, i)) = ((qe_2_step A cap0 m i)).run (goOn (fun s => rounds (rnd tab FT D22 live 47 qe_lo 0 2) leave fuel (qe_2_sl s)) fun w => some (qe_2_out w)) := by kernel_rfl
theorem qe_2_h (A : LL) (cap0 : List TC) (m i : Int) (ow : qe_2_ω) : ((qe_2_fin A cap0 m i)).val = some ow → ∃ fuel, loopN qe_2_st fuel (A, cap0, m, i) = some ow := by
  intro h
  have key : Typed tab (.slice 48) (.l A) → loopN qe_2_st (A.length + 1) (A, cap0, (A.length : Int), (0 : Int)) = some (if A.all (fun x => !(qt_v ((nth x 0).int) ((nth x 1).int) ((nth x 2).str) ((nth x 3).bool) cap0)) = true then (.inr ()) else (.inl (Int.ofNat (A.findIdx fun x => !(fun x => !(qt_v ((nth x 0).int) ((nth x 1).int) ((nth x 2).str) ((nth x 3).bool) cap0)) x)))) := by
    intro ht
    have hlen : A.length ≤ 140737488351232 := by have := typed_room ht; simp only [show (tab 48).bytes = 40 from rfl] at this; omega
    have key := loopN_scan (step := qe_2_st) A [] (fun x => !(qt_v ((nth x 0).int) ((nth x 1).int) ((nth x 2).str) ((nth x 3).bool) cap0)) (fun a _ => a) (fun i a => (A, cap0, (A.length : Int), (i : Int))) (fun a => (.inr ())) (fun i a => (.inl (i : Int))) (fun i a hi => ?_) (fun a => ?_) A.length 0 () (by omega)
    · first | (rw [Nat.zero_add] at key; exact key) | exact key
    · have c2 : Typed tab (.str) (.s (nth (A.getD i []) 2).str) := typed_s (typed_cell ht (A.getD i []) (mem_getD hi) 2 (by decide))
      show (qe_2_step A cap0 (A.length : Int) (i : Int)).val = _
      unfold qe_2_step
      refine Tr.t (by simp; omega) ?_
      skip
      refine Tr.t (by first | omega | (constructor <;> omega)) ?_
      refine Tr.b2 (fun hP => ?_) (fun _ => rfl)
      rw [Tr.val_ok, wrap64 (i := (i : Int) + 1) (by omega) (by omega)]; rfl
    · show (qe_2_step A cap0 (A.length : Int) (A.length : Int)).val = _
      refine Tr.n (by simp) ?_
      rfl
  simp only [qe_2_fin, Told.val] at h
  cases hk : A.all (fun x => !(qt_v ((nth x 0).int) ((nth x 1).int) ((nth x 2).str) ((nth x 3).bool) cap0)) with
  | true =>
    rw [if_pos (show qe_k2_1 A cap0 m i = true from hk)] at h
    split at h
    · rename_i ho
      obtain ⟨rfl, ht, rfl⟩ := is_iff.1 ho
      cases h
      refine ⟨_, (key ht).trans ?_⟩
      rw [hk]; rfl
    · cases h
  | false =>
    rw [if_neg (show ¬qe_k2_1 A cap0 m i = true from by rw [show qe_k2_1 A cap0 m i = (A.all (fun x => !(qt_v ((nth x 0).int) ((nth x 1).int) ((nth x 2).str) ((nth x 3).bool) cap0))) from rfl, hk]; simp)] at h
    split at h
    · rename_i ho
      obtain ⟨rfl, ht, rfl⟩ := is_iff.1 ho
      cases h
      refine ⟨_, (key ht).trans ?_⟩
      rw [hk]; rfl
    · cases h
theorem qe_is2 : LoopIs tab FT D22 live 47 qe_lo 0 2 := by
  refine loop_told (sl := qe_2_sl) (step := qe_2_st) (out := qe_2_out) (lor := qe_lo2) (fin := fun x => (qe_2_fin (x.1) (x.2.1) (x.2.2.1) (x.2.2.2))) (fun _ => rfl) ?_ (fun x n => qe_2_r x.1 x.2.1 x.2.2.1 x.2.2.2 n) (fun x ow => qe_2_h x.1 x.2.1 x.2.2.1 x.2.2.2 ow)
  intro s t h
  unfold qe_lo2 at h
  split at h
  · cases h; exact ⟨(_, _, _, _), rfl, rfl⟩
  · cases h
noncomputable def qe_t (A : LL) (cap0 : List TC) : Tr (Int) := (.ite ((qe_k2_1 A cap0 (A.length : Int) (0 : Int)) = true) (.ite ((qe_o2_2 A cap0 (A.length : Int) (0 : Int)) = true) (.ok (-1 : Int))
   .no)
  (.ite ((qe_o2_3 A cap0 (A.length : Int) (0 : Int)) = true) (.ok (qe_u2_3 A cap0 (A.length : Int) (0 : Int)))
   .no))
def qe_mk (p : Int) : Res := [(false, [⟨.int .i64, .sh, TC.i p⟩])]
noncomputable def qe_c (A : LL) (cap0 : List TC) : Bool := is (Typed tab (.slice 48) (.l A))
noncomputable def qe_v (A : LL) (cap0 : List TC) : Int := if (A.all (fun x => !(qt_v ((nth x 0).int) ((nth x 1).int) ((nth x 2).str) ((nth x 3).bool) cap0))) = true then -1 else (Int.ofNat (A.findIdx fun x => !(fun x => !(qt_v ((nth x 0).int) ((nth x 1).int) ((nth x 2).str) ((nth x 3).bool) cap0)) x))
theorem qe_l (A : LL) (cap0 : List TC) : (qe_c A cap0) = true → (qe_t A cap0).val = some (qe_v A cap0) := by
  intro h
  have ht := is_iff.1 h
  unfold qe_t
  cases hk : A.all (fun x => !(qt_v ((nth x 0).int) ((nth x 1).int) ((nth x 2).str) ((nth x 3).bool) cap0)) with
  | true =>
    refine Tr.t (show A.all (fun x => !(qt_v ((nth x 0).int) ((nth x 1).int) ((nth x 2).str) ((nth x 3).bool) cap0)) = true from hk) ?_
    refine Tr.t (by first | (apply is_true; and_intros <;> (first | rfl | assumption | (apply qh_cc <;> assumption) | (apply qd_cc <;> assumption) | (apply qf_cc <;> assumption) | (first | (apply is_true; and_intros <;> (first | rfl | assumption | (apply qh_cc <;> assumption) | (apply qd_cc <;> assumption) | (apply qf_cc <;> assumption) | (first | (apply is_true; and_intros <;> (first | rfl | assumption | (apply qh_cc <;> assumption) | (apply qd_cc <;> assumption) | (apply qf_cc <;> assumption) | (first | (apply is_true; and_intros <;> (first | rfl | assumption | (apply qh_cc <;> assumption) | (apply qd_cc <;> assumption) | (apply qf_cc <;> assumption))) | (apply qh_cc <;> assumption) | (apply qd_cc <;> assumption) | (apply qf_cc <;> assumption)))) | (apply qh_cc <;> assumption) | (apply qd_cc <;> assumption) | (apply qf_cc <;> assumption)))) | (apply qh_cc <;> assumption) | (apply qd_cc <;> assumption) | (apply qf_cc <;> assumption)))) | (apply qh_cc <;> assumption) | (apply qd_cc <;> assumption) | (apply qf_cc <;> assumption)) ?_
    show _ = some (qe_v A cap0); unfold qe_v; rw [if_pos hk]; rfl
  | false =>
    refine Tr.n (show ¬A.all (fun x => !(qt_v ((nth x 0).int) ((nth x 1).int) ((nth x 2).str) ((nth x 3).bool) cap0)) = true from by rw [hk]; simp) ?_
    refine Tr.t (by first | (apply is_true; and_intros <;> (first | rfl | assumption | (apply qh_cc <;> assumption) | (apply qd_cc <;> assumption) | (apply qf_cc <;> assumption) | (first | (apply is_true; and_intros <;> (first | rfl | assumption | (apply qh_cc <;> assumption) | (apply qd_cc <;> assumption) | (apply qf_cc <;> assumption) | (first | (apply is_true; and_intros <;> (first | rfl | assumption | (apply qh_cc <;> assumption) | (apply qd_cc <;> assumption) | (apply qf_cc <;> assumption) | (first | (apply is_true; and_intros <;> (first | rfl | assumption | (apply qh_cc <;> assumption) | (apply qd_cc <;> assumption) | (apply qf_cc <;> assumption))) | (apply qh_cc <;> assumption) | (apply qd_cc <;> assumption) | (apply qf_cc <;> assumption)))) | (apply qh_cc <;> assumption) | (apply qd_cc <;> assumption) | (apply qf_cc <;> assumption)))) | (apply qh_cc <;> assumption) | (apply qd_cc <;> assumption) | (apply qf_cc <;> assumption)))) | (apply qh_cc <;> assumption) | (apply qd_cc <;> assumption) | (apply qf_cc <;> assumption)) ?_
    show _ = some (qe_v A cap0); unfold qe_v; rw [if_neg (by rw [hk]; simp)]; rfl
noncomputable def qe_S : List Arg → Option (Bool × Res) := fun xs => match xs with
  | [(false, [(.slice 48, TC.l A)]), (false, [(.func, TC.f 23 [(2, cap0)])])] => some ((qe_c A cap0), qe_mk (qe_v A cap0))
  | _ => .none
theorem qe_e (A : LL) (cap0 : List TC) : runF tab FT D22 live 47 qe_lo [(false, [(.slice 48, TC.l A)]), (false, [(.func, TC.f 23 [(2, cap0)])])] = (qe_t A cap0).run fun p => some (qe_mk p) := by kernel_rfl
theorem qe_s : ∀ xs r, qe_S xs = some (true, r) → runF tab FT D22 live 47 qe_lo xs = some r := by
  intro xs r h
  unfold qe_S at h
  split at h
  · simp only [Option.some.injEq, Prod.mk.injEq] at h
    obtain ⟨h1, rfl⟩ := h
    exact fun_told (qe_e _ _) (qe_l _ _) h1
  · cases h
noncomputable def D23 : Dt := also D22 47 qe_S
theorem d23 : DOk Go.Proofs.Try.prog tab D23 := d22.also mixed_ok tab_ok names_ok (fnLoops_one (by kernel_rfl) qe_is2) qe_s
theorem qg_row {A : LL} {x : List TC} (h : Typed tab (.slice 48) (.l A)) (hx : x ∈ A) : x.length = 4 ∧ [TC.i ((nth x 0).int), TC.i ((nth x 1).int), TC.s ((nth x 2).str), TC.b ((nth x 3).bool)] = x := by
  obtain ⟨hl, hk⟩ := typed_elem h hx
  have e0 : TC.i ((nth x 0).int) = nth x 0 := typed_int_eq (hk 0 (by decide))
  have e1 : TC.i ((nth x 1).int) = nth x 1 := typed_int_eq (hk 1 (by decide))
  have e2 : TC.s ((nth x 2).str) = nth x 2 := typed_str_eq (hk 2 (by decide))
  have e3 : TC.b ((nth x 3).bool) = nth x 3 := typed_bool_eq (hk 3 (by decide))
  refine ⟨hl, ?_⟩
  rw [e0, e1, e2, e3]
  exact (row_eta hl).symm
abbrev qg_5_σ := LL × List TC × Int × Int × LL
abbrev qg_5_ω := (LL × Int × LL)
noncomputable def qg_5_step (S : LL) (cap0 : List TC) (i j : Int) (Z : LL) : Tr (qg_5_σ ⊕ qg_5_ω) := (.ite ((decide (j < (S.length : Int))) = true) (.ite ((0 : Int) ≤ j ∧ j < (S.length : Int)) (.ite ((!(qt_v ((nth (row S j) 0).int) ((nth (row S j) 1).int) ((nth (row S j) 2).str) ((nth (row S j) 3).bool) cap0)) = true) (.ite ((0 : Int) ≤ i ∧ i < (S.length : Int)) (.ok (.inl ((S.set (i).toNat (splice (row S i) 0 [TC.i ((nth (row S j) 0).int), TC.i ((nth (row S j) 1).int), TC.s ((nth (row S j) 2).str), TC.b ((nth (row S j) 3).bool)])), cap0, (IntKind.wrap .i64 (i + (1 : Int))), (IntKind.wrap .i64 (j + (1 : Int))), Z)))
     .no)
    (.ok (.inl (S, cap0, i, (IntKind.wrap .i64 (j + (1 : Int))), Z))))
   .no)
  (.ok (.inr (S, i, Z))))
noncomputable def qg_5_st : qg_5_σ → Tr (qg_5_σ ⊕ qg_5_ω) := fun x => (qg_5_step (x.1) (x.2.1) (x.2.2.1) (x.2.2.2.1) (x.2.2.2.2))
noncomputable def qg_o5_1 (S : LL) (cap0 : List TC) (i j : Int) (Z : LL) : Bool := is (Typed tab (.slice 48) (.l S) ∧ 0 ≤ i ∧ i < j ∧ j ≤ (S.length : Int))
noncomputable def qg_u5_1_0 (S : LL) (cap0 : List TC) (i j : Int) (Z : LL) : LL := (delL (fun x => !(qt_v ((nth x 0).int) ((nth x 1).int) ((nth x 2).str) ((nth x 3).bool) cap0)) (S.drop j.toNat) S i.toNat).1
noncomputable def qg_u5_1_1 (S : LL) (cap0 : List TC) (i j : Int) (Z : LL) : Int := (((delL (fun x => !(qt_v ((nth x 0).int) ((nth x 1).int) ((nth x 2).str) ((nth x 3).bool) cap0)) (S.drop j.toNat) S i.toNat).2 : Nat) : Int)
noncomputable def qg_5_fin (S : LL) (cap0 : List TC) (i j : Int) (Z : LL) : Told qg_5_ω := (.leaf (qg_o5_1 S cap0 i j Z) ((qg_u5_1_0 S cap0 i j Z), (qg_u5_1_1 S cap0 i j Z), Z))
def qg_5_sl (x : qg_5_σ) : List Slot := [⟨.val false [⟨.slice 48, .own true, TC.l (x.1)⟩], ⟨0, 0⟩⟩, ⟨.val false [⟨.func, .sh, TC.f 23 [(2, x.2.1)]⟩], ⟨0, 0⟩⟩, ⟨.val false [⟨.int .i64, .sh, TC.i (x.2.2.1)⟩], ⟨0, 0⟩⟩, ⟨.val false [⟨.int .i64, .sh, TC.i (x.2.2.2.1)⟩], ⟨0, 0⟩⟩, ⟨.gv [⟨.slice 48, .gone, TC.l (x.2.2.2.2)⟩], ⟨0, 0⟩⟩]
def qg_5_out : qg_5_ω → Ex × List Slot := (fun x => (.exit 0, [⟨.val false [⟨.slice 48, .own true, TC.l (x.1)⟩], ⟨0, 0⟩⟩, Slot.none, ⟨.val false [⟨.int .i64, .sh, TC.i (x.2.1)⟩], ⟨0, 0⟩⟩, ⟨.gv [⟨.slice 48, .gone, TC.l (x.2.2)⟩], ⟨0, 0⟩⟩]))
noncomputable def qg_lo5 : List Slot → Option (Told (Ex × List Slot)) := fun s => match s with
  | [⟨.val false [⟨.slice 48, .own true, TC.l S⟩], ⟨0, 0⟩⟩, ⟨.val false [⟨.func, .sh, TC.f 23 [(2, cap0)]⟩], ⟨0, 0⟩⟩, ⟨.val false [⟨.int .i64, .sh, TC.i i⟩], ⟨0, 0⟩⟩, ⟨.val false [⟨.int .i64, .sh, TC.i j⟩], ⟨0, 0⟩⟩, ⟨.gv [⟨.slice 48, .gone, TC.l Z⟩], ⟨0, 0⟩⟩] => some (((qg_5_fin S cap0 i j Z)).map qg_5_out)
  | _ => .none
noncomputable def qg_lo : LoopTeller := fun r s => bif Nat.beq r 5 then qg_lo5 s else .none
theorem qg_5_r (S : LL) (cap0 : List TC) (i j : Int) (Z : LL) (fuel : Nat) : rounds (rnd tab FT D23 live 21 qg_lo 0 5) leave (fuel + 1) (qg_5_sl (S, cap0, i, j, Z)) = ((qg_5_step S cap0 i j Z)).run (goOn (fun s => rounds (rnd tab FT D23 live 21 qg_lo 0 5) leave fuel (qg_5_sl s)) fun w => some (qg_5_out w)) := by kernel_rfl
theorem qg_5_h (S : LL) (cap0 : List TC) (i j : Int) (Z : LL) (ow : qg_5_ω) : ((qg_5_fin S cap0 i j Z)).val = some ow → ∃ fuel, loopN qg_5_st fuel (S, cap0, i, j, Z) = some ow := by
  intro h
  refine auto_leaf (R := ((delL (fun x => !(qt_v ((nth x 0).int) ((nth x 1).int) ((nth x 2).str) ((nth x 3).bool) cap0)) (S.drop (j).toNat) S (i).toNat).1, (((delL (fun x => !(qt_v ((nth x 0).int) ((nth x 1).int) ((nth x 2).str) ((nth x 3).bool) cap0)) (S.drop (j).toNat) S (i).toNat).2 : Nat) : Int), Z)) (fun ho => ?_) h
  obtain ⟨ht, h0, h1, h2⟩ := is_iff.1 ho
  obtain ⟨i0, rfl⟩ := Int.eq_ofNat_of_zero_le h0
  obtain ⟨j0, rfl⟩ := Int.eq_ofNat_of_zero_le (show (0 : Int) ≤ j by omega)
  have hlen : S.length ≤ 140737488351232 := by have := typed_room ht; simp only [show (tab 48).bytes = 40 from rfl] at this; omega
  have key : ∀ (xs : LL) (j i : Nat) (S' : LL), S.drop j = xs → S'.length = S.length → (∀ p : Nat, j ≤ p → row S' (p : Int) = row S (p : Int)) → (∀ x, x ∈ S' → x ∈ S) → i < j → j ≤ S.length →
      ∃ fuel, loopN qg_5_st fuel (S', cap0, (i : Int), (j : Int), Z) = some ((delL (fun x => !(qt_v ((nth x 0).int) ((nth x 1).int) ((nth x 2).str) ((nth x 3).bool) cap0)) xs S' i).1, (((delL (fun x => !(qt_v ((nth x 0).int) ((nth x 1).int) ((nth x 2).str) ((nth x 3).bool) cap0)) xs S' i).2 : Nat) : Int), Z) := by
    intro xs
    induction xs with
    | nil =>
      intro j i S' hx hl hp hm hij hj
      have hjl : j = S.length := by
        have := congrArg List.length hx
        rw [List.length_drop, List.length_nil] at this
        omega
      refine ⟨1, loopN_end ?_⟩
      show (qg_5_step S' cap0 (i : Int) (j : Int) Z).val = _
      unfold qg_5_step
      refine Tr.n (by simp; omega) ?_
      rfl
    | cons x xs ih =>
      intro j i S' hx hl hp hm hij hj
      obtain ⟨hjl, hrow, hdr⟩ := row_drop hx
      have hxS : x ∈ S := by rw [← hrow, row_nat]; exact mem_getD hjl
      have hiS : row S' (i : Int) ∈ S := hm _ (by rw [row_nat]; exact mem_getD (by omega))
      have hr := hp j (Nat.le_refl _)
      rw [hrow] at hr
      have hfx := (qg_row ht hxS).2
      have hw1 : IntKind.wrap .i64 ((j : Int) + 1) = ((j + 1 : Nat) : Int) := by rw [wrap64 (by omega) (by omega)]; rfl
      have hw2 : IntKind.wrap .i64 ((i : Int) + 1) = ((i + 1 : Nat) : Int) := by rw [wrap64 (by omega) (by omega)]; rfl
      cases hP : (fun x => !(qt_v ((nth x 0).int) ((nth x 1).int) ((nth x 2).str) ((nth x 3).bool) cap0)) x with
      | true =>
        obtain ⟨fuel, hf⟩ := ih (j + 1) (i + 1) (S'.set i x) hdr (by rw [List.length_set]; exact hl) (fun p hpj => by
          have := hp p (by omega)
          rw [row_nat] at this ⊢
          rw [List.getD_eq_getElem?_getD, List.getElem?_set_ne (by omega), ← List.getD_eq_getElem?_getD]
          exact this) (fun y hy => (List.mem_or_eq_of_mem_set hy).elim (hm y) (fun e => e ▸ hxS)) (by omega) (by omega)
        refine ⟨fuel + 1, ?_⟩
        have hst : (qg_5_st (S', cap0, (i : Int), (j : Int), Z)).val = some (Sum.inl (S'.set i x, cap0, ((i + 1 : Nat) : Int), ((j + 1 : Nat) : Int), Z)) := by
          show (qg_5_step S' cap0 (i : Int) (j : Int) Z).val = _
          unfold qg_5_step
          rw [hr, hw1, hw2, hfx]
          refine Tr.t (by simp; omega) (Tr.t (by constructor <;> omega) (Tr.t hP (Tr.t (by constructor <;> omega) ?_)))
          have hsp : splice (row S' (i : Int)) 0 x = x := by
            unfold splice
            rw [List.take_zero, List.nil_append, List.drop_of_length_le (by rw [(qg_row ht hiS).1, (qg_row ht hxS).1]; omega), List.append_nil]
          rw [Tr.val_ok, hsp]; rfl
        rw [loopN_next hst, hf, delL_t hP]
      | false =>
        obtain ⟨fuel, hf⟩ := ih (j + 1) i S' hdr hl (fun p hpj => hp p (by omega)) hm (by omega) (by omega)
        refine ⟨fuel + 1, ?_⟩
        have hst : (qg_5_st (S', cap0, (i : Int), (j : Int), Z)).val = some (Sum.inl (S', cap0, (i : Int), ((j + 1 : Nat) : Int), Z)) := by
          show (qg_5_step S' cap0 (i : Int) (j : Int) Z).val = _
          unfold qg_5_step
          rw [hr, hw1, hw2, hfx]
          refine Tr.t (by simp; omega) (Tr.t (by constructor <;> omega) (Tr.n (fun hh => Bool.false_ne_true (hP.symm.trans hh)) ?_))
          rfl
        rw [loopN_next hst, hf, delL_f hP]
  exact key (S.drop j0) j0 i0 S rfl rfl (fun _ _ => rfl) (fun _ h => h) (by omega) (by omega)
theorem qg_is5 : LoopIs tab FT D23 live 21 qg_lo 0 5 := by
  refine loop_told (sl := qg_5_sl) (step := qg_5_st) (out := qg_5_out) (lor := qg_lo5) (fin := fun x => (qg_5_fin (x.1) (x.2.1) (x.2.2.1) (x.2.2.2.1) (x.2.2.2.2))) (fun _ => rfl) ?_ (fun x n => qg_5_r x.1 x.2.1 x.2.2.1 x.2.2.2.1 x.2.2.2.2 n) (fun x ow => qg_5_h x.1 x.2.1 x.2.2.1 x.2.2.2.1 x.2.2.2.2 ow)
  intro s t h
  unfold qg_lo5 at h
  split at h
  · cases h; exact ⟨(_, _, _, _, _), rfl, rfl⟩
  · cases h
noncomputable def qg_t (A : LL) (cap0 : List TC) : Tr (LL × LL) := (.ite ((qe_c A cap0) = true) (.ite (((qe_v A cap0) == (-1 : Int)) = true) (.ok (A, A))
   (.ite ((qg_o5_1 A cap0 (qe_v A cap0) (IntKind.wrap .i64 ((qe_v A cap0) + (1 : Int))) A) = true) (.ite ((0 : Int) ≤ (qg_u5_1_1 A cap0 (qe_v A cap0) (IntKind.wrap .i64 ((qe_v A cap0) + (1 : Int))) A) ∧ (qg_u5_1_1 A cap0 (qe_v A cap0) (IntKind.wrap .i64 ((qe_v A cap0) + (1 : Int))) A) ≤ ((qg_u5_1_0 A cap0 (qe_v A cap0) (IntKind.wrap .i64 ((qe_v A cap0) + (1 : Int))) A).length : Int) ∧ ((qg_u5_1_0 A cap0 (qe_v A cap0) (IntKind.wrap .i64 ((qe_v A cap0) + (1 : Int))) A).length : Int) ≤ ((qg_u5_1_0 A cap0 (qe_v A cap0) (IntKind.wrap .i64 ((qe_v A cap0) + (1 : Int))) A).length : Int)) (.ite ((0 : Int) ≤ (0 : Int) ∧ (0 : Int) ≤ (qg_u5_1_1 A cap0 (qe_v A cap0) (IntKind.wrap .i64 ((qe_v A cap0) + (1 : Int))) A) ∧ (qg_u5_1_1 A cap0 (qe_v A cap0) (IntKind.wrap .i64 ((qe_v A cap0) + (1 : Int))) A) ≤ ((splice (qg_u5_1_0 A cap0 (qe_v A cap0) (IntKind.wrap .i64 ((qe_v A cap0) + (1 : Int))) A) ((qg_u5_1_1 A cap0 (qe_v A cap0) (IntKind.wrap .i64 ((qe_v A cap0) + (1 : Int))) A)).toNat (List.replicate ((((qg_u5_1_0 A cap0 (qe_v A cap0) (IntKind.wrap .i64 ((qe_v A cap0) + (1 : Int))) A).length : Int)).toNat - ((qg_u5_1_1 A cap0 (qe_v A cap0) (IntKind.wrap .i64 ((qe_v A cap0) + (1 : Int))) A)).toNat) [TC.i (0 : Int), TC.i (0 : Int), TC.s [], TC.b false])).length : Int)) (.ok (A, ((splice (qg_u5_1_0 A cap0 (qe_v A cap0) (IntKind.wrap .i64 ((qe_v A cap0) + (1 : Int))) A) ((qg_u5_1_1 A cap0 (qe_v A cap0) (IntKind.wrap .i64 ((qe_v A cap0) + (1 : Int))) A)).toNat (List.replicate ((((qg_u5_1_0 A cap0 (qe_v A cap0) (IntKind.wrap .i64 ((qe_v A cap0) + (1 : Int))) A).length : Int)).toNat - ((qg_u5_1_1 A cap0 (qe_v A cap0) (IntKind.wrap .i64 ((qe_v A cap0) + (1 : Int))) A)).toNat) [TC.i (0 : Int), TC.i (0 : Int), TC.s [], TC.b false])).take ((qg_u5_1_1 A cap0 (qe_v A cap0) (IntKind.wrap .i64 ((qe_v A cap0) + (1 : Int))) A)).toNat)))
      .no)
     .no)
    .no))
  .no)
def qg_mk (p : LL × LL) : Res := [(true, [⟨.slice 48, .gone, TC.l (p.1)⟩]), (false, [⟨.slice 48, .own true, TC.l (p.2)⟩])]
noncomputable def qg_c (A : LL) (cap0 : List TC) : Bool := is (Typed tab (.slice 48) (.l A))
noncomputable def qg_v (A : LL) (cap0 : List TC) : LL × LL := (A, A.filter (fun x => !(qt_v ((nth x 0).int) ((nth x 1).int) ((nth x 2).str) ((nth x 3).bool) cap0)))
theorem qg_l (A : LL) (cap0 : List TC) : (qg_c A cap0) = true → (qg_t A cap0).val = some (qg_v A cap0) := by
  intro h
  have ht := is_iff.1 h
  have hlen : A.length ≤ 140737488351232 := by have := typed_room ht; simp only [show (tab 48).bytes = 40 from rfl] at this; omega
  unfold qg_t qg_v
  cases hk : A.all (fun x => !(qt_v ((nth x 0).int) ((nth x 1).int) ((nth x 2).str) ((nth x 3).bool) cap0)) with
  | true =>
    have hv : qe_v A cap0 = -1 := by unfold qe_v; rw [if_pos hk]
    rw [hv]
    refine Tr.t (by first | (apply is_true; and_intros <;> (first | rfl | assumption | (apply qh_cc <;> assumption) | (apply qd_cc <;> assumption) | (apply qf_cc <;> assumption) | (first | (apply is_true; and_intros <;> (first | rfl | assumption | (apply qh_cc <;> assumption) | (apply qd_cc <;> assumption) | (apply qf_cc <;> assumption) | (first | (apply is_true; and_intros <;> (first | rfl | assumption | (apply qh_cc <;> assumption) | (apply qd_cc <;> assumption) | (apply qf_cc <;> assumption) | (first | (apply is_true; and_intros <;> (first | rfl | assumption | (apply qh_cc <;> assumption) | (apply qd_cc <;> assumption) | (apply qf_cc <;> assumption))) | (apply qh_cc <;> assumption) | (apply qd_cc <;> assumption) | (apply qf_cc <;> assumption)))) | (apply qh_cc <;> assumption) | (apply qd_cc <;> assumption) | (apply qf_cc <;> assumption)))) | (apply qh_cc <;> assumption) | (apply qd_cc <;> assumption) | (apply qf_cc <;> assumption)))) | (apply qh_cc <;> assumption) | (apply qd_cc <;> assumption) | (apply qf_cc <;> assumption)) (Tr.t (by simp) ?_)
    rw [List.filter_eq_self.2 (List.all_eq_true.1 hk)]
    rfl
  | false =>
    have hv : qe_v A cap0 = ((A.findIdx fun x => !(fun x => !(qt_v ((nth x 0).int) ((nth x 1).int) ((nth x 2).str) ((nth x 3).bool) cap0)) x : Nat) : Int) := by unfold qe_v; rw [if_neg (by rw [hk]; simp)]; rfl
    obtain ⟨k1, k2, k3⟩ := find_split hk
    rw [filter_split k1 k2 k3]
    rw [hv]
    generalize (A.findIdx fun x => !(fun x => !(qt_v ((nth x 0).int) ((nth x 1).int) ((nth x 2).str) ((nth x 3).bool) cap0)) x) = ix at k1 k2 k3 ⊢
    have hw : IntKind.wrap .i64 ((ix : Int) + 1) = ((ix + 1 : Nat) : Int) := by rw [wrap64 (by omega) (by omega)]; rfl
    rw [hw]
    obtain ⟨d1, d2, d3⟩ := delL_ok (fun x => !(qt_v ((nth x 0).int) ((nth x 1).int) ((nth x 2).str) ((nth x 3).bool) cap0)) (A.drop (ix + 1)) A ix (by rw [List.length_drop]; omega)
    refine Tr.t (by first | (apply is_true; and_intros <;> (first | rfl | assumption | (apply qh_cc <;> assumption) | (apply qd_cc <;> assumption) | (apply qf_cc <;> assumption) | (first | (apply is_true; and_intros <;> (first | rfl | assumption | (apply qh_cc <;> assumption) | (apply qd_cc <;> assumption) | (apply qf_cc <;> assumption) | (first | (apply is_true; and_intros <;> (first | rfl | assumption | (apply qh_cc <;> assumption) | (apply qd_cc <;> assumption) | (apply qf_cc <;> assumption) | (first | (apply is_true; and_intros <;> (first | rfl | assumption | (apply qh_cc <;> assumption) | (apply qd_cc <;> assumption) | (apply qf_cc <;> assumption))) | (apply qh_cc <;> assumption) | (apply qd_cc <;> assumption) | (apply qf_cc <;> assumption)))) | (apply qh_cc <;> assumption) | (apply qd_cc <;> assumption) | (apply qf_cc <;> assumption)))) | (apply qh_cc <;> assumption) | (apply qd_cc <;> assumption) | (apply qf_cc <;> assumption)))) | (apply qh_cc <;> assumption) | (apply qd_cc <;> assumption) | (apply qf_cc <;> assumption)) (Tr.n (by first | (simp; done) | (simp; omega)) (Tr.t (is_true ⟨ht, by omega, by omega, by omega⟩) ?_))
    have u0 : qg_u5_1_0 A cap0 (ix : Int) ((ix + 1 : Nat) : Int) A = (delL (fun x => !(qt_v ((nth x 0).int) ((nth x 1).int) ((nth x 2).str) ((nth x 3).bool) cap0)) (A.drop (ix + 1)) A ix).1 := rfl
    have u1 : qg_u5_1_1 A cap0 (ix : Int) ((ix + 1 : Nat) : Int) A = (((delL (fun x => !(qt_v ((nth x 0).int) ((nth x 1).int) ((nth x 2).str) ((nth x 3).bool) cap0)) (A.drop (ix + 1)) A ix).2 : Nat) : Int) := rfl
    rw [u0, u1]
    generalize (delL (fun x => !(qt_v ((nth x 0).int) ((nth x 1).int) ((nth x 2).str) ((nth x 3).bool) cap0)) (A.drop (ix + 1)) A ix).1 = S' at d1 d2 ⊢
    generalize (delL (fun x => !(qt_v ((nth x 0).int) ((nth x 1).int) ((nth x 2).str) ((nth x 3).bool) cap0)) (A.drop (ix + 1)) A ix).2 = i' at d1 d3 ⊢
    refine Tr.t ⟨by omega, by omega, by omega⟩ (Tr.t ?_ ?_)
    · refine ⟨by omega, by omega, ?_⟩
      rw [splice_length _ _ _ (by rw [List.length_replicate]; omega)]; omega
    · rw [Tr.val_ok]
      show some (A, (splice S' (i' : Int).toNat _).take (i' : Int).toNat) = some (A, _)
      rw [← d1]
      congr 2
      unfold splice
      rw [Int.toNat_natCast, List.append_assoc, List.take_append_of_le_length (by rw [List.length_take]; omega)]
      try rw [List.take_take, Nat.min_self]
noncomputable def qg_S : List Arg → Option (Bool × Res) := fun xs => match xs with
  | [(false, [(.slice 48, TC.l A)]), (false, [(.func, TC.f 23 [(2, cap0)])])] => some ((qg_c A cap0), qg_mk (qg_v A cap0))
  | _ => .none
theorem qg_e (A : LL) (cap0 : List TC) : runFW true tab FT D23 live 21 qg_lo (false, [(.slice 48, TC.l A)]) [(false, [(.func, TC.f 23 [(2, cap0)])])] = (qg_t A cap0).run fun p => some (qg_mk p) := by kernel_rfl
theorem qg_s0 : ∀ ys r, qg_S ys = some (true, r) → ∀ a0 xs, ys = a0 :: xs → runFW true tab FT D23 live 21 qg_lo a0 xs = some r := by
  intro ys r h
  unfold qg_S at h
  split at h
  · simp only [Option.some.injEq, Prod.mk.injEq] at h
    obtain ⟨h1, rfl⟩ := h
    intro a0 xs e
    cases e
    exact fun_toldW (qg_e _ _) (qg_l _ _) h1
  · cases h
theorem qg_s : ∀ a0 xs r, qg_S (a0 :: xs) = some (true, r) → runFW true tab FT D23 live 21 qg_lo a0 xs = some r := fun a0 xs r h => qg_s0 _ r h a0 xs rfl
noncomputable def D24 : Dt := alsoW D23 21 qg_S
theorem d24 : DOk Go.Proofs.Try.prog tab D24 := d23.alsoW mixed_ok tab_ok names_ok (fnLoops_one (by kernel_rfl) qg_is5) qg_s
noncomputable def qc_t (sz : Int) (A : LL) (nh mi wr p : Int) : Tr (Int × LL × Int × Int × Int × Int) := (.ite ((qf_c sz A nh mi wr) = true) (.ite ((!(qf_v sz A nh mi wr)) = true) (.ok ((0 : Int), [], (0 : Int), (0 : Int), (0 : Int), (1 : Int)))
   (.ite ((qy_c A) = true) (.ite ((qg_c (qy_v A) [TC.i p]) = true) (.ok (sz, (qg_v (qy_v A) [TC.i p]).2, nh, mi, wr, (0 : Int)))
     .no)
    .no))
  .no)
def qc_mk (p : Int × LL × Int × Int × Int × Int) : Res := [(true, [⟨.int .i64, .sh, TC.i (p.1)⟩, ⟨.slice 48, .own true, TC.l (p.2.1)⟩, ⟨.int .i64, .sh, TC.i (p.2.2.1)⟩, ⟨.int .i64, .sh, TC.i (p.2.2.2.1)⟩, ⟨.int .i64, .sh, TC.i (p.2.2.2.2.1)⟩]), (false, [⟨.int .i64, .sh, TC.i (p.2.2.2.2.2)⟩])]
noncomputable def qc_c (sz : Int) (A : LL) (nh mi wr p : Int) : Bool := ((qf_c sz A nh mi wr) && (bif (!(qf_v sz A nh mi wr)) then true else ((qy_c A) && ((qg_c (qy_v A) [TC.i p]) && true))))
noncomputable def qc_v (sz : Int) (A : LL) (nh mi wr p : Int) : Int × LL × Int × Int × Int × Int := (bif (!(qf_v sz A nh mi wr)) then ((0 : Int), [], (0 : Int), (0 : Int), (0 : Int), (1 : Int)) else (sz, (qg_v (qy_v A) [TC.i p]).2, nh, mi, wr, (0 : Int)))
theorem qc_l (sz : Int) (A : LL) (nh mi wr p : Int) : (qc_c sz A nh mi wr p) = true → (qc_t sz A nh mi wr p).val = some (qc_v sz A nh mi wr p) := by
  unfold qc_t qc_v qc_c
  exact fun h => (Tr.gb h fun h => (Tr.ss h (fun h => rfl) (fun h => (Tr.gb h fun h => (Tr.gb h fun h => rfl)))))
noncomputable def qc_S : List Arg → Option (Bool × Res) := fun xs => match xs with
  | [(true, [(.int .i64, TC.i sz), (.slice 48, TC.l A), (.int .i64, TC.i nh), (.int .i64, TC.i mi), (.int .i64, TC.i wr)]), (false, [(.int .i64, TC.i p)])] => some ((qc_c sz A nh mi wr p), qc_mk (qc_v sz A nh mi wr p))
  | _ => .none
theorem qc_e (sz : Int) (A : LL) (nh mi wr p : Int) : runF tab FT D24 live 8 noLoops [(true, [(.int .i64, TC.i sz), (.slice 48, TC.l A), (.int .i64, TC.i nh), (.int .i64, TC.i mi), (.int .i64, TC.i wr)]), (false, [(.int .i64, TC.i p)])] = (qc_t sz A nh mi wr p).run fun p => some (qc_mk p) := by kernel_rfl
theorem qc_s : ∀ xs r, qc_S xs = some (true, r) → runF tab FT D24 live 8 noLoops xs = some r := by
  intro xs r h
  unfold qc_S at h
  split at h
  · simp only [Option.some.injEq, Prod.mk.injEq] at h
    obtain ⟨h1, rfl⟩ := h
    exact fun_told (qc_e _ _ _ _ _ _) (qc_l _ _ _ _ _ _) h1
  · cases h
noncomputable def D25 : Dt := also D24 8 qc_S
theorem d25 : DOk Go.Proofs.Try.prog tab D25 := d24.also mixed_ok tab_ok names_ok noLoops_ok qc_s
theorem qc_cc {sz : Int} {A : LL} {nh : Int} {mi : Int} {wr : Int} {p : Int} (ht : Typed tab (.slice 48) (.l A)) (h1 : Typed tab (.int .i64) (.i nh)) (h2 : Typed tab (.int .i64) (.i mi)) (h3 : Typed tab (.int .i64) (.i wr)) : (qc_c sz A nh mi wr p) = true := by
  unfold qc_c
  refine andT (by exact qf_cc ht h1 h2 h3) ?_
  refine bifT (fun b1 => ?_) (fun b1 => ?_)
  · skip
    rfl
  · skip
    refine andT (by exact is_true ht) ?_
    refine andT (by exact is_true ht) ?_
    rfl
theorem qc_vv {sz : Int} {A : LL} {nh mi wr p : Int} : qc_v sz A nh mi wr p = forgetV sz A nh mi wr p := by
  unfold qc_v forgetV
  rw [qf_vv]
  cases cacheOk sz A nh mi wr <;> rfl
noncomputable def qu_t (x0 x1 : Int) (x2 : BS) (x3 : Bool) (y0 y1 : Int) (y2 : BS) (y3 : Bool) : Tr (Bool) := (.ite ((!(x0 == y0)) = true) (.ok false)
  (.ite ((!(x1 == y1)) = true) (.ok false)
   (.ite ((!(x2 == y2)) = true) (.ok false)
    (.ite ((!(x3 == y3)) = true) (.ok false)
     (.ok true)))))
def qu_mk (p : Bool) : Res := [(false, [⟨.bool, .sh, TC.b p⟩])]
noncomputable def qu_c (x0 x1 : Int) (x2 : BS) (x3 : Bool) (y0 y1 : Int) (y2 : BS) (y3 : Bool) : Bool := is (x0 = y0 ∧ x1 = y1 ∧ x2 = y2 ∧ x3 = y3 ∧ Typed tab (.str) (.s x2))
noncomputable def qu_v (x0 x1 : Int) (x2 : BS) (x3 : Bool) (y0 y1 : Int) (y2 : BS) (y3 : Bool) : Bool := true
theorem qu_l (x0 x1 : Int) (x2 : BS) (x3 : Bool) (y0 y1 : Int) (y2 : BS) (y3 : Bool) : (qu_c x0 x1 x2 x3 y0 y1 y2 y3) = true → (qu_t x0 x1 x2 x3 y0 y1 y2 y3).val = some (qu_v x0 x1 x2 x3 y0 y1 y2 y3) := by
  intro h
  obtain ⟨rfl, rfl, rfl, rfl, t0⟩ := is_iff.1 h
  unfold qu_t
  refine Tr.n (by simp) ?_
  refine Tr.n (by simp) ?_
  refine Tr.n (by simp) ?_
  refine Tr.n (by simp) ?_
  rfl
noncomputable def qu_S : List Arg → Option (Bool × Res) := fun xs => match xs with
  | [(true, [(.int .i64, TC.i x0), (.int .i64, TC.i x1), (.str, TC.s x2), (.bool, TC.b x3)]), (true, [(.int .i64, TC.i y0), (.int .i64, TC.i y1), (.str, TC.s y2), (.bool, TC.b y3)])] => some ((qu_c x0 x1 x2 x3 y0 y1 y2 y3), qu_mk (qu_v x0 x1 x2 x3 y0 y1 y2 y3))
  | _ => .none
theorem qu_e (x0 x1 : Int) (x2 : BS) (x3 : Bool) (y0 y1 : Int) (y2 : BS) (y3 : Bool) : runF tab FT D25 live 48 noLoops [(true, [(.int .i64, TC.i x0), (.int .i64, TC.i x1), (.str, TC.s x2), (.bool, TC.b x3)]), (true, [(.int .i64, TC.i y0), (.int .i64, TC.i y1), (.str, TC.s y2), (.bool, TC.b y3)])] = (qu_t x0 x1 x2 x3 y0 y1 y2 y3).run fun p => some (qu_mk p) := by kernel_rfl
theorem qu_s : ∀ xs r, qu_S xs = some (true, r) → runF tab FT D25 live 48 noLoops xs = some r := by
  intro xs r h
  unfold qu_S at h
  split at h
  · simp only [Option.some.injEq, Prod.mk.injEq] at h
    obtain ⟨h1, rfl⟩ := h
    exact fun_told (qu_e _ _ _ _ _ _ _ _) (qu_l _ _ _ _ _ _ _ _) h1
  · cases h
noncomputable def D26 : Dt := also D25 48 qu_S
theorem d26 : DOk Go.Proofs.Try.prog tab D26 := d25.also mixed_ok tab_ok names_ok noLoops_ok qu_s
abbrev qn_4_σ := LL × LL × Int
abbrev qn_4_ω := (Unit) ⊕ (Unit)
noncomputable def qn_4_step (A C : LL) (i : Int) : Tr (qn_4_σ ⊕ qn_4_ω) := (.ite ((decide (i < (A.length : Int))) = true) (.ite ((0 : Int) ≤ i ∧ i < (A.length : Int)) (.ite ((0 : Int) ≤ i ∧ i < (C.length : Int)) (.ite ((qu_c ((nth (row A i) 0).int) ((nth (row A i) 1).int) ((nth (row A i) 2).str) ((nth (row A i) 3).bool) ((nth (row C i) 0).int) ((nth (row C i) 1).int) ((nth (row C i) 2).str) ((nth (row C i) 3).bool)) = true) (.ite ((!(qu_v ((nth (row A i) 0).int) ((nth (row A i) 1).int) ((nth (row A i) 2).str) ((nth (row A i) 3).bool) ((nth (row C i) 0).int) ((nth (row C i) 1).int) ((nth (row C i) 2).str) ((nth (row C i) 3).bool))) = true) (.ok (.inr (.inl ())))
      (.ok (.inl (A, C, (IntKind.wrap .i64 (i + (1 : Int)))))))
     .no)
    .no)
   .no)
  (.ok (.inr (.inr ()))))
noncomputable def qn_4_st : qn_4_σ → Tr (qn_4_σ ⊕ qn_4_ω) := fun x => (qn_4_step (x.1) (x.2.1) (x.2.2))
noncomputable def qn_o4_1 (A C : LL) (i : Int) : Bool := is (A = C ∧ i = 0 ∧ Typed tab (.slice 48) (.l A))
noncomputable def qn_4_fin (A C : LL) (i : Int) : Told qn_4_ω := (.leaf (qn_o4_1 A C i) (.inr ()))
def qn_4_sl (x : qn_4_σ) : List Slot := [⟨.val false [⟨.slice 48, .sh, TC.l (x.1)⟩], ⟨0, 0⟩⟩, ⟨.val false [⟨.slice 48, .sh, TC.l (x.2.1)⟩], ⟨0, 0⟩⟩, ⟨.val false [⟨.int .i64, .sh, TC.i (x.2.2)⟩], ⟨0, 0⟩⟩]
def qn_4_out : qn_4_ω → Ex × List Slot := (Sum.elim (fun x => (.ret, [⟨.val false [⟨.bool, .sh, TC.b false⟩], ⟨0, 0⟩⟩])) (fun x => (.exit 0, [Slot.none])))
noncomputable def qn_lo4 : List Slot → Option (Told (Ex × List Slot)) := fun s => match s with
  | [⟨.val false [⟨.slice 48, .sh, TC.l A⟩], ⟨0, 0⟩⟩, ⟨.val false [⟨.slice 48, .sh, TC.l C⟩], ⟨0, 0⟩⟩, ⟨.val false [⟨.int .i64, .sh, TC.i i⟩], ⟨0, 0⟩⟩] => some (((qn_4_fin A C i)).map qn_4_out)
  | _ => .none
noncomputable def qn_lo : LoopTeller := fun r s => bif Nat.beq r 4 then qn_lo4 s else .none
theorem qn_4_r (A C : LL) (i : Int) (fuel : Nat) : rounds (rnd tab FT D26 live 24 qn_lo 0 4) leave (fuel + 1) (qn_4_sl (A, C, i)) = ((qn_4_step A C i)).run (goOn (fun s => rounds (rnd tab FT D26 live 24 qn_lo 0 4) leave fuel (qn_4_sl s)) fun w => some (qn_4_out w)) := by kernel_rfl
theorem qn_4_h (A C : LL) (i : Int) (ow : qn_4_ω) : ((qn_4_fin A C i)).val = some ow → ∃ fuel, loopN qn_4_st fuel (A, C, i) = some ow := by
  intro h
  simp only [qn_4_fin, Told.val] at h
  split at h
  · rename_i ho
    obtain ⟨rfl, rfl, ht⟩ := is_iff.1 ho
    cases h
    have hlen : A.length ≤ 140737488351232 := by have := typed_room ht; simp only [show (tab 48).bytes = 40 from rfl] at this; omega
    refine ⟨_, loopN_run (N := A.length) (fun i => (A, A, (i : Int))) (fun i hi => ?_) ?_ A.length 0 (by omega)⟩
    · have c2 : Typed tab (.str) (.s (nth (A.getD i []) 2).str) := typed_s (typed_cell ht (A.getD i []) (mem_getD hi) 2 (by decide))
      show (qn_4_step A A (i : Int)).val = _
      unfold qn_4_step
      refine Tr.t (by simp; omega) ?_
      refine Tr.t (by constructor <;> omega) ?_
      refine Tr.t (by constructor <;> omega) ?_
      refine Tr.t (by first | (apply is_true; and_intros <;> (first | rfl | assumption | (apply qh_cc <;> assumption) | (apply qd_cc <;> assumption) | (apply qf_cc <;> assumption) | (apply qc_cc <;> assumption) | (first | (apply is_true; and_intros <;> (first | rfl | assumption | (apply qh_cc <;> assumption) | (apply qd_cc <;> assumption) | (apply qf_cc <;> assumption) | (apply qc_cc <;> assumption) | (first | (apply is_true; and_intros <;> (first | rfl | assumption | (apply qh_cc <;> assumption) | (apply qd_cc <;> assumption) | (apply qf_cc <;> assumption) | (apply qc_cc <;> assumption) | (first | (apply is_true; and_intros <;> (first | rfl | assumption | (apply qh_cc <;> assumption) | (apply qd_cc <;> assumption) | (apply qf_cc <;> assumption) | (apply qc_cc <;> assumption))) | (apply qh_cc <;> assumption) | (apply qd_cc <;> assumption) | (apply qf_cc <;> assumption) | (apply qc_cc <;> assumption)))) | (apply qh_cc <;> assumption) | (apply qd_cc <;> assumption) | (apply qf_cc <;> assumption) | (apply qc_cc <;> assumption)))) | (apply qh_cc <;> assumption) | (apply qd_cc <;> assumption) | (apply qf_cc <;> assumption) | (apply qc_cc <;> assumption)))) | (apply qh_cc <;> assumption) | (apply qd_cc <;> assumption) | (apply qf_cc <;> assumption) | (apply qc_cc <;> assumption)) ?_
      refine Tr.n (by simp [qu_v]) ?_
      rw [Tr.val_ok, wrap64 (i := (i : Int) + 1) (by omega) (by omega)]; rfl
    · show (qn_4_step A A (A.length : Int)).val = _
      refine Tr.n (by simp) ?_
      rfl
  · cases h
theorem qn_is4 : LoopIs tab FT D26 live 24 qn_lo 0 4 := by
  refine loop_told (sl := qn_4_sl) (step := qn_4_st) (out := qn_4_out) (lor := qn_lo4) (fin := fun x => (qn_4_fin (x.1) (x.2.1) (x.2.2))) (fun _ => rfl) ?_ (fun x n => qn_4_r x.1 x.2.1 x.2.2 n) (fun x ow => qn_4_h x.1 x.2.1 x.2.2 ow)
  intro s t h
  unfold qn_lo4 at h
  split at h
  · cases h; exact ⟨(_, _, _), rfl, rfl⟩
  · cases h
noncomputable def qn_t (A C : LL) : Tr (Bool) := (.ite ((!((A.length : Int) == (C.length : Int))) = true) (.ok false)
  (.ite ((qn_o4_1 A C (0 : Int)) = true) (.ok true)
   .no))
def qn_mk (p : Bool) : Res := [(false, [⟨.bool, .sh, TC.b p⟩])]
noncomputable def qn_c (A C : LL) : Bool := is (A = C ∧ Typed tab (.slice 48) (.l A))
noncomputable def qn_v (A C : LL) : Bool := true
theorem qn_l (A C : LL) : (qn_c A C) = true → (qn_t A C).val = some (qn_v A C) := by
  intro h
  obtain ⟨rfl, ht⟩ := is_iff.1 h
  unfold qn_t
  refine Tr.n (by simp) ?_
  refine Tr.t (by first | (apply is_true; and_intros <;> (first | rfl | assumption | (apply qh_cc <;> assumption) | (apply qd_cc <;> assumption) | (apply qf_cc <;> assumption) | (apply qc_cc <;> assumption) | (first | (apply is_true; and_intros <;> (first | rfl | assumption | (apply qh_cc <;> assumption) | (apply qd_cc <;> assumption) | (apply qf_cc <;> assumption) | (apply qc_cc <;> assumption) | (first | (apply is_true; and_intros <;> (first | rfl | assumption | (apply qh_cc <;> assumption) | (apply qd_cc <;> assumption) | (apply qf_cc <;> assumption) | (apply qc_cc <;> assumption) | (first | (apply is_true; and_intros <;> (first | rfl | assumption | (apply qh_cc <;> assumption) | (apply qd_cc <;> assumption) | (apply qf_cc <;> assumption) | (apply qc_cc <;> assumption))) | (apply qh_cc <;> assumption) | (apply qd_cc <;> assumption) | (apply qf_cc <;> assumption) | (apply qc_cc <;> assumption)))) | (apply qh_cc <;> assumption) | (apply qd_cc <;> assumption) | (apply qf_cc <;> assumption) | (apply qc_cc <;> assumption)))) | (apply qh_cc <;> assumption) | (apply qd_cc <;> assumption) | (apply qf_cc <;> assumption) | (apply qc_cc <;> assumption)))) | (apply qh_cc <;> assumption) | (apply qd_cc <;> assumption) | (apply qf_cc <;> assumption) | (apply qc_cc <;> assumption)) ?_
  rfl
end Go.Proofs.Ythhmamgpcojooaa.V
